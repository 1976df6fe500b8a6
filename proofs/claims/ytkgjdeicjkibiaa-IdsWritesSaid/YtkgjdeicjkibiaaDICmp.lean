/- bytes.Compare at two ids' bytes; ids.order, to the world that it leaves; ids.Less. By hand. -/
import Derived.Test.YtkgjdeicjkibiaaDIStep
import Derived.RegionTactic
import Derived.Maps.RangeWalk
import Derived.Shelf.SlSortCmp.WholeK
import Derived.Deep.RegionHeld3
import Derived.Deep.RegionLaw
namespace Go.Proofs.Ytkgjdeicjkibiaa.D
open Go.RowKit Go.Maps Go.Proofs.YtkgjdeicjkibiaaW.PrintWords Go.Proofs.YtkgjdeicjkibiaaW.PrintLast Go.Proofs.YtkgjdeicjkibiaaW.PrintMore Go.Proofs.YtkgjdeicjkibiaaW
set_option linter.unusedVariables false
set_option linter.unusedSimpArgs false
set_option maxHeartbeats 1000000 in
set_option maxRecDepth 100000 in
theorem compare_calls {w : World} {b b' : Nat} {x y : Id} (h : w.rangeAt b 0 (cellsI x)) (h' : w.rangeAt b' 0 (cellsI y)) (hx : okId x) (hy : okId y) :
    Calls Try.prog 44 #[.slice (some ⟨b, 0, none⟩) 32 32, .slice (some ⟨b', 0, none⟩) 32 32] w fun e w' => e = .returned (.int .i64 (cmpI x y)) ∧ w' = w := by
  have hr := run_compare_I (c := 32) (c' := 32) h h' hx hy
  go_enter Try.func44, Try.ntmps44
  go_wp2
  rw [run_callFunc_extern Try.func50 (by kernel_rfl) (by kernel_rfl) (by kernel_rfl) (e := Extern.BytealgCompare.compare) (by kernel_rfl), hr]
  simp only [Result.andThen]
  rw [Oper.upon_value]
  go_wp2
  go_ret
  exact ⟨rfl, rfl⟩
open Go.Sort
/-- a world that has grown, and drawn, out of another one -/
def Gr (W V : World) : Prop := ∃ q os', V = grow (W.drewN q) os'
theorem Gr.refl (W : World) : Gr W W := ⟨0, #[], by simp [grow, World.drewN]⟩
theorem Gr.drewN {W V : World} (h : Gr W V) (n : Nat) : Gr W (V.drewN n) := by
  obtain ⟨q, os, rfl⟩ := h
  exact ⟨q + n, os, by simp [grow, World.drewN, Nat.add_assoc]⟩
theorem Gr.drew {W V : World} (h : Gr W V) : Gr W V.drew := h.drewN 1
theorem Gr.alloc {W V : World} (h : Gr W V) (o : Obj) : Gr W (V.alloc o) := by
  obtain ⟨q, os, rfl⟩ := h
  exact ⟨q, os ++ #[o], by rw [alloc_eq_grow, grow_grow]⟩
set_option maxHeartbeats 4000000 in
set_option maxRecDepth 100000 in
theorem order_exact {x y : Id} (hx : okId x) (hy : okId y) (W : World) : Calls Try.prog 37 #[valI x, valI y] W fun e w' => e = .returned (.int .i64 (cmpI x y)) ∧ ∃ q os', w' = grow (W.drewN q) os' := by
  have HC : Aside0 (∀ (V : World) (b b' : Nat), V.rangeAt b 0 (cellsI x) → V.rangeAt b' 0 (cellsI y) → Calls Try.prog 44 #[.slice (some ⟨b, 0, none⟩) 32 32, .slice (some ⟨b', 0, none⟩) 32 32] V fun e w' => e = .returned (.int .i64 (cmpI x y)) ∧ w' = V) := ⟨fun V b b' h h' => compare_calls h h' hx hy⟩
  have hu := Try.underlying23
  generalize cmpI x y = r at HC ⊢
  go_enter Try.func37, Try.ntmps37
  go_wp2_with fail
  have hg : Gr W ((W.alloc (.cells (arrI x) 23)).alloc (.cells (arrI y) 23)) := Gr.alloc (Gr.alloc (Gr.refl W) _) _
  have hb1 : ((W.alloc (.cells (arrI x) 23)).alloc (.cells (arrI y) 23)).rangeAt W.heap.size 0 (cellsI x) := range_of_blk (blk_alloc (blk_new W _) _)
  have hb2 : ((W.alloc (.cells (arrI x) 23)).alloc (.cells (arrI y) 23)).rangeAt (W.heap.size + 1) 0 (cellsI y) := range_of_blk (t := 23) (show _ = some (Obj.cells (arrI y) 23 (0, 0)) by have := blk_new (W.alloc (.cells (arrI x) 23)) (.cells (arrI y) 23); simpa using this)
  revert hg hb1 hb2
  generalize ((W.alloc (.cells (arrI x) 23)).alloc (.cells (arrI y) 23)) = V
  intro hg hb1 hb2
  have HG := Aside0.mk hg
  have HR1 := Aside0.mk hb1
  have HR2 := Aside0.mk hb2
  clear hg hb1 hb2
  go_region_law (first
     | (go_simp; go_at_call 44; (with_reducible refine (HC.out _ _ _ ?h1 ?h2).mono ?_); (case h1 => exact range_below HR1.out (below_drew (Below.refl _ _))); (case h2 => exact range_below HR2.out (below_drew (Below.refl _ _))); rintro e w' ⟨rfl, rfl⟩))
  all_goals
    go_wp2
    go_ret
    exact ⟨rfl, HG.out.drew⟩
theorem Gr.below {W V : World} (h : Gr W V) : Below W.heap.size W V := by
  obtain ⟨q, os, rfl⟩ := h
  have h1 := pw_below_drewN (Below.refl W.heap.size W) q
  exact ⟨h1.os, h1.tape, h1.output, by simp [grow, World.drewN], fun k hk => by rw [heap_grow_old _ _ (by simpa [World.drewN] using hk)]; exact h1.block k hk⟩
set_option maxHeartbeats 4000000 in
set_option maxRecDepth 100000 in
theorem less_calls {x y : Id} (hx : okId x) (hy : okId y) (W : World) : Calls Try.prog 19 #[valI x, valI y] W fun e w' => e = .returned (.bool (ltI x y)) ∧ Below W.heap.size W w' := by
  have HC : Aside0 (∀ V : World, Calls Try.prog 37 #[valI x, valI y] V fun e w' => e = .returned (.int .i64 (cmpI x y)) ∧ ∃ q os', w' = grow (V.drewN q) os') := ⟨fun V => order_exact hx hy V⟩
  have hlt : decide (cmpI x y < 0) = ltI x y := by
    unfold cmpI
    cases h : ltI x y with
    | true => rfl
    | false => cases h2 : ltI y x <;> rfl
  generalize cmpI x y = r at HC hlt
  generalize ltI x y = s at hlt ⊢
  go_enter Try.func19, Try.ntmps19
  have hb1 : ((W.alloc (.cells (arrI x) 23)).alloc (.cells (arrI y) 23)).rangeAt W.heap.size 0 (cellsI x) := range_of_blk (blk_alloc (blk_new W _) _)
  have hb2 : ((W.alloc (.cells (arrI x) 23)).alloc (.cells (arrI y) 23)).rangeAt (W.heap.size + 1) 0 (cellsI y) := range_of_blk (t := 23) (show _ = some (Obj.cells (arrI y) 23 (0, 0)) by have := blk_new (W.alloc (.cells (arrI x) 23)) (.cells (arrI y) 23); simpa using this)
  have HB := Aside0.mk (below_alloc (below_alloc (Below.refl W.heap.size W) (.cells (arrI x) 23)) (.cells (arrI y) 23))
  have HR1 := Aside0.mk hb1
  have HR2 := Aside0.mk hb2
  clear hb1 hb2
  go_wp2_with (first
    | (refine wpl_load _ _ x HR1.out hx (by rfl) _ (by rfl) (by rfl) ?_; go_frame)
    | (refine wpl_load _ _ y HR2.out hy (by rfl) _ (by rfl) (by rfl) ?_; go_frame)
    | (go_at_call 37; (with_reducible refine (HC.out _).mono ?_); rintro e w' ⟨rfl, hg⟩))
  go_ret
  exact ⟨rfl, below_step HB.out (Gr.below hg)⟩
end Go.Proofs.Ytkgjdeicjkibiaa.D
