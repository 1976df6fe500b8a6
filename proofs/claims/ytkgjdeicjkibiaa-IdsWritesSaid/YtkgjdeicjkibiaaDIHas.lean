/- slices.Index, slices.Contains at ids; ids.Has. By hand. -/
import Derived.Test.YtkgjdeicjkibiaaDISet
import Derived.Deep.RegionHeld
import Derived.DeepKeys
namespace Go.Proofs.Ytkgjdeicjkibiaa.D
open Go.RowKit Go.Maps Go.Proofs.YtkgjdeicjkibiaaW.PrintWords Go.Proofs.YtkgjdeicjkibiaaW.PrintLast Go.Proofs.YtkgjdeicjkibiaaW.PrintMore Go.Proofs.YtkgjdeicjkibiaaW
set_option linter.unusedVariables false
set_option linter.unusedSimpArgs false
set_option maxRecDepth 100000 in
theorem eq_I {x y : Id} (hx : okId x) (hy : okId y) (w : World) : (Op.equal 23 (valI x) (valI y)).run Try.prog w = .ok (decide (x = y)) w := by
  obtain ⟨r, h1, h2⟩ := run_equal_deep (P := Try.prog) w (m := 2) (by omega) (k := 23) (by kernel_rfl) (by rw [Try.underlying23]) (keyOf_I hx) (keyOf_I hy)
  rw [h1]
  congr 1
  have h3 : r = true ↔ x = y := h2.trans ⟨fun e => by injection e, fun e => by rw [e]⟩
  cases r with
  | true => exact (decide_eq_true (h3.1 rfl)).symm
  | false => exact (decide_eq_false (fun e => by cases h3.2 e)).symm
theorem eqIn_I {x y : Id} (hx : okId x) (hy : okId y) : ∀ w : World, (Op.equalIn 10000 23 (valI x) (valI y)).run Try.prog w = .ok (decide (x = y)) w := fun w => eq_I hx hy w
set_option maxHeartbeats 4000000 in
set_option maxRecDepth 100000 in
theorem index_calls (A0 : Option Addr) (c0 : Nat) (l : List Id) {x : Id} (hx : okId x) (w : World) (hr0 : Kd.C kI w A0 l.length l) :
    Calls Try.prog 45 #[.slice A0 l.length c0, valI x] w fun e w' => ∃ i : Int, e = .returned (.int .i64 i) ∧ (0 ≤ i ↔ x ∈ l) ∧ Below w.heap.size w w' := by
  have HR := Aside0.mk hr0
  have HL := Aside0.mk hr0.2.1
  clear hr0
  go_enter Try.func45, Try.ntmps45
  go_wp2_with fail
  have HB0 := Aside0.mk (below_alloc (Below.refl w.heap.size w) (.cells (arrI x) 23))
  have HX0 : Aside0 ((w.alloc (.cells (arrI x) 23)).rangeAt w.heap.size 0 (cellsI x)) := ⟨range_of_blk (t := 23) (blk_new w _)⟩
  go_loopw [8] (fun i wr => ∃ k : Nat, k ≤ l.length ∧ i = .int .i64 k ∧ Aside0 (x ∉ l.take k) ∧ Aside0 (wr.rangeAt w.heap.size 0 (cellsI x)) ∧ Aside0 (Below w.heap.size w wr)) (fun i _ => l.length - (intOf i).toNat)
  case atStart => exact ⟨0, Nat.zero_le _, rfl, ⟨by simp⟩, HX0, HB0⟩
  case round =>
    clear HX0 HB0
    obtain ⟨k, hk, rfl, hN, hX, HB⟩ := hrel
    by_cases hlt : k < l.length
    · obtain ⟨b, o, rfl, hy0, hok⟩ := at_I HR.out k hlt
      have HY := Aside0.mk (range_below hy0 HB.out)
      have hl63 := HL.out
      have hxr := hX.out
      have hN2 : Aside0 (x ≠ rdI l k → x ∉ l.take (k + 1)) := ⟨fun hne => by
        rw [List.take_succ_eq_append_getElem hlt, List.mem_append]
        rintro (h | h)
        · exact hN.out h
        · rw [rdI_at l k hlt] at hne
          exact hne (by simpa using h)⟩
      have hM : Aside0 (x = rdI l k → x ∈ l) := ⟨fun e => by rw [e, rdI_at l k hlt]; exact List.getElem_mem _⟩
      clear hy0
      generalize rdI l k = y at hok HY hN2 hM
      have heq := eqIn_I hx hok
      have HXd : Aside0 (wr.drew.rangeAt w.heap.size 0 (cellsI x)) := ⟨hX.out⟩
      have HYd : Aside0 (wr.drew.rangeAt b (o + k * 32) (cellsI y)) := ⟨HY.out⟩
      have hk0 : (0 : Int) ≤ (k : Int) := Int.natCast_nonneg _
      have hk1 : (k : Int) < (l.length : Int) := by omega
      generalize hq : decide (x = y) = q at heq
      have HQ := Aside0.mk hq
      clear hq
      · go_wp2_with fail
        refine start_ (n := 6) (S := fun w' => w'.rangeAt w.heap.size 0 (cellsI x) ∧ w'.rangeAt b (o + k * 32) (cellsI y)) (ds := []) #[false,false,false,false,false,false] (by kernel_rfl) rfl rfl ⟨HXd.out, HYd.out⟩ (fun hHeld => ?_)
        refine pw_load (i := 0) (N := some 11) (a' := ?_) #[true,false,false,false,false,false] rfl rfl (by kernel_rfl) (fun _ _ _ _ h => h) _ rfl (by rfl) (w.heap.size) (0) (by rfl) (x) (fun _ h => h.1) hx hHeld ?_ ?_
        rotate_left
        ·simp only [Act.put, List.setIfInBounds_toArray, List.set_cons_zero, List.set_cons_succ, i64_w, i32_w]
         rfl
        refine pure_ (i := 1) (N := some 12) (v := ?_) (a' := ?_) #[true,true,false,false,false,false] rfl rfl (by kernel_rfl) (fun _ _ _ h => h) (Or.inl ⟨by rfl, ?_⟩) ?_ ?_
        rotate_left
        ·intro w'
         go_simp
         with_reducible rfl
        rotate_left
        ·simp only [Act.put, List.setIfInBounds_toArray, List.set_cons_zero, List.set_cons_succ, i64_w, i32_w]
         rfl
        refine pure_ (i := 2) (N := some 13) (v := ?_) (a' := ?_) #[true,true,true,false,false,false] rfl rfl (by kernel_rfl) (fun _ _ _ h => h) (Or.inl ⟨by rfl, ?_⟩) ?_ ?_
        rotate_left
        ·intro w'
         go_simp
         with_reducible rfl
        rotate_left
        ·simp only [Act.put, List.setIfInBounds_toArray, List.set_cons_zero, List.set_cons_succ, i64_w, i32_w]
         rfl
        refine pure_ (i := 3) (N := some 14) (v := ?_) (a' := ?_) #[true,true,true,true,false,false] rfl rfl (by kernel_rfl) (fun _ _ _ h => h) (Or.inl ⟨by rfl, ?_⟩) ?_ ?_
        rotate_left
        ·intro w'
         go_simp
         with_reducible rfl
        rotate_left
        ·simp only [Act.put, List.setIfInBounds_toArray, List.set_cons_zero, List.set_cons_succ, i64_w, i32_w]
         rfl
        refine pw_load (i := 4) (N := some 15) (a' := ?_) #[true,true,true,true,true,false] rfl rfl (by kernel_rfl) (fun _ _ _ _ h => h) _ rfl (by rfl) (b) (o + k * 32) (by rfl) (y) (fun _ h => h.2) hok hHeld ?_ ?_
        rotate_left
        ·simp only [Act.put, List.setIfInBounds_toArray, List.set_cons_zero, List.set_cons_succ, i64_w, i32_w]
         rfl
        refine pure_ (i := 5) (N := some 16) (v := ?_) (a' := ?_) #[true,true,true,true,true,true] rfl rfl (by kernel_rfl) (fun _ _ _ h => h) (Or.inl ⟨by rfl, ?_⟩) ?_ ?_
        rotate_left
        ·intro w'
         go_simp
         with_reducible rfl
        rotate_left
        ·simp only [Act.put, List.setIfInBounds_toArray, List.set_cons_zero, List.set_cons_succ, i64_w, i32_w]
         rfl
        refine done_ (by kernel_rfl) ?_
        have HBd := Aside0.mk (below_drew HB.out)
        clear hHeld heq
        cases q with
        | true =>
          go_wp2
          go_ret
          exact ⟨k, rfl, ⟨fun _ => hM.out (of_decide_eq_true HQ.out), fun _ => hk0⟩, HBd.out⟩
        | false =>
          go_wp2
          go_roundw
          case rel => exact ⟨k + 1, by omega, by go_num, ⟨hN2.out (of_decide_eq_false HQ.out)⟩, HXd, HBd⟩
          case measure => simp [intOf]; omega
    · have HE := Aside0.mk (show l.take k = l from List.take_of_length_le (by omega))
      go_wp2
      go_ret
      exact ⟨-1, rfl, ⟨fun h => by omega, fun h => absurd h (by have := hN.out; rwa [HE.out] at this)⟩, HB.out⟩
set_option maxHeartbeats 1000000 in
set_option maxRecDepth 100000 in
theorem contains_calls (A0 : Option Addr) (c0 : Nat) (l : List Id) {x : Id} (hx : okId x) (w : World) (hr0 : Kd.C kI w A0 l.length l) :
    Calls Try.prog 39 #[.slice A0 l.length c0, valI x] w fun e w' => e = .returned (.bool (decide (x ∈ l))) ∧ Below w.heap.size w w' := by
  have HR := Aside0.mk hr0
  clear hr0
  go_enter Try.func39, Try.ntmps39
  have HX0 : Aside0 ((w.alloc (.cells (arrI x) 23)).rangeAt w.heap.size 0 (cellsI x)) := ⟨range_of_blk (t := 23) (blk_new w _)⟩
  have HI := Aside0.mk (index_calls A0 c0 l hx (w.alloc (.cells (arrI x) 23)) (Kd.C_alloc HR.out _))
  have HB0 := Aside0.mk (below_alloc (Below.refl w.heap.size w) (.cells (arrI x) 23))
  go_wp2_with (first
    | (refine wpl_load _ _ x HX0.out hx (by rfl) _ (by rfl) (by rfl) ?_; go_frame)
    | (go_at_call 45; refine HI.out.mono ?_; rintro e w1 ⟨i, rfl, hi, hb⟩; have hd : decide (0 ≤ i) = decide (x ∈ l) := decide_eq_decide.2 hi; have HB1 := Aside0.mk (below_step HB0.out hb)))
  go_ret
  refine ⟨?_, HB1.out⟩
  first | rfl | rw [hd] | (rw [← hd]; simp)
set_option maxHeartbeats 1000000 in
set_option maxRecDepth 100000 in
theorem has_calls (A0 : Option Addr) (c0 : Nat) (l : List Id) {x : Id} (hx : okId x) (w : World) (hr0 : Kd.C kI w A0 l.length l) :
    Calls Try.prog 28 #[.slice A0 l.length c0, valI x] w fun e w' => e = .returned (.bool (decide (x ∈ l))) ∧ Below w.heap.size w w' := by
  have HR := Aside0.mk hr0
  clear hr0
  go_enter Try.func28, Try.ntmps28
  have HX0 : Aside0 ((w.alloc (.cells (arrI x) 23)).rangeAt w.heap.size 0 (cellsI x)) := ⟨range_of_blk (t := 23) (blk_new w _)⟩
  have HI := Aside0.mk (contains_calls A0 c0 l hx (w.alloc (.cells (arrI x) 23)) (Kd.C_alloc HR.out _))
  have HB0 := Aside0.mk (below_alloc (Below.refl w.heap.size w) (.cells (arrI x) 23))
  generalize decide (x ∈ l) = r at HI ⊢
  go_wp2_with (first
    | (refine wpl_load _ _ x HX0.out hx (by rfl) _ (by rfl) (by rfl) ?_; go_frame)
    | (go_at_call 39; refine HI.out.mono ?_; rintro e w1 ⟨rfl, hb⟩; have HB1 := Aside0.mk (below_step HB0.out hb)))
  go_ret
  exact ⟨rfl, HB1.out⟩
end Go.Proofs.Ytkgjdeicjkibiaa.D
