/- pair.order: which one of two pairs comes first. By hand, for the sort: the world it leaves, to the block. -/
import Derived.Test.YtannmdngejdjkaaLMapP
import Derived.Test.YtannmdngejdjkaaLx6
import Derived.RegionTactic
import Derived.Deep.RegionHeld3
import Derived.Shelf.SlSortCmp.WholeK
namespace Go.Proofs.Ytannmdngejdjkaa.L
open Go.RowKit Go.Maps Go.Sort Go.Proofs.YtannmdngejdjkaaW.PrintWords Go.Proofs.YtannmdngejdjkaaW.PrintLast Go.Proofs.YtannmdngejdjkaaW.PrintMore Go.Proofs.YtannmdngejdjkaaW
set_option linter.unusedVariables false
set_option linter.unusedSimpArgs false
def cS (a b : ByteArray) : Int := if Op.bytesLess a.toList b.toList then -1 else if Op.bytesLess b.toList a.toList then 1 else 0
def cI (a b : Int) : Int := if a < b then -1 else if b < a then 1 else 0
theorem cS_f (a b : ByteArray) : cmp_Compare_string.f a b = some (cS a b) := by
  simp only [cmp_Compare_string.f, cmp_isNaN_string.f, Option.bind_some, bne_self_eq_false, Bool.false_eq_true, if_false, cS]
  split
  · rfl
  · split <;> rfl
theorem cI_f (a b : Int) : cmp_Compare_int.f a b = some (cI a b) := by
  simp only [cmp_Compare_int.f, cmp_isNaN_int.f, Option.bind_some, bne_self_eq_false, Bool.false_eq_true, if_false, cI]
  split
  · rfl
  · split <;> rfl
def or4 (a b c d : Int) : Int := if a = 0 then if b = 0 then if c = 0 then d else c else b else a
theorem orStep (k : Nat) (l : List Int) (i : Int) (h0 : 0 ≤ i) (h1 : i < (l.length : Int)) : cmp_Or_int.l0 (k + 1) 0 l (l.length : Int) i = if rd l i = 0 then cmp_Or_int.l0 k 0 l (l.length : Int) (wrap64 (i + 1)) else some (rd l i) := by
  simp only [cmp_Or_int.l0]
  rw [if_pos h1, if_pos h0, if_pos h1]
theorem orEnd (k : Nat) (l : List Int) (i : Int) (h1 : ¬ i < (l.length : Int)) : cmp_Or_int.l0 (k + 1) 0 l (l.length : Int) i = some 0 := by
  simp only [cmp_Or_int.l0]
  rw [if_neg h1]
theorem or4_f (k : Nat) (a b c d : Int) : cmp_Or_int.f (k + 5) [a, b, c, d] = some (or4 a b c d) := by
  have w1 : wrap64 (0 + 1) = 1 := by unfold wrap64; omega
  have w2 : wrap64 (1 + 1) = 2 := by unfold wrap64; omega
  have w3 : wrap64 (2 + 1) = 3 := by unfold wrap64; omega
  have w4 : wrap64 (3 + 1) = 4 := by unfold wrap64; omega
  have r0 : rd [a, b, c, d] 0 = a := rfl
  have r1 : rd [a, b, c, d] 1 = b := rfl
  have r2 : rd [a, b, c, d] 2 = c := rfl
  have r3 : rd [a, b, c, d] 3 = d := rfl
  show cmp_Or_int.l0 (k + 4 + 1) 0 [a, b, c, d] _ 0 = _
  rw [orStep (k + 4) _ 0 (by omega) (by simp), w1, r0, orStep (k + 3) _ 1 (by omega) (by simp), w2, r1, orStep (k + 2) _ 2 (by omega) (by simp), w3, r2, orStep (k + 1) _ 3 (by omega) (by simp), w4, r3, orEnd k _ 4 (by simp)]
  unfold or4
  split <;> (try rfl)
  split <;> (try rfl)
  split <;> (try rfl)
  split <;> simp_all
/-- which one of two comes first -/
def cmpP (x y : Pr) : Int := or4 (cS x.f0 y.f0) (cS x.f1 y.f1) (cI x.f2.f0 y.f2.f0) (cI x.f2.f1 y.f2.f1)
theorem C_lit {w : World} {g : Nat} {l : List Int} (h : w.heap[g]? = some (.cells (l.map (Value.int .i64)).toArray 3 (0, 0))) (hm : l.length ≤ maxLen) : Kd.C (Kd.int .i64) w (some ⟨g, 0, none⟩) l.length l := by
  refine Kd.C_of_reads (h1 := fun _ => rfl) (enc := Value.int .i64) (d := (0 : Int)) ⟨rfl, hm, fun h0 => ⟨_, rfl, fun j hj => ?_⟩⟩
  rw [add_plain, blk_cell h j]
  simp [hj]
/-- a world that has grown, and drawn, out of another one -/
def Gr (W V : World) : Prop := ∃ q os', V = grow (W.drewN q) os'
theorem Gr.refl (W : World) : Gr W W := ⟨0, #[], by simp [grow, World.drewN]⟩
theorem Gr.drewN {W V : World} (h : Gr W V) (n : Nat) : Gr W (V.drewN n) := by
  obtain ⟨q, os, rfl⟩ := h
  exact ⟨q + n, os, by simp [grow, World.drewN, Nat.add_assoc]⟩
theorem Gr.drew {W V : World} (h : Gr W V) : Gr W V.drew := h.drewN 1
theorem Gr.alloc {W V : World} (h : Gr W V) (o : Obj) : Gr W (V.alloc o) := by
  obtain ⟨q, os, rfl⟩ := h
  exact ⟨q, os ++ #[o], by rw [alloc_eq_grow, grow_grow]⟩
set_option maxHeartbeats 4000000 in
set_option maxRecDepth 100000 in
theorem order_exact (x y : Pr) (W : World) : Calls Try.prog 85 #[.agg #[.string x.f0, .string x.f1, .int .i64 x.f2.f0, .int .i64 x.f2.f1], .agg #[.string y.f0, .string y.f1, .int .i64 y.f2.f0, .int .i64 y.f2.f1]] W fun e w' => e = .returned (.int .i64 (cmpP x y)) ∧ ∃ q os', w' = grow (W.drewN q) os' := by
  have H0 : Aside0 (∀ V : World, Calls Try.prog 68 #[.string x.f0, .string y.f0] V fun e w' => e = .returned (.int .i64 (cS x.f0 y.f0)) ∧ Drawn0 V w') := ⟨fun V => cmp_Compare_string.calls _ _ _ V (cS_f _ _)⟩
  have H1 : Aside0 (∀ V : World, Calls Try.prog 68 #[.string x.f1, .string y.f1] V fun e w' => e = .returned (.int .i64 (cS x.f1 y.f1)) ∧ Drawn0 V w') := ⟨fun V => cmp_Compare_string.calls _ _ _ V (cS_f _ _)⟩
  have H2 : Aside0 (∀ V : World, Calls Try.prog 67 #[.int .i64 x.f2.f0, .int .i64 y.f2.f0] V fun e w' => e = .returned (.int .i64 (cI x.f2.f0 y.f2.f0)) ∧ Drawn0 V w') := ⟨fun V => cmp_Compare_int.calls _ _ _ V (cI_f _ _)⟩
  have H3 : Aside0 (∀ V : World, Calls Try.prog 67 #[.int .i64 x.f2.f1, .int .i64 y.f2.f1] V fun e w' => e = .returned (.int .i64 (cI x.f2.f1 y.f2.f1)) ∧ Drawn0 V w') := ⟨fun V => cmp_Compare_int.calls _ _ _ V (cI_f _ _)⟩
  have H4 : Aside0 (∀ (V : World) (g : Nat), V.heap[g]? = some (.cells #[.int .i64 (cS x.f0 y.f0), .int .i64 (cS x.f1 y.f1), .int .i64 (cI x.f2.f0 y.f2.f0), .int .i64 (cI x.f2.f1 y.f2.f1)] 3 (0, 0)) → Calls Try.prog 66 #[.slice (some ⟨g, 0, none⟩) 4 4] V fun e w' => e = .returned (.int .i64 (cmpP x y)) ∧ Drawn0 V w') :=
    ⟨fun V g h => cmp_Or_int.calls 5 (some ⟨g, 0, none⟩) 4 [cS x.f0 y.f0, cS x.f1 y.f1, cI x.f2.f0 y.f2.f0, cI x.f2.f1 y.f2.f1] _ V (C_lit h (show (4 : Nat) ≤ maxLen by decide)) (Nat.le_refl _) (or4_f 0 _ _ _ _)⟩
  generalize cmpP x y = r at H4 ⊢
  generalize cS x.f0 y.f0 = a0 at H0 H4
  generalize cS x.f1 y.f1 = a1 at H1 H4
  generalize cI x.f2.f0 y.f2.f0 = a2 at H2 H4
  generalize cI x.f2.f1 y.f2.f1 = a3 at H3 H4
  go_enter Try.func85, Try.ntmps85
  go_wp2_with fail
  have hg : Gr W ((W.alloc (.cells #[Value.string x.f0, Value.string x.f1, Value.int .i64 x.f2.f0, Value.int .i64 x.f2.f1] 57)).alloc (.cells #[Value.string y.f0, Value.string y.f1, Value.int .i64 y.f2.f0, Value.int .i64 y.f2.f1] 57)) := (Gr.alloc (Gr.alloc (Gr.refl W) _) _)
  have hb1 : ((W.alloc (.cells #[Value.string x.f0, Value.string x.f1, Value.int .i64 x.f2.f0, Value.int .i64 x.f2.f1] 57)).alloc (.cells #[Value.string y.f0, Value.string y.f1, Value.int .i64 y.f2.f0, Value.int .i64 y.f2.f1] 57)).heap[W.heap.size]? = some (.cells #[Value.string x.f0, Value.string x.f1, Value.int .i64 x.f2.f0, Value.int .i64 x.f2.f1] 57) := blk_alloc (blk_new W _) _
  have hb2 : ((W.alloc (.cells #[Value.string x.f0, Value.string x.f1, Value.int .i64 x.f2.f0, Value.int .i64 x.f2.f1] 57)).alloc (.cells #[Value.string y.f0, Value.string y.f1, Value.int .i64 y.f2.f0, Value.int .i64 y.f2.f1] 57)).heap[W.heap.size + 1]? = some (.cells #[Value.string y.f0, Value.string y.f1, Value.int .i64 y.f2.f0, Value.int .i64 y.f2.f1] 57) := by have := blk_new (W.alloc (.cells #[Value.string x.f0, Value.string x.f1, Value.int .i64 x.f2.f0, Value.int .i64 x.f2.f1] 57)) (.cells #[Value.string y.f0, Value.string y.f1, Value.int .i64 y.f2.f0, Value.int .i64 y.f2.f1] 57); simpa using this
  revert hg hb1 hb2
  generalize ((W.alloc (.cells #[Value.string x.f0, Value.string x.f1, Value.int .i64 x.f2.f0, Value.int .i64 x.f2.f1] 57)).alloc (.cells #[Value.string y.f0, Value.string y.f1, Value.int .i64 y.f2.f0, Value.int .i64 y.f2.f1] 57)) = V
  intro hg hb1 hb2
  have HG := Aside0.mk hg
  have hl1 := blk_lt hb1
  have hl2 := blk_lt hb2
  have c0 : V.cell? ⟨W.heap.size, 0, none⟩ = some (Value.string x.f0) := blk_cell hb1 0
  have c1 : V.cell? ⟨W.heap.size, 1, none⟩ = some (Value.string x.f1) := blk_cell hb1 1
  have c2 : V.cell? ⟨W.heap.size, 2, none⟩ = some (Value.int .i64 x.f2.f0) := blk_cell hb1 2
  have c3 : V.cell? ⟨W.heap.size, 3, none⟩ = some (Value.int .i64 x.f2.f1) := blk_cell hb1 3
  have d0 : V.cell? ⟨W.heap.size + 1, 0, none⟩ = some (Value.string y.f0) := blk_cell hb2 0
  have d1 : V.cell? ⟨W.heap.size + 1, 1, none⟩ = some (Value.string y.f1) := blk_cell hb2 1
  have d2 : V.cell? ⟨W.heap.size + 1, 2, none⟩ = some (Value.int .i64 y.f2.f0) := blk_cell hb2 2
  have d3 : V.cell? ⟨W.heap.size + 1, 3, none⟩ = some (Value.int .i64 y.f2.f1) := blk_cell hb2 3
  clear hg hb1 hb2
  go_region_held3 (fun w' => w'.cell? ⟨W.heap.size, 0, none⟩ = some (Value.string x.f0) ∧ w'.cell? ⟨W.heap.size, 1, none⟩ = some (Value.string x.f1) ∧ w'.cell? ⟨W.heap.size, 2, none⟩ = some (Value.int .i64 x.f2.f0) ∧ w'.cell? ⟨W.heap.size, 3, none⟩ = some (Value.int .i64 x.f2.f1) ∧ w'.cell? ⟨W.heap.size + 1, 0, none⟩ = some (Value.string y.f0) ∧ w'.cell? ⟨W.heap.size + 1, 1, none⟩ = some (Value.string y.f1) ∧ w'.cell? ⟨W.heap.size + 1, 2, none⟩ = some (Value.int .i64 y.f2.f0) ∧ w'.cell? ⟨W.heap.size + 1, 3, none⟩ = some (Value.int .i64 y.f2.f1))
    (first | (exact ⟨c0, c1, c2, c3, d0, d1, d2, d3⟩) | go_keep)
    (first
     | (go_at_call 68; (with_reducible refine (H0.out _).mono ?_); rintro e w' ⟨rfl, ⟨nd, rfl⟩⟩)
     | (go_at_call 68; (with_reducible refine (H1.out _).mono ?_); rintro e w' ⟨rfl, ⟨nd, rfl⟩⟩)
     | (go_at_call 67; (with_reducible refine (H2.out _).mono ?_); rintro e w' ⟨rfl, ⟨nd, rfl⟩⟩)
     | (go_at_call 67; (with_reducible refine (H3.out _).mono ?_); rintro e w' ⟨rfl, ⟨nd, rfl⟩⟩)
     | (go_at_call 66; (with_reducible refine (H4.out _ _ ?hh).mono ?_); (case hh => first | exact blk_new _ _ | exact blk_drew (blk_new _ _) | exact blk_drewN (blk_new _ _) _); rintro e w' ⟨rfl, ⟨nd, rfl⟩⟩))
  all_goals
    go_wp2
    go_ret
    exact ⟨rfl, by repeat (first | exact HG.out | apply Gr.drewN | apply Gr.alloc | apply Gr.drew)⟩
end Go.Proofs.Ytannmdngejdjkaa.L
