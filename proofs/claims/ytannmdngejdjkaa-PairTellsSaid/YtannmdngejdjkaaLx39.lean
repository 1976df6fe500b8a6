-- PRINTED by print.py (a twelfth state) out of the translation. Not trusted: Lean checks it.
import Derived.Test.YtannmdngejdjkaaLSq
import Derived.Test.YtannmdngejdjkaaLx0
import Derived.Test.YtannmdngejdjkaaLx36
import Derived.Test.YtannmdngejdjkaaLx38
namespace Go.Proofs.Ytannmdngejdjkaa.L
open Go.RowKit Go.Proofs.YtannmdngejdjkaaW.PrintWords Go.Proofs.YtannmdngejdjkaaW.PrintLast Go.Proofs.YtannmdngejdjkaaW.PrintMore
attribute [local go_sem] max2_int min2_int max_two min_two max_three min_three max_four min_four   -- for this text's walks alone
set_option linter.unusedVariables false
set_option linter.unusedSimpArgs false

/-! ### ref08_put: function 77 -/
def ref08_put.l0 : Nat → List (S57) → Int → ByteArray → ByteArray → Int → Int → Option ((List (S57)))
 | 0, _, _, _, _, _, _ => none
 | k + 1, x0, x6, x686000, x686001, x686002, x686003 => if x6 > 0 then (if 0 ≤ (wrap64 (x6 - 1)) then (if (wrap64 (x6 - 1)) < (x0.length : Int) then ((ref08_Less.f x686000 x686001 x686002 x686003 ((rd_T57 x0 (wrap64 (x6 - 1))).f0) ((rd_T57 x0 (wrap64 (x6 - 1))).f1) ((rd_T57 x0 (wrap64 (x6 - 1))).f2.f0) ((rd_T57 x0 (wrap64 (x6 - 1))).f2.f1)).bind fun t688 => (if t688 = true then (ref08_put.l0 k x0 (wrap64 (x6 - 1)) x686000 x686001 x686002 x686003) else (if 0 ≤ x6 then (if x6 ≤ (x0.length : Int) then ((some (x0.take (x6 : Int).toNat : List (S57))).bind fun y689 => (if ([] : List (S57)).length + y689.length < 2932031007402 then ((some (([] : List (S57)) ++ y689 : List (S57))).bind fun y693 => (if y693.length < 2932031007402 then ((some (y693 ++ [(⟨x686000, x686001, (⟨x686002, x686003⟩ : S24)⟩ : S57)] : List (S57))).bind fun y696 => ((some (x0.drop (x6 : Int).toNat : List (S57))).bind fun y699 => (if y696.length + y699.length < 2932031007402 then (some (y696 ++ y699)) else (none)))) else (none))) else (none))) else (none)) else (none)))) else (none)) else (none)) else (if 0 ≤ x6 then (if x6 ≤ (x0.length : Int) then ((some (x0.take (x6 : Int).toNat : List (S57))).bind fun y706 => (if ([] : List (S57)).length + y706.length < 2932031007402 then ((some (([] : List (S57)) ++ y706 : List (S57))).bind fun y710 => (if y710.length < 2932031007402 then ((some (y710 ++ [(⟨x686000, x686001, (⟨x686002, x686003⟩ : S24)⟩ : S57)] : List (S57))).bind fun y713 => ((some (x0.drop (x6 : Int).toNat : List (S57))).bind fun y716 => (if y713.length + y716.length < 2932031007402 then (some (y713 ++ y716)) else (none)))) else (none))) else (none))) else (none)) else (none))
def ref08_put.f (k : Nat) (l0 : List (S57)) (a1_0 : ByteArray) (a1_1 : ByteArray) (a1_2 : Int) (a1_3 : Int) : Option ((List (S57))) := (ref08_has.f k l0 a1_0 a1_1 a1_2 a1_3).bind fun t686 => (if t686 = true then (some l0) else (ref08_put.l0 k l0 (l0.length : Int) a1_0 a1_1 a1_2 a1_3))
theorem ref08_put.mono_l : ∀ k, (∀ y0 y1 y2 y3 y4 y5, LeO (ref08_put.l0 k y0 y1 y2 y3 y4 y5) (ref08_put.l0 (k + 1) y0 y1 y2 y3 y4 y5))
 | 0 => fun _ _ _ _ _ _ r h => by simp [ref08_put.l0] at h
 | k + 1 => by
  have ih0 := ref08_put.mono_l k
  ·intro y0 y1 y2 y3 y4 y5
   unfold ref08_put.l0
   repeat' first
   | (with_reducible exact ih0 _ _ _ _ _ _)
   | (with_reducible exact ref08_has.mono _ _ _ _ _ _)
   | (with_reducible exact LeO.refl _)
   | (with_reducible exact LeO.none _)
   | (with_reducible refine LeO.ite ?_ ?_)
   | (with_reducible refine LeO.bind ?_ (fun _ => ?_))
   | exact ih0 _ _ _ _ _ _
   | exact ref08_has.mono _ _ _ _ _ _
   | exact LeO.none _
   | refine LeO.ite ?_ ?_
   | refine LeO.bind ?_ (fun _ => ?_)
theorem ref08_put.mono : ∀ a0 a1 a2 a3 a4 k, LeO (ref08_put.f k a0 a1 a2 a3 a4) (ref08_put.f (k + 1) a0 a1 a2 a3 a4) := by
 intro a0 a1 a2 a3 a4 k
 have ih0 := ref08_put.mono_l k
 unfold ref08_put.f
 repeat' first
   | (with_reducible exact ih0 _ _ _ _ _ _)
   | (with_reducible exact ref08_has.mono _ _ _ _ _ _)
   | (with_reducible exact LeO.refl _)
   | (with_reducible exact LeO.none _)
   | (with_reducible refine LeO.ite ?_ ?_)
   | (with_reducible refine LeO.bind ?_ (fun _ => ?_))
   | exact ih0 _ _ _ _ _ _
   | exact ref08_has.mono _ _ _ _ _ _
   | exact LeO.none _
   | refine LeO.ite ?_ ?_
   | refine LeO.bind ?_ (fun _ => ?_)
def ref08_put.T6 : Bool × List (List Nat × List Nat) := (true, [([], []), ([], []), ([], []), ([2], [2]), ([1, 3], [1, 3]), ([4], [4]), ([0, 5], [0, 5]), ([6, 6, 0, 1, 2, 3, 4, 5, 6], [6])])
def ref08_put.B6 : List Nat := [0, 0, 0, 4, 14, 30, 63, 127]
theorem ref08_put.tab6 : rtab .any (opsOf Try.f77 6) = ref08_put.T6 := by kernel_rfl
theorem ref08_put.bits6 : waitsOk ref08_put.T6.2 ref08_put.B6 = true := by kernel_rfl
set_option maxHeartbeats 8000000 in
set_option maxRecDepth 100000 in
theorem ref08_put.calls (k : Nat) (P0_ : Nat → Prop) (u9000_ : Value) (l0 : List (S57)) (a1_0 : ByteArray) (a1_1 : ByteArray) (a1_2 : Int) (a1_3 : Int) (r : List (S57)) (w0 w : World) (hB : Below w0.heap.size w0 w) (ho0 : Kd.R k57 57 w w0.heap.size P0_ u9000_ l0) (h : ref08_put.f k l0 a1_0 a1_1 a1_2 a1_3 = some r) :
  Calls Try.prog 77 #[u9000_, .agg #[.string a1_0, .string a1_1, .int .i64 a1_2, .int .i64 a1_3]] w fun e w' => ∃ v0_ : Value, e = .returned (v0_) ∧ Kd.R k57 57 w' w0.heap.size (fun k_ => (P0_ k_ ∨ w.heap.size ≤ k_)) v0_ r ∧ Below w0.heap.size w0 w' ∧ Kept w w' (fun k_ => P0_ k_) := by
 have hu57 := Try.underlying57
 have HO0 := Aside0.mk (show Kd.R k57 57 w w0.heap.size (fun k_ => (P0_ k_ ∨ w.heap.size ≤ k_)) u9000_ l0 from Kd.R_mono ho0 (fun k_ hk => (.inl hk)))
 have HK := Aside0.mk (Kept.refl w (fun k_ => P0_ k_))
 have HW0 := Aside0.mk hB.size
 have HB := Aside0.mk hB
 clear hB
 have H : ((ref08_has.f k l0 a1_0 a1_1 a1_2 a1_3).bind fun t686 => (if t686 = true then (some l0) else (ref08_put.l0 k l0 (l0.length : Int) a1_0 a1_1 a1_2 a1_3))) = some r := h
 clear h
 replace H := Option.bind_eq_some_iff.mp H
 obtain ⟨t686, A30, H⟩ := H
 replace H : (if t686 = true then (some l0) else (ref08_put.l0 k l0 (l0.length : Int) a1_0 a1_1 a1_2 a1_3)) = some r := H
 have A3 := Aside0.mk A30
 clear A30
 by_cases c4 : t686 = true
 ·subst c4
  have H1 : (some l0) = some r := by rw [if_pos rfl] at H; exact H
  clear H
  have H := H1
  clear H1
  obtain rfl := Option.some.inj H
  go_enter Try.func77, Try.ntmps77
  go_wp2_with (first | ((with_reducible refine gate_dst (N := 3) rfl ?_); refine box_event ?hg (N := 3) ?hd (cs := #[.string a1_0, .string a1_1, .int .i64 a1_2, .int .i64 a1_3]) (t := 57) ?hr ?_; (case hd => rfl); (case hg => rfl); (case hr => first | (go_simp; done) | (go_simp; rfl)); intro gb685 hg w5 hbox hb; have n0_ := Aside0.mk (Kd.R_below (Kd.R_elderB (by (with_reducible repeat (first | apply Kd.R_alloc | apply Kd.R_drewN | apply Kd.R_drew)); exact HO0.out) gb685 (Nat.le_of_eq hg.symm)) hb); have n1_ := Aside0.mk (Kept.below (S := (fun k_ => P0_ k_)) (by repeat (first | (with_reducible first | exact HK.out | apply Kept.alloc | apply Kept.drewN | apply Kept.drew) | exact HK.out)) hb); have n2_ := Aside0.mk (below_step (by repeat (first | (with_reducible first | exact HB.out | apply below_alloc | apply pw_below_drewN | apply below_drew1) | exact HB.out)) hb); have n3_ := Aside0.mk (hbox); have n4_ := Aside0.mk ((by rw [hg]; exact (by first | exact HK.out.1 | exact (show Kept w _ (fun k_ => P0_ k_) from by repeat (first | (with_reducible first | exact HK.out | apply Kept.alloc | apply Kept.drewN | apply Kept.drew) | exact HK.out)).1) : w.heap.size ≤ gb685)); have n5_ := Aside0.mk ((by rw [hg]; exact (below_size (by repeat (first | (with_reducible first | exact HB.out | apply below_alloc | apply pw_below_drewN | apply below_drew1) | exact HB.out))) : w0.heap.size ≤ gb685)); clear HO0; clear HK; clear HB; have HO0 := n0_; have HK := n1_; have HB := n2_; have BK685 := n3_; have GW685 := n4_; have GE685 := n5_; clear n0_ n1_ n2_ n3_ n4_ n5_; clear hb hbox hg; have hcz6_0 : w5.cell? ⟨gb685, 0, none⟩ = some (.string a1_0) := (blk_cell BK685.out 0).trans rfl; have hcz6_1 : w5.cell? ⟨gb685, 1, none⟩ = some (.string a1_1) := (blk_cell BK685.out 1).trans rfl; have hcz6_2 : w5.cell? ⟨gb685, 2, none⟩ = some (.int .i64 a1_2) := (blk_cell BK685.out 2).trans rfl; have hcz6_3 : w5.cell? ⟨gb685, 3, none⟩ = some (.int .i64 a1_3) := (blk_cell BK685.out 3).trans rfl; have hfz6_0 := blk_frozen BK685.out 0; have hfz6_1 := blk_frozen BK685.out 1; have hfz6_2 := blk_frozen BK685.out 2; have hfz6_3 := blk_frozen BK685.out 3; obtain ⟨Ao7, co7, eo7⟩ := Kd.R_slice HO0.out; subst eo7) | ((with_reducible refine gate_callee (f := 83) rfl ?_); refine goesL_ (some 11) rfl rfl Try.func83 (by kernel_rfl) rfl #[.slice Ao7 l0.length co7, .agg #[.string a1_0, .string a1_1, .int .i64 a1_2, .int .i64 a1_3]] rfl (by (try simp only [List.map_toArray, List.map_cons, List.map_nil]); first | done | rfl | (simp only [List.length_drop, List.length_take]; rfl)) ?_; (with_reducible refine (ref08_has.calls k _ _ l0 a1_0 a1_1 a1_2 a1_3 true _ ?side1 ?side2 A3.out).mono ?_); (case side1 => repeat (first | exact (Kd.R_reads' HO0.out).2.2 | (with_reducible refine Kd.C_alloc ?_ _) | (with_reducible refine Kd.C_drewN ?_ _) | (with_reducible refine Kd.C_drew ?_))); (case side2 => exact (Kd.R_reads' HO0.out).2.1); rintro e w8 ⟨rfl, hb⟩; refine ⟨_, rfl, ?_⟩; have n0_ := Aside0.mk (Kd.R_below (by (with_reducible repeat (first | apply Kd.R_alloc | apply Kd.R_drewN | apply Kd.R_drew)); exact HO0.out) hb); have n1_ := Aside0.mk (blk_below (g := gb685) (o := .cells #[.string a1_0, .string a1_1, .int .i64 a1_2, .int .i64 a1_3] 57 (0, 0)) (by (with_reducible repeat (first | apply blN | apply blD | apply blA)); exact BK685.out) hb); have n2_ := Aside0.mk (Kept.below (S := (fun k_ => P0_ k_)) (by repeat (first | (with_reducible first | exact HK.out | apply Kept.alloc | apply Kept.drewN | apply Kept.drew | refine Kept.setCell ?_ (.inr GW685.out) _) | exact HK.out)) hb); have n3_ := Aside0.mk (below_step (by repeat (first | (with_reducible first | exact HB.out | apply below_alloc | apply pw_below_drewN | apply below_drew1 | refine below_set ?_ GE685.out) | exact HB.out)) hb); clear HO0; clear BK685; clear HK; clear HB; have HO0 := n0_; have BK685 := n1_; have HK := n2_; have HB := n3_; clear n0_ n1_ n2_ n3_; (try clear hb); (try clear hb2); (try clear hk); (try clear hi)))
  go_ret
  exact ⟨_, by first | rfl | (simp [errW_none, errW_some] <;> rfl) | (simp [*, errW_none, errW_some] <;> rfl), by (with_reducible repeat (first | apply Kd.R_alloc | apply Kd.R_drewN | apply Kd.R_drew)); exact Kd.R_mono HO0.out (fun _ hk => hk.1), by repeat (first | (with_reducible first | exact HB.out | apply below_alloc | apply pw_below_drewN | apply below_drew1 | refine below_set ?_ GE685.out) | exact HB.out), by repeat (first | (with_reducible first | exact HK.out | apply Kept.alloc | apply Kept.drewN | apply Kept.drew | refine Kept.setCell ?_ (.inr GW685.out) _) | exact HK.out)⟩
 ·replace c4 := Bool.eq_false_iff.mpr c4
  subst c4
  have H1 : (ref08_put.l0 k l0 (l0.length : Int) a1_0 a1_1 a1_2 a1_3) = some r := by rw [if_neg (show ¬ (false = true) by decide)] at H; exact H
  clear H
  have H := H1
  clear H1
  have H' := Aside0.mk H
  clear H
  go_enter Try.func77, Try.ntmps77
  go_wp2_with (first | ((with_reducible refine gate_dst (N := 3) rfl ?_); refine box_event ?hg (N := 3) ?hd (cs := #[.string a1_0, .string a1_1, .int .i64 a1_2, .int .i64 a1_3]) (t := 57) ?hr ?_; (case hd => rfl); (case hg => rfl); (case hr => first | (go_simp; done) | (go_simp; rfl)); intro gb685 hg w9 hbox hb; have n0_ := Aside0.mk (Kd.R_below (Kd.R_elderB (by (with_reducible repeat (first | apply Kd.R_alloc | apply Kd.R_drewN | apply Kd.R_drew)); exact HO0.out) gb685 (Nat.le_of_eq hg.symm)) hb); have n1_ := Aside0.mk (Kept.below (S := (fun k_ => P0_ k_)) (by repeat (first | (with_reducible first | exact HK.out | apply Kept.alloc | apply Kept.drewN | apply Kept.drew) | exact HK.out)) hb); have n2_ := Aside0.mk (below_step (by repeat (first | (with_reducible first | exact HB.out | apply below_alloc | apply pw_below_drewN | apply below_drew1) | exact HB.out)) hb); have n3_ := Aside0.mk (hbox); have n4_ := Aside0.mk ((by rw [hg]; exact (by first | exact HK.out.1 | exact (show Kept w _ (fun k_ => P0_ k_) from by repeat (first | (with_reducible first | exact HK.out | apply Kept.alloc | apply Kept.drewN | apply Kept.drew) | exact HK.out)).1) : w.heap.size ≤ gb685)); have n5_ := Aside0.mk ((by rw [hg]; exact (below_size (by repeat (first | (with_reducible first | exact HB.out | apply below_alloc | apply pw_below_drewN | apply below_drew1) | exact HB.out))) : w0.heap.size ≤ gb685)); clear HO0; clear HK; clear HB; have HO0 := n0_; have HK := n1_; have HB := n2_; have BK685 := n3_; have GW685 := n4_; have GE685 := n5_; clear n0_ n1_ n2_ n3_ n4_ n5_; clear hb hbox hg; have hcz10_0 : w9.cell? ⟨gb685, 0, none⟩ = some (.string a1_0) := (blk_cell BK685.out 0).trans rfl; have hcz10_1 : w9.cell? ⟨gb685, 1, none⟩ = some (.string a1_1) := (blk_cell BK685.out 1).trans rfl; have hcz10_2 : w9.cell? ⟨gb685, 2, none⟩ = some (.int .i64 a1_2) := (blk_cell BK685.out 2).trans rfl; have hcz10_3 : w9.cell? ⟨gb685, 3, none⟩ = some (.int .i64 a1_3) := (blk_cell BK685.out 3).trans rfl; have hfz10_0 := blk_frozen BK685.out 0; have hfz10_1 := blk_frozen BK685.out 1; have hfz10_2 := blk_frozen BK685.out 2; have hfz10_3 := blk_frozen BK685.out 3; obtain ⟨Ao11, co11, eo11⟩ := Kd.R_slice HO0.out; subst eo11) | ((with_reducible refine gate_callee (f := 83) rfl ?_); refine goesL_ (some 11) rfl rfl Try.func83 (by kernel_rfl) rfl #[.slice Ao11 l0.length co11, .agg #[.string a1_0, .string a1_1, .int .i64 a1_2, .int .i64 a1_3]] rfl (by (try simp only [List.map_toArray, List.map_cons, List.map_nil]); first | done | rfl | (simp only [List.length_drop, List.length_take]; rfl)) ?_; (with_reducible refine (ref08_has.calls k _ _ l0 a1_0 a1_1 a1_2 a1_3 false _ ?side1 ?side2 A3.out).mono ?_); (case side1 => repeat (first | exact (Kd.R_reads' HO0.out).2.2 | (with_reducible refine Kd.C_alloc ?_ _) | (with_reducible refine Kd.C_drewN ?_ _) | (with_reducible refine Kd.C_drew ?_))); (case side2 => exact (Kd.R_reads' HO0.out).2.1); rintro e w12 ⟨rfl, hb⟩; refine ⟨_, rfl, ?_⟩; have n0_ := Aside0.mk (Kd.R_below (by (with_reducible repeat (first | apply Kd.R_alloc | apply Kd.R_drewN | apply Kd.R_drew)); exact HO0.out) hb); have n1_ := Aside0.mk (blk_below (g := gb685) (o := .cells #[.string a1_0, .string a1_1, .int .i64 a1_2, .int .i64 a1_3] 57 (0, 0)) (by (with_reducible repeat (first | apply blN | apply blD | apply blA)); exact BK685.out) hb); have n2_ := Aside0.mk (Kept.below (S := (fun k_ => P0_ k_)) (by repeat (first | (with_reducible first | exact HK.out | apply Kept.alloc | apply Kept.drewN | apply Kept.drew | refine Kept.setCell ?_ (.inr GW685.out) _) | exact HK.out)) hb); have n3_ := Aside0.mk (below_step (by repeat (first | (with_reducible first | exact HB.out | apply below_alloc | apply pw_below_drewN | apply below_drew1 | refine below_set ?_ GE685.out) | exact HB.out)) hb); clear HO0; clear BK685; clear HK; clear HB; have HO0 := n0_; have BK685 := n1_; have HK := n2_; have HB := n3_; clear n0_ n1_ n2_ n3_; (try clear hb); (try clear hb2); (try clear hk); (try clear hi)))
  go_loopg [6] k (fun kq v6 w' => ∃ (x6_1 : Int), v6 = .int .i64 x6_1 ∧ Aside0 (ref08_put.l0 kq l0 x6_1 a1_0 a1_1 a1_2 a1_3 = some r) ∧ Aside0 (kq ≤ k) ∧ Aside0 (Kd.R k57 57 w' w0.heap.size (fun k_ => (P0_ k_ ∨ w.heap.size ≤ k_) ∧ k_ ≠ gb685) (.slice Ao11 l0.length co11) l0) ∧ Aside0 (w'.heap[gb685]? = some (.cells #[.string a1_0, .string a1_1, .int .i64 a1_2, .int .i64 a1_3] 57 (0, 0))) ∧ Aside0 (Kept w w' (fun k_ => P0_ k_)) ∧ Aside0 (Below w0.heap.size w0 w'))
  case atStart => exact ⟨((l0.length : Int)), (by first | rfl | (simp; done) | (simp [*]; done)), H', ⟨Nat.le_refl _⟩, ⟨by (with_reducible repeat (first | apply Kd.R_alloc | apply Kd.R_drewN | apply Kd.R_drew)); exact HO0.out⟩, ⟨by (with_reducible repeat (first | apply blN | apply blD | apply blA)); exact BK685.out⟩, ⟨by repeat (first | (with_reducible first | exact HK.out | apply Kept.alloc | apply Kept.drewN | apply Kept.drew | refine Kept.setCell ?_ (.inr GW685.out) _) | exact HK.out)⟩, ⟨by repeat (first | (with_reducible first | exact HB.out | apply below_alloc | apply pw_below_drewN | apply below_drew1 | refine below_set ?_ GE685.out) | exact HB.out)⟩⟩
  case round =>
   clear H'
   try clear p2
   try clear c4
   try clear c7
   try clear c8
   try clear hcz10_0
   try clear hcz10_1
   try clear hcz10_2
   try clear hcz10_3
   try clear hcz6_0
   try clear hcz6_1
   try clear hcz6_2
   try clear hcz6_3
   try clear hfz10_0
   try clear hfz10_1
   try clear hfz10_2
   try clear hfz10_3
   try clear hfz6_0
   try clear hfz6_1
   try clear hfz6_2
   try clear hfz6_3
   obtain ⟨x6_1, rfl, HA, HK1, HO_0, BK685, HK, HB⟩ := hrel
   cases gk with
   | zero => exact absurd HA.out (by simp [ref08_put.l0])
   | succ k1 =>
    have H := HA.out
    clear HA
    simp only [ref08_put.l0] at H
    by_cases c13 : x6_1 > 0
    ·rw [if_pos c13] at H
     have c13b0 : decide (0 < x6_1) = true := decide_eq_true c13
     clear c13
     obtain ⟨ji14, hji14⟩ : ∃ j_ : Int, (wrap64 (x6_1 - 1)) = j_ := ⟨_, rfl⟩
     replace H : (if 0 ≤ (ji14) then (if (ji14) < (l0.length : Int) then ((ref08_Less.f a1_0 a1_1 a1_2 a1_3 ((rd_T57 l0 (ji14)).f0) ((rd_T57 l0 (ji14)).f1) ((rd_T57 l0 (ji14)).f2.f0) ((rd_T57 l0 (ji14)).f2.f1)).bind fun t688 => (if t688 = true then (ref08_put.l0 k1 l0 ji14 a1_0 a1_1 a1_2 a1_3) else (if 0 ≤ x6_1 then (if x6_1 ≤ (l0.length : Int) then ((some (l0.take (x6_1 : Int).toNat : List (S57))).bind fun y689 => (if ([] : List (S57)).length + y689.length < 2932031007402 then ((some (([] : List (S57)) ++ y689 : List (S57))).bind fun y693 => (if y693.length < 2932031007402 then ((some (y693 ++ [(⟨a1_0, a1_1, (⟨a1_2, a1_3⟩ : S24)⟩ : S57)] : List (S57))).bind fun y696 => ((some (l0.drop (x6_1 : Int).toNat : List (S57))).bind fun y699 => (if y696.length + y699.length < 2932031007402 then (some (y696 ++ y699)) else (none)))) else (none))) else (none))) else (none)) else (none)))) else (none)) else (none)) = some r := by first | (rw [hji14] at H; exact H) | (simp only [hji14] at H ⊢; exact H)
     have hji14w : (IntKind.i64.wrap (x6_1 - 1)) = ji14 := (i64_w _).trans hji14
     by_cases c15 : 0 ≤ (ji14)
     ·rw [if_pos c15] at H
      have c15b0 : decide (0 ≤ (ji14)) = true := decide_eq_true c15
      clear c15
      by_cases c16 : (ji14) < (l0.length : Int)
      ·rw [if_pos c16] at H
       have c16b0 : decide ((ji14) < (l0.length : Int)) = true := decide_eq_true c16
       clear c16
       replace H := Option.bind_eq_some_iff.mp H
       obtain ⟨t688, A170, H⟩ := H
       replace H : (if t688 = true then (ref08_put.l0 k1 l0 ji14 a1_0 a1_1 a1_2 a1_3) else (if 0 ≤ x6_1 then (if x6_1 ≤ (l0.length : Int) then ((some (l0.take (x6_1 : Int).toNat : List (S57))).bind fun y689 => (if ([] : List (S57)).length + y689.length < 2932031007402 then ((some (([] : List (S57)) ++ y689 : List (S57))).bind fun y693 => (if y693.length < 2932031007402 then ((some (y693 ++ [(⟨a1_0, a1_1, (⟨a1_2, a1_3⟩ : S24)⟩ : S57)] : List (S57))).bind fun y696 => ((some (l0.drop (x6_1 : Int).toNat : List (S57))).bind fun y699 => (if y696.length + y699.length < 2932031007402 then (some (y696 ++ y699)) else (none)))) else (none))) else (none))) else (none)) else (none))) = some r := H
       have A17 := Aside0.mk A170
       clear A170
       by_cases c18 : t688 = true
       ·subst c18
        have H1 : (ref08_put.l0 k1 l0 ji14 a1_0 a1_1 a1_2 a1_3) = some r := by rw [if_pos rfl] at H; exact H
        clear H
        have H := H1
        clear H1
        have H' := Aside0.mk H
        clear H
        try go_wp2
        have n0_ := Aside0.mk (Kd.R_drew HO_0.out)
        have n1_ := Aside0.mk (blk_drew BK685.out)
        have n2_ := Aside0.mk (Kept.drew HK.out)
        have n3_ := Aside0.mk (below_drew1 HB.out)
        clear HO_0
        clear BK685
        clear HK
        clear HB
        have HO_0 := n0_
        have BK685 := n1_
        have HK := n2_
        have HB := n3_
        clear n0_ n1_ n2_ n3_
        have p687 : 0 ≤ ((ji14) : Int) := of_decide_eq_true (by first | (with_reducible assumption) | assumption)
        have q687 : (ji14) < (l0.length : Int) := of_decide_eq_true (by first | (with_reducible assumption) | assumption)
        obtain ⟨ad687, e687, hx687_0, hx687_1, hx687_2, hx687_3⟩ := at_T57 (Kd.R_reads' HO_0.out).2.2 (ji14) p687 q687
        cases e687
        replace p687 := eq_true p687
        replace q687 := eq_true q687
        refine start_ (n := 8) (S := fun w' => w'.cell? ⟨gb685, 0, none⟩ = some (.string a1_0) ∧ w'.cell? ⟨gb685, 1, none⟩ = some (.string a1_1) ∧ w'.cell? ⟨gb685, 2, none⟩ = some (.int .i64 a1_2) ∧ w'.cell? ⟨gb685, 3, none⟩ = some (.int .i64 a1_3) ∧ w'.cell? (ad687.add (((ji14)).toNat * 4)) = some (.string ((rd_T57 l0 (ji14)).f0)) ∧ w'.cell? ⟨(ad687.add (((ji14)).toNat * 4)).block, (ad687.add (((ji14)).toNat * 4)).off + 1, none⟩ = some (.string ((rd_T57 l0 (ji14)).f1)) ∧ w'.cell? ⟨(ad687.add (((ji14)).toNat * 4)).block, (ad687.add (((ji14)).toNat * 4)).off + 2, none⟩ = some (.int .i64 ((rd_T57 l0 (ji14)).f2.f0)) ∧ w'.cell? ⟨(ad687.add (((ji14)).toNat * 4)).block, (ad687.add (((ji14)).toNat * 4)).off + 3, none⟩ = some (.int .i64 ((rd_T57 l0 (ji14)).f2.f1))) (ds := []) #[O,O,O,O,O,O,O,O] (by kernel_rfl) rfl rfl ⟨(blk_cell BK685.out 0).trans rfl, (blk_cell BK685.out 1).trans rfl, (blk_cell BK685.out 2).trans rfl, (blk_cell BK685.out 3).trans rfl, hx687_0, hx687_1, hx687_2, hx687_3⟩ (fun hHeld => ?_); refine with_tabW ref08_put.tab6 ref08_put.bits6 (fun HT_ HW_ => ?_)
        generalize wr.drew = w19 at HO_0 BK685 HK HB hx687_0 hx687_1 hx687_2 hx687_3 hHeld ⊢
        refine sqP (i := 1) (N := some 19) (v := ?_) (a' := ?_) #[O,I,O,O,O,O,O,O] rfl rfl HT_.out (Or.inl ⟨by rfl, ?_⟩) ?_ ?_
        rotate_left
        ·intro w'
         go_simp
         with_reducible rfl
        rotate_left
        ·simp only [Act.put, sqA, sqB, sqC, i64_w, i32_w]
         rfl
        refine sqP (i := 2) (N := some 20) (v := ?_) (a' := ?_) #[O,I,I,O,O,O,O,O] rfl rfl HT_.out (Or.inl ⟨by rfl, ?_⟩) ?_ ?_
        rotate_left
        ·intro w'
         go_simp
         with_reducible rfl
        rotate_left
        ·simp only [Act.put, sqA, sqB, sqC, i64_w, i32_w]
         rfl
        refine sqP (i := 3) (N := some 21) (v := ?_) (a' := ?_) #[O,I,I,I,O,O,O,O] rfl rfl HT_.out (Or.inl ⟨by rfl, ?_⟩) ?_ ?_
        rotate_left
        ·intro w'
         go_simp
         with_reducible rfl
        rotate_left
        ·simp only [Act.put, sqA, sqB, sqC, i64_w, i32_w]
         rfl
        refine sqP (i := 4) (N := some 22) (v := ?_) (a' := ?_) #[O,I,I,I,I,O,O,O] rfl rfl HT_.out (Or.inl ⟨by rfl, ?_⟩) ?_ ?_
        rotate_left
        ·intro w'
         go_simp
         with_reducible rfl
        rotate_left
        ·simp only [Act.put, sqA, sqB, sqC, i64_w, i32_w]
         rfl
        refine take_ (i := 0) (N := some 18) (v := ?_) (a' := ?_) #[I,I,I,I,I,O,O,O] rfl rfl (take_ofW HT_.out HW_.out (by kernel_rfl)) (fun _ _ _ h => h) (Or.inl ⟨by rfl, ?_⟩) hHeld ?_ ?_
        rotate_left
        ·rintro w' ⟨s0, s1, s2, s3, s4, s5, s6, s7⟩
         go_simp
         with_reducible rfl
        rotate_left
        ·simp only [Act.put, sqA, sqB, sqC, i64_w, i32_w]
         rfl
        refine take_ (i := 5) (N := some 23) (v := ?_) (a' := ?_) #[I,I,I,I,I,I,O,O] rfl rfl (take_ofW HT_.out HW_.out (by kernel_rfl)) (fun _ _ _ h => h) (Or.inl ⟨by rfl, ?_⟩) hHeld ?_ ?_
        rotate_left
        ·rintro w' ⟨s0, s1, s2, s3, s4, s5, s6, s7⟩
         go_simp
         with_reducible rfl
        rotate_left
        ·simp only [Act.put, sqA, sqB, sqC, i64_w, i32_w]
         rfl
        refine one_ (i := 6) (N := some 24) #[I,I,I,I,I,I,I,O] rfl rfl (one_of HT_.out (by kernel_rfl)) (by decide) (fun K hK => ?_)
        refine goes_ Try.func58 (by kernel_rfl) rfl #[.agg #[.string a1_0, .string a1_1, .int .i64 a1_2, .int .i64 a1_3], .agg #[.string ((rd_T57 l0 (ji14)).f0), .string ((rd_T57 l0 (ji14)).f1), .int .i64 ((rd_T57 l0 (ji14)).f2.f0), .int .i64 ((rd_T57 l0 (ji14)).f2.f1)]] (by rfl) rfl rfl (by (try simp only [List.map_toArray, List.map_cons, List.map_nil]); first | done | (simp only [hji14]; rfl) | rfl | (simp only [List.length_drop, List.length_take]; rfl)) ?_
        with_reducible refine (ref08_Less.calls a1_0 a1_1 a1_2 a1_3 ((rd_T57 l0 (ji14)).f0) ((rd_T57 l0 (ji14)).f1) ((rd_T57 l0 (ji14)).f2.f0) ((rd_T57 l0 (ji14)).f2.f1) true _ A17.out).mono ?_
        rintro e w20 ⟨rfl, hb⟩
        have HS4_ := (hb.cell (World.block_lt_of_cell? _ _ (hHeld.2.2.2.2.1))).trans (hHeld.2.2.2.2.1)
        have HS5_ := (hb.cell (World.block_lt_of_cell? _ _ (hHeld.2.2.2.2.2.1))).trans (hHeld.2.2.2.2.2.1)
        have HS6_ := (hb.cell (World.block_lt_of_cell? _ _ (hHeld.2.2.2.2.2.2.1))).trans (hHeld.2.2.2.2.2.2.1)
        have HS7_ := (hb.cell (World.block_lt_of_cell? _ _ (hHeld.2.2.2.2.2.2.2))).trans (hHeld.2.2.2.2.2.2.2)
        refine ⟨_, rfl, ?_⟩
        have n0_ := Aside0.mk (Kd.R_below (by (with_reducible repeat (first | apply Kd.R_alloc | apply Kd.R_drewN | apply Kd.R_drew)); exact HO_0.out) hb)
        have n1_ := Aside0.mk (blk_below (g := gb685) (o := .cells #[.string a1_0, .string a1_1, .int .i64 a1_2, .int .i64 a1_3] 57 (0, 0)) (by (with_reducible repeat (first | apply blN | apply blD | apply blA)); exact BK685.out) hb)
        have n2_ := Aside0.mk (Kept.below (S := (fun k_ => P0_ k_)) (by repeat (first | (with_reducible first | exact HK.out | apply Kept.alloc | apply Kept.drewN | apply Kept.drew | refine Kept.setCell ?_ (.inr GW685.out) _) | exact HK.out)) hb)
        have n3_ := Aside0.mk (below_step (by repeat (first | (with_reducible first | exact HB.out | apply below_alloc | apply pw_below_drewN | apply below_drew1 | refine below_set ?_ GE685.out) | exact HB.out)) hb)
        clear HO_0
        clear BK685
        clear HK
        clear HB
        have HO_0 := n0_
        have BK685 := n1_
        have HK := n2_
        have HB := n3_
        clear n0_ n1_ n2_ n3_
        (try clear hb)
        (try clear hb2)
        (try clear hk)
        (try clear hi)
        refine hK.out _ _ ⟨(blk_cell BK685.out 0).trans rfl, (blk_cell BK685.out 1).trans rfl, (blk_cell BK685.out 2).trans rfl, (blk_cell BK685.out 3).trans rfl, HS4_, HS5_, HS6_, HS7_⟩ (fun hHeld => ?_)
        clear hK K
        refine norm_ (a' := ?_) ?_ ?_
        rotate_left
        ·show Act.put _ (some 24) _ = _
         simp only [Act.put, sqA, sqB, sqC, i64_w, i32_w]
         rfl
        refine sqP (i := 7) (N := some 7) (v := ?_) (a' := ?_) #[I,I,I,I,I,I,I,I] rfl rfl HT_.out (Or.inl ⟨by rfl, ?_⟩) ?_ ?_
        rotate_left
        ·intro w'
         go_simp
         with_reducible rfl
        rotate_left
        ·simp only [Act.put, sqA, sqB, sqC, i64_w, i32_w]
         rfl
        refine done_ (done_of HT_.out (by kernel_rfl)) ?_
        try go_wp2
        go_roundg k1
        case measure => have := HK1.out; omega
        case rel => exact ⟨(ji14), (by first | rfl | (simp; done) | (simp only [← hji14] <;> (first | rfl | simp)) | (simp [*]; done)), H', ⟨by have := HK1.out; omega⟩, ⟨by (with_reducible repeat (first | apply Kd.R_alloc | apply Kd.R_drewN | apply Kd.R_drew)); exact HO_0.out⟩, ⟨by (with_reducible repeat (first | apply blN | apply blD | apply blA)); exact BK685.out⟩, ⟨by repeat (first | (with_reducible first | exact HK.out | apply Kept.alloc | apply Kept.drewN | apply Kept.drew | refine Kept.setCell ?_ (.inr GW685.out) _) | exact HK.out)⟩, ⟨by repeat (first | (with_reducible first | exact HB.out | apply below_alloc | apply pw_below_drewN | apply below_drew1 | refine below_set ?_ GE685.out) | exact HB.out)⟩⟩
       ·replace c18 := Bool.eq_false_iff.mpr c18
        subst c18
        have H1 : (if 0 ≤ x6_1 then (if x6_1 ≤ (l0.length : Int) then ((some (l0.take (x6_1 : Int).toNat : List (S57))).bind fun y689 => (if ([] : List (S57)).length + y689.length < 2932031007402 then ((some (([] : List (S57)) ++ y689 : List (S57))).bind fun y693 => (if y693.length < 2932031007402 then ((some (y693 ++ [(⟨a1_0, a1_1, (⟨a1_2, a1_3⟩ : S24)⟩ : S57)] : List (S57))).bind fun y696 => ((some (l0.drop (x6_1 : Int).toNat : List (S57))).bind fun y699 => (if y696.length + y699.length < 2932031007402 then (some (y696 ++ y699)) else (none)))) else (none))) else (none))) else (none)) else (none)) = some r := by rw [if_neg (show ¬ (false = true) by decide)] at H; exact H
        clear H
        have H := H1
        clear H1
        by_cases c21 : 0 ≤ x6_1
        ·rw [if_pos c21] at H
         have c21b0 := eq_true c21
         have c21b1 : decide (0 ≤ x6_1) = true := decide_eq_true c21
         clear c21
         by_cases c22 : x6_1 ≤ (l0.length : Int)
         ·rw [if_pos c22] at H
          have c22b0 := eq_true c22
          have c22b1 : decide (x6_1 ≤ (l0.length : Int)) = true := decide_eq_true c22
          clear c22
          obtain ⟨y689, hy689⟩ : ∃ y_ : List (S57), y_ = (l0.take (x6_1 : Int).toNat) := ⟨_, rfl⟩
          replace H : (if ([] : List (S57)).length + y689.length < 2932031007402 then ((some (([] : List (S57)) ++ y689 : List (S57))).bind fun y693 => (if y693.length < 2932031007402 then ((some (y693 ++ [(⟨a1_0, a1_1, (⟨a1_2, a1_3⟩ : S24)⟩ : S57)] : List (S57))).bind fun y696 => ((some (l0.drop (x6_1 : Int).toNat : List (S57))).bind fun y699 => (if y696.length + y699.length < 2932031007402 then (some (y696 ++ y699)) else (none)))) else (none))) else (none)) = some r := by first | (rw [hy689]; with_reducible exact H) | (have H2_ := (Option.bind_some _ _).symm.trans H; rw [hy689]; with_reducible exact H2_) | (have H2_ := (Option.bind_some _ _).symm.trans H; with_reducible exact H2_) | with_reducible exact H | (rw [hy689]; exact H) | exact H
          have Ny689 := Aside0.mk hy689
          clear hy689
          by_cases c23 : ([] : List (S57)).length + y689.length < 2932031007402
          ·rw [if_pos c23] at H
           have LMc23 := Aside0.mk c23
           clear c23
           obtain ⟨y693, hy693⟩ : ∃ y_ : List (S57), y_ = (([] : List (S57)) ++ y689) := ⟨_, rfl⟩
           replace H : (if y693.length < 2932031007402 then ((some (y693 ++ [(⟨a1_0, a1_1, (⟨a1_2, a1_3⟩ : S24)⟩ : S57)] : List (S57))).bind fun y696 => ((some (l0.drop (x6_1 : Int).toNat : List (S57))).bind fun y699 => (if y696.length + y699.length < 2932031007402 then (some (y696 ++ y699)) else (none)))) else (none)) = some r := by first | (rw [hy693]; with_reducible exact H) | (have H2_ := (Option.bind_some _ _).symm.trans H; rw [hy693]; with_reducible exact H2_) | (have H2_ := (Option.bind_some _ _).symm.trans H; with_reducible exact H2_) | with_reducible exact H | (rw [hy693]; exact H) | exact H
           have Ny693 := Aside0.mk hy693
           clear hy693
           by_cases c24 : y693.length < 2932031007402
           ·rw [if_pos c24] at H
            have LMc24 := Aside0.mk c24
            clear c24
            obtain ⟨y696, hy696⟩ : ∃ y_ : List (S57), y_ = (y693 ++ [(⟨a1_0, a1_1, (⟨a1_2, a1_3⟩ : S24)⟩ : S57)]) := ⟨_, rfl⟩
            replace H : ((some (l0.drop (x6_1 : Int).toNat : List (S57))).bind fun y699 => (if y696.length + y699.length < 2932031007402 then (some (y696 ++ y699)) else (none))) = some r := by first | (rw [hy696]; with_reducible exact H) | (have H2_ := (Option.bind_some _ _).symm.trans H; rw [hy696]; with_reducible exact H2_) | (have H2_ := (Option.bind_some _ _).symm.trans H; with_reducible exact H2_) | with_reducible exact H | (rw [hy696]; exact H) | exact H
            have Ny696 := Aside0.mk hy696
            clear hy696
            have c25b0 := eq_true (of_decide_eq_true (by first | (with_reducible assumption) | assumption) : 0 ≤ x6_1)
            have c26b0 := eq_true (of_decide_eq_true (by first | (with_reducible assumption) | assumption) : x6_1 ≤ (l0.length : Int))
            obtain ⟨y699, hy699⟩ : ∃ y_ : List (S57), y_ = (l0.drop (x6_1 : Int).toNat) := ⟨_, rfl⟩
            replace H : (if y696.length + y699.length < 2932031007402 then (some (y696 ++ y699)) else (none)) = some r := by first | (rw [hy699]; with_reducible exact H) | (have H2_ := (Option.bind_some _ _).symm.trans H; rw [hy699]; with_reducible exact H2_) | (have H2_ := (Option.bind_some _ _).symm.trans H; with_reducible exact H2_) | with_reducible exact H | (rw [hy699]; exact H) | exact H
            have Ny699 := Aside0.mk hy699
            clear hy699
            by_cases c27 : y696.length + y699.length < 2932031007402
            ·rw [if_pos c27] at H
             have LMc27 := Aside0.mk c27
             clear c27
             obtain ⟨y703, hy703⟩ : ∃ y_ : List (S57), y_ = (y696 ++ y699) := ⟨_, rfl⟩
             replace H : (some y703) = some r := by first | (rw [hy703]; with_reducible exact H) | (have H2_ := (Option.bind_some _ _).symm.trans H; rw [hy703]; with_reducible exact H2_) | (have H2_ := (Option.bind_some _ _).symm.trans H; with_reducible exact H2_) | with_reducible exact H | (rw [hy703]; exact H) | exact H
             have Ny703 := Aside0.mk hy703
             clear hy703
             obtain rfl := Option.some.inj H
             try go_wp2
             have n0_ := Aside0.mk (Kd.R_drew HO_0.out)
             have n1_ := Aside0.mk (blk_drew BK685.out)
             have n2_ := Aside0.mk (Kept.drew HK.out)
             have n3_ := Aside0.mk (below_drew1 HB.out)
             clear HO_0
             clear BK685
             clear HK
             clear HB
             have HO_0 := n0_
             have BK685 := n1_
             have HK := n2_
             have HB := n3_
             clear n0_ n1_ n2_ n3_
             have p687 : 0 ≤ ((ji14) : Int) := of_decide_eq_true (by first | (with_reducible assumption) | assumption)
             have q687 : (ji14) < (l0.length : Int) := of_decide_eq_true (by first | (with_reducible assumption) | assumption)
             obtain ⟨ad687, e687, hx687_0, hx687_1, hx687_2, hx687_3⟩ := at_T57 (Kd.R_reads' HO_0.out).2.2 (ji14) p687 q687
             cases e687
             replace p687 := eq_true p687
             replace q687 := eq_true q687
             refine start_ (n := 8) (S := fun w' => w'.cell? ⟨gb685, 0, none⟩ = some (.string a1_0) ∧ w'.cell? ⟨gb685, 1, none⟩ = some (.string a1_1) ∧ w'.cell? ⟨gb685, 2, none⟩ = some (.int .i64 a1_2) ∧ w'.cell? ⟨gb685, 3, none⟩ = some (.int .i64 a1_3) ∧ w'.cell? (ad687.add (((ji14)).toNat * 4)) = some (.string ((rd_T57 l0 (ji14)).f0)) ∧ w'.cell? ⟨(ad687.add (((ji14)).toNat * 4)).block, (ad687.add (((ji14)).toNat * 4)).off + 1, none⟩ = some (.string ((rd_T57 l0 (ji14)).f1)) ∧ w'.cell? ⟨(ad687.add (((ji14)).toNat * 4)).block, (ad687.add (((ji14)).toNat * 4)).off + 2, none⟩ = some (.int .i64 ((rd_T57 l0 (ji14)).f2.f0)) ∧ w'.cell? ⟨(ad687.add (((ji14)).toNat * 4)).block, (ad687.add (((ji14)).toNat * 4)).off + 3, none⟩ = some (.int .i64 ((rd_T57 l0 (ji14)).f2.f1))) (ds := []) #[O,O,O,O,O,O,O,O] (by kernel_rfl) rfl rfl ⟨(blk_cell BK685.out 0).trans rfl, (blk_cell BK685.out 1).trans rfl, (blk_cell BK685.out 2).trans rfl, (blk_cell BK685.out 3).trans rfl, hx687_0, hx687_1, hx687_2, hx687_3⟩ (fun hHeld => ?_); refine with_tabW ref08_put.tab6 ref08_put.bits6 (fun HT_ HW_ => ?_)
             generalize wr.drew = w28 at HO_0 BK685 HK HB hx687_0 hx687_1 hx687_2 hx687_3 hHeld ⊢
             refine sqP (i := 1) (N := some 19) (v := ?_) (a' := ?_) #[O,I,O,O,O,O,O,O] rfl rfl HT_.out (Or.inl ⟨by rfl, ?_⟩) ?_ ?_
             rotate_left
             ·intro w'
              go_simp
              with_reducible rfl
             rotate_left
             ·simp only [Act.put, sqA, sqB, sqC, i64_w, i32_w]
              rfl
             refine sqP (i := 2) (N := some 20) (v := ?_) (a' := ?_) #[O,I,I,O,O,O,O,O] rfl rfl HT_.out (Or.inl ⟨by rfl, ?_⟩) ?_ ?_
             rotate_left
             ·intro w'
              go_simp
              with_reducible rfl
             rotate_left
             ·simp only [Act.put, sqA, sqB, sqC, i64_w, i32_w]
              rfl
             refine sqP (i := 3) (N := some 21) (v := ?_) (a' := ?_) #[O,I,I,I,O,O,O,O] rfl rfl HT_.out (Or.inl ⟨by rfl, ?_⟩) ?_ ?_
             rotate_left
             ·intro w'
              go_simp
              with_reducible rfl
             rotate_left
             ·simp only [Act.put, sqA, sqB, sqC, i64_w, i32_w]
              rfl
             refine sqP (i := 4) (N := some 22) (v := ?_) (a' := ?_) #[O,I,I,I,I,O,O,O] rfl rfl HT_.out (Or.inl ⟨by rfl, ?_⟩) ?_ ?_
             rotate_left
             ·intro w'
              go_simp
              with_reducible rfl
             rotate_left
             ·simp only [Act.put, sqA, sqB, sqC, i64_w, i32_w]
              rfl
             refine take_ (i := 0) (N := some 18) (v := ?_) (a' := ?_) #[I,I,I,I,I,O,O,O] rfl rfl (take_ofW HT_.out HW_.out (by kernel_rfl)) (fun _ _ _ h => h) (Or.inl ⟨by rfl, ?_⟩) hHeld ?_ ?_
             rotate_left
             ·rintro w' ⟨s0, s1, s2, s3, s4, s5, s6, s7⟩
              go_simp
              with_reducible rfl
             rotate_left
             ·simp only [Act.put, sqA, sqB, sqC, i64_w, i32_w]
              rfl
             refine take_ (i := 5) (N := some 23) (v := ?_) (a' := ?_) #[I,I,I,I,I,I,O,O] rfl rfl (take_ofW HT_.out HW_.out (by kernel_rfl)) (fun _ _ _ h => h) (Or.inl ⟨by rfl, ?_⟩) hHeld ?_ ?_
             rotate_left
             ·rintro w' ⟨s0, s1, s2, s3, s4, s5, s6, s7⟩
              go_simp
              with_reducible rfl
             rotate_left
             ·simp only [Act.put, sqA, sqB, sqC, i64_w, i32_w]
              rfl
             refine one_ (i := 6) (N := some 24) #[I,I,I,I,I,I,I,O] rfl rfl (one_of HT_.out (by kernel_rfl)) (by decide) (fun K hK => ?_)
             refine goes_ Try.func58 (by kernel_rfl) rfl #[.agg #[.string a1_0, .string a1_1, .int .i64 a1_2, .int .i64 a1_3], .agg #[.string ((rd_T57 l0 (ji14)).f0), .string ((rd_T57 l0 (ji14)).f1), .int .i64 ((rd_T57 l0 (ji14)).f2.f0), .int .i64 ((rd_T57 l0 (ji14)).f2.f1)]] (by rfl) rfl rfl (by (try simp only [List.map_toArray, List.map_cons, List.map_nil]); first | done | (simp only [hji14]; rfl) | rfl | (simp only [List.length_drop, List.length_take]; rfl)) ?_
             with_reducible refine (ref08_Less.calls a1_0 a1_1 a1_2 a1_3 ((rd_T57 l0 (ji14)).f0) ((rd_T57 l0 (ji14)).f1) ((rd_T57 l0 (ji14)).f2.f0) ((rd_T57 l0 (ji14)).f2.f1) false _ A17.out).mono ?_
             rintro e w29 ⟨rfl, hb⟩
             have HS4_ := (hb.cell (World.block_lt_of_cell? _ _ (hHeld.2.2.2.2.1))).trans (hHeld.2.2.2.2.1)
             have HS5_ := (hb.cell (World.block_lt_of_cell? _ _ (hHeld.2.2.2.2.2.1))).trans (hHeld.2.2.2.2.2.1)
             have HS6_ := (hb.cell (World.block_lt_of_cell? _ _ (hHeld.2.2.2.2.2.2.1))).trans (hHeld.2.2.2.2.2.2.1)
             have HS7_ := (hb.cell (World.block_lt_of_cell? _ _ (hHeld.2.2.2.2.2.2.2))).trans (hHeld.2.2.2.2.2.2.2)
             refine ⟨_, rfl, ?_⟩
             have n0_ := Aside0.mk (Kd.R_below (by (with_reducible repeat (first | apply Kd.R_alloc | apply Kd.R_drewN | apply Kd.R_drew)); exact HO_0.out) hb)
             have n1_ := Aside0.mk (blk_below (g := gb685) (o := .cells #[.string a1_0, .string a1_1, .int .i64 a1_2, .int .i64 a1_3] 57 (0, 0)) (by (with_reducible repeat (first | apply blN | apply blD | apply blA)); exact BK685.out) hb)
             have n2_ := Aside0.mk (Kept.below (S := (fun k_ => P0_ k_)) (by repeat (first | (with_reducible first | exact HK.out | apply Kept.alloc | apply Kept.drewN | apply Kept.drew | refine Kept.setCell ?_ (.inr GW685.out) _) | exact HK.out)) hb)
             have n3_ := Aside0.mk (below_step (by repeat (first | (with_reducible first | exact HB.out | apply below_alloc | apply pw_below_drewN | apply below_drew1 | refine below_set ?_ GE685.out) | exact HB.out)) hb)
             clear HO_0
             clear BK685
             clear HK
             clear HB
             have HO_0 := n0_
             have BK685 := n1_
             have HK := n2_
             have HB := n3_
             clear n0_ n1_ n2_ n3_
             (try clear hb)
             (try clear hb2)
             (try clear hk)
             (try clear hi)
             refine hK.out _ _ ⟨(blk_cell BK685.out 0).trans rfl, (blk_cell BK685.out 1).trans rfl, (blk_cell BK685.out 2).trans rfl, (blk_cell BK685.out 3).trans rfl, HS4_, HS5_, HS6_, HS7_⟩ (fun hHeld => ?_)
             clear hK K
             refine norm_ (a' := ?_) ?_ ?_
             rotate_left
             ·show Act.put _ (some 24) _ = _
              simp only [Act.put, sqA, sqB, sqC, i64_w, i32_w]
              rfl
             refine sqP (i := 7) (N := some 7) (v := ?_) (a' := ?_) #[I,I,I,I,I,I,I,I] rfl rfl HT_.out (Or.inl ⟨by rfl, ?_⟩) ?_ ?_
             rotate_left
             ·intro w'
              go_simp
              with_reducible rfl
             rotate_left
             ·simp only [Act.put, sqA, sqB, sqC, i64_w, i32_w]
              rfl
             refine done_ (done_of HT_.out (by kernel_rfl)) ?_
             have q30 : (x6_1 : Int) ≤ ((l0.length : Int) : Int) := of_decide_eq_true (by first | (with_reducible assumption) | assumption)
             obtain ⟨i030, hi030, _, hsz30, _⟩ := info_parts info57
             have hroom30 : l0.length ≤ co11 := (Kd.R_reads' HO_0.out).2.1
             have hC30 : Kd.C k57 _ (some ad687) l0.length l0 := (Kd.R_reads' HO_0.out).2.2
             have hcut30 := cut_to (P := Try.prog) 55 57 .i64 Try.underlying55 hi030 (some ad687) l0.length co11 x6_1 (of_decide_eq_true (by first | (with_reducible assumption) | assumption)) q30 hroom30
             have hr30 := Kd.C_take (m := (x6_1 : Int).toNat) hC30 (by omega)
             have hy30 : y689.length = (x6_1 : Int).toNat := (by rw [Ny689.out, List.length_take]; omega)
             rw [← Ny689.out] at hr30
             rw [← hy30] at hcut30
             have HR692 := Aside0.mk hr30
             have HC692 := Aside0.mk (show y689.length ≤ co11 from by omega)
             clear hr30 hC30 hroom30 hi030 hsz30
             have KY30 := Aside0.mk hy30
             clear hy30
             have KL30 := Aside0.mk (show (x6_1 : Int).toNat ≤ l0.length from by omega)
             replace q30 := eq_true q30
             try go_wp2_with (first | ((with_reducible refine gate_builtin (b := .append) (xs := #[.const (.slice none 0 0), .tmp 31]) rfl ?_); at_builtin; refine Kd.R_append_rows k57 (w0 := w0) w0.heap.size rfl (.const (.slice none 0 0)) (.tmp 31) 55 57 (.agg #[(.string ⟨#[]⟩), (.string ⟨#[]⟩), (.int .i64 0), (.int .i64 0)]) 48 rfl Try.underlying55 info57 rfl (by decide) (by omega) (.slice none 0 0) ([] : List (S57)) y689 _ _ _ (fun k_ => (P0_ k_ ∨ w.heap.size ≤ k_) ∧ some k_ ≠ (.slice (some ad687) l0.length co11 : Value).ownBlock ∧ k_ ≠ gb685) (fun _ => False) rfl rfl ?aO ?aR (fun _ _ h => h) (fun _ h => h.elim) ?aF ?aB ?aS ?aL ?_; (case aR => repeat (first | exact (by repeat (first | (with_reducible exact HR692.out) | (with_reducible refine Kd.C_alloc ?_ _) | (with_reducible refine Kd.C_drewN ?_ _) | (with_reducible refine Kd.C_drew ?_) | exact HR692.out)) | (with_reducible refine Kd.C_alloc ?_ _) | (with_reducible refine Kd.C_drewN ?_ _) | (with_reducible refine Kd.C_drew ?_))); (case aB => exact (by repeat (first | (with_reducible first | exact HB.out | apply below_alloc | apply pw_below_drewN | apply below_drew1 | refine below_set ?_ GE685.out) | exact HB.out))); (case aF => exact (fun k_ hk => ⟨(.inr (Nat.le_trans (by first | exact HK.out.1 | exact (show Kept w _ (fun k_ => P0_ k_) from by repeat (first | (with_reducible first | exact HK.out | apply Kept.alloc | apply Kept.drewN | apply Kept.drew | refine Kept.setCell ?_ (.inr GW685.out) _) | exact HK.out)).1) hk)), Kd.fresh' (Kd.R_lt (by (with_reducible repeat (first | apply Kd.R_alloc | apply Kd.R_drewN | apply Kd.R_drew)); exact HO_0.out)) k_ hk, Kd.freshB (g := gb685) (o := .cells #[.string a1_0, .string a1_1, .int .i64 a1_2, .int .i64 a1_3] 57 (0, 0)) (by (with_reducible repeat (first | apply blN | apply blD | apply blA)); exact BK685.out) k_ hk⟩)); (case aO => exact ((Kd.R_nil _ _ _ _ (fun k_ => (P0_ k_ ∨ w.heap.size ≤ k_) ∧ some k_ ≠ (.slice (some ad687) l0.length co11 : Value).ownBlock ∧ k_ ≠ gb685)))); (case aS => exact (below_size (by repeat (first | (with_reducible first | exact HB.out | apply below_alloc | apply pw_below_drewN | apply below_drew1 | refine below_set ?_ GE685.out) | exact HB.out)))); (case aL => have := LMc23.out; omega); intro v694 w31 ho hb hg hat; rw [← Ny693.out] at ho; have n0_ := Aside0.mk (Kd.R_after (Kd.R_apart_nil (by (with_reducible repeat (first | apply Kd.R_alloc | apply Kd.R_drewN | apply Kd.R_drew)); exact HO_0.out)) hg hat); have n1_ := Aside0.mk (blk_grown (g := gb685) (o := .cells #[.string a1_0, .string a1_1, .int .i64 a1_2, .int .i64 a1_3] 57 (0, 0)) (by (with_reducible repeat (first | apply blN | apply blD | apply blA)); exact BK685.out) hg (by simp [Value.ownBlock])); have n2_ := Aside0.mk (hb); have n3_ := Aside0.mk (Kept.of_grown (S := (fun k_ => P0_ k_)) hg (by repeat (first | (with_reducible first | exact HK.out | apply Kept.alloc | apply Kept.drewN | apply Kept.drew | refine Kept.setCell ?_ (.inr GW685.out) _) | exact HK.out)) (fun k_ e_ => by simp [Value.ownBlock] at e_)); have n4_ := Aside0.mk ((show Kd.C k57 w31 (some ad687) y689.length y689 from by rw [Ny689.out]; exact Kd.C_take (m := (x6_1 : Int).toNat) ((Kd.R_reads' (Kd.R_after (Kd.R_apart_nil (by (with_reducible repeat (first | apply Kd.R_alloc | apply Kd.R_drewN | apply Kd.R_drew)); exact HO_0.out)) hg hat)).2.2) KL30.out)); have n5_ := Aside0.mk (ho); clear HO_0; clear BK685; clear HB; clear HK; clear HR692; have HO_0 := n0_; have BK685 := n1_; have HB := n2_; have HK := n3_; have HR692 := n4_; have HO695 := n5_; clear n0_ n1_ n2_ n3_ n4_ n5_; clear ho hb hg hat; have hcz32_0 : w31.cell? ⟨gb685, 0, none⟩ = some (.string a1_0) := (blk_cell BK685.out 0).trans rfl; have hcz32_1 : w31.cell? ⟨gb685, 1, none⟩ = some (.string a1_1) := (blk_cell BK685.out 1).trans rfl; have hcz32_2 : w31.cell? ⟨gb685, 2, none⟩ = some (.int .i64 a1_2) := (blk_cell BK685.out 2).trans rfl; have hcz32_3 : w31.cell? ⟨gb685, 3, none⟩ = some (.int .i64 a1_3) := (blk_cell BK685.out 3).trans rfl; have hfz32_0 := blk_frozen BK685.out 0; have hfz32_1 := blk_frozen BK685.out 1; have hfz32_2 := blk_frozen BK685.out 2; have hfz32_3 := blk_frozen BK685.out 3) | ((with_reducible refine gate_builtin (b := .append) (xs := #[.tmp 33, .tmp 35]) rfl ?_); at_builtin; refine Kd.R_append k57 (w0 := w0) w0.heap.size rfl (.tmp 33) (.tmp 35) 55 57 (.agg #[(.string ⟨#[]⟩), (.string ⟨#[]⟩), (.int .i64 0), (.int .i64 0)]) 48 rfl Try.underlying55 info57 rfl (by decide) (by omega) v694 y693 (⟨a1_0, a1_1, (⟨a1_2, a1_3⟩ : S24)⟩ : S57) [.string a1_0, .string a1_1, .int .i64 a1_2, .int .i64 a1_3] (fun k_ => (P0_ k_ ∨ w.heap.size ≤ k_) ∧ some k_ ≠ (.slice (some ad687) l0.length co11 : Value).ownBlock ∧ k_ ≠ gb685) (fun _ => False) rfl rfl ?aP (fun _ hk => hk.elim) ?aF ?aO ?aB ?aS ?aL ?_; (case aP => exact k57_mkM _ _ _ (⟨a1_0, a1_1, (⟨a1_2, a1_3⟩ : S24)⟩ : S57)); (case aB => exact (by repeat (first | (with_reducible first | exact HB.out | apply below_alloc | apply pw_below_drewN | apply below_drew1 | refine below_set ?_ GE685.out) | exact HB.out))); (case aF => exact (fun k_ hk => ⟨(.inr (Nat.le_trans (by first | exact HK.out.1 | exact (show Kept w _ (fun k_ => P0_ k_) from by repeat (first | (with_reducible first | exact HK.out | apply Kept.alloc | apply Kept.drewN | apply Kept.drew | refine Kept.setCell ?_ (.inr GW685.out) _) | exact HK.out)).1) hk)), Kd.fresh' (Kd.R_lt (by (with_reducible repeat (first | apply Kd.R_alloc | apply Kd.R_drewN | apply Kd.R_drew)); exact HO_0.out)) k_ hk, Kd.freshB (g := gb685) (o := .cells #[.string a1_0, .string a1_1, .int .i64 a1_2, .int .i64 a1_3] 57 (0, 0)) (by (with_reducible repeat (first | apply blN | apply blD | apply blA)); exact BK685.out) k_ hk⟩)); (case aO => exact (by (with_reducible repeat (first | apply Kd.R_alloc | apply Kd.R_drewN | apply Kd.R_drew)); exact HO695.out)); (case aS => exact (below_size (by repeat (first | (with_reducible first | exact HB.out | apply below_alloc | apply pw_below_drewN | apply below_drew1 | refine below_set ?_ GE685.out) | exact HB.out)))); (case aL => have := LMc24.out; omega); intro v697 w33 ho hb hg hat; rw [← Ny696.out] at ho; have n0_ := Aside0.mk (Kd.R_after (ok := (fun k_ => (P0_ k_ ∨ w.heap.size ≤ k_) ∧ k_ ≠ gb685)) (by (with_reducible repeat (first | apply Kd.R_alloc | apply Kd.R_drewN | apply Kd.R_drew)); exact HO_0.out) hg hat); have n1_ := Aside0.mk (blk_grown (g := gb685) (o := .cells #[.string a1_0, .string a1_1, .int .i64 a1_2, .int .i64 a1_3] 57 (0, 0)) (by (with_reducible repeat (first | apply blN | apply blD | apply blA)); exact BK685.out) hg (Kd.R_away HO695.out (fun _ hk => hk.2.2))); have n2_ := Aside0.mk (hb); have n3_ := Aside0.mk (Kept.of_grown (S := (fun k_ => P0_ k_)) hg (by repeat (first | (with_reducible first | exact HK.out | apply Kept.alloc | apply Kept.drewN | apply Kept.drew | refine Kept.setCell ?_ (.inr GW685.out) _) | exact HK.out)) (fun k_ e_ => (HO695.out.1 k_ e_).1)); have n4_ := Aside0.mk ((show Kd.C k57 w33 (some ad687) y689.length y689 from by rw [Ny689.out]; exact Kd.C_take (m := (x6_1 : Int).toNat) ((Kd.R_reads' (Kd.R_after (ok := (fun k_ => (P0_ k_ ∨ w.heap.size ≤ k_) ∧ k_ ≠ gb685)) (by (with_reducible repeat (first | apply Kd.R_alloc | apply Kd.R_drewN | apply Kd.R_drew)); exact HO_0.out) hg hat)).2.2) KL30.out)); have n5_ := Aside0.mk (ho); clear HO_0; clear BK685; clear HB; clear HK; clear HR692; clear HO695; have HO_0 := n0_; have BK685 := n1_; have HB := n2_; have HK := n3_; have HR692 := n4_; have HO698 := n5_; clear n0_ n1_ n2_ n3_ n4_ n5_; clear ho hb hg hat; have q34 : (x6_1 : Int) ≤ ((l0.length : Int) : Int) := of_decide_eq_true (by first | (with_reducible assumption) | assumption); obtain ⟨i034, hi034, _, hsz34, _⟩ := info_parts info57; have hroom34 : l0.length ≤ co11 := (Kd.R_reads' HO_0.out).2.1; have hC34 : Kd.C k57 _ (some ad687) l0.length l0 := (Kd.R_reads' HO_0.out).2.2; have q034 : (0 : Int) ≤ (x6_1 : Int) := of_decide_eq_true (by first | (with_reducible assumption) | assumption); have hcut34 := cut_from (P := Try.prog) 55 57 .i64 Try.underlying55 hi034 4 hsz34 (some ad687) l0.length co11 x6_1 q034 q34; have hr34 := Kd.C_drop (m := (x6_1 : Int).toNat) (c := co11) hC34 (by omega) hroom34; obtain ⟨A34, hA34⟩ : ∃ A1, A1 = (if co11 = (x6_1 : Int).toNat then (some ad687) else ((some ad687) : Option Addr).map (·.add ((x6_1 : Int).toNat * 4))) := ⟨_, rfl⟩; obtain ⟨c34, hc34⟩ : ∃ c1, c1 = co11 - (x6_1 : Int).toNat := ⟨_, rfl⟩; have hy34 : y699.length = l0.length - (x6_1 : Int).toNat := (by rw [Ny699.out, List.length_drop] <;> omega); rw [show (l0).drop (x6_1 : Int).toNat = y699 from Ny699.out.symm] at hr34; replace hr34 : Kd.C k57 _ A34 y699.length y699 := (by rw [hA34]; exact hr34); rw [← hy34, ← hA34, ← hc34] at hcut34; have HR702 := Aside0.mk hr34; have HC702 := Aside0.mk (show y699.length ≤ c34 from by rw [hy34, hc34]; exact Nat.sub_le_sub_right hroom34 _); clear hr34 hC34 hroom34 hi034 hsz34 hc34; have KY34 := Aside0.mk hy34; have KA34 := Aside0.mk hA34; clear hy34 hA34; have KL34 := Aside0.mk (show (x6_1 : Int).toNat ≤ l0.length from by omega); replace q34 := eq_true q34) | ((with_reducible refine gate_builtin (b := .append) (xs := #[.tmp 37, .tmp 40]) rfl ?_); at_builtin; refine Kd.R_append_rows k57 (w0 := w0) w0.heap.size rfl (.tmp 37) (.tmp 40) 55 57 (.agg #[(.string ⟨#[]⟩), (.string ⟨#[]⟩), (.int .i64 0), (.int .i64 0)]) 48 rfl Try.underlying55 info57 rfl (by decide) (by omega) v697 y696 y699 _ _ _ (fun k_ => (P0_ k_ ∨ w.heap.size ≤ k_) ∧ some k_ ≠ (.slice (some ad687) l0.length co11 : Value).ownBlock ∧ k_ ≠ gb685) (fun _ => False) rfl rfl ?aO ?aR (fun _ _ h => h) (fun _ h => h.elim) ?aF ?aB ?aS ?aL ?_; (case aR => repeat (first | exact (by repeat (first | (with_reducible exact HR702.out) | (with_reducible refine Kd.C_alloc ?_ _) | (with_reducible refine Kd.C_drewN ?_ _) | (with_reducible refine Kd.C_drew ?_) | exact HR702.out)) | (with_reducible refine Kd.C_alloc ?_ _) | (with_reducible refine Kd.C_drewN ?_ _) | (with_reducible refine Kd.C_drew ?_))); (case aB => exact (by repeat (first | (with_reducible first | exact HB.out | apply below_alloc | apply pw_below_drewN | apply below_drew1 | refine below_set ?_ GE685.out) | exact HB.out))); (case aF => exact (fun k_ hk => ⟨(.inr (Nat.le_trans (by first | exact HK.out.1 | exact (show Kept w _ (fun k_ => P0_ k_) from by repeat (first | (with_reducible first | exact HK.out | apply Kept.alloc | apply Kept.drewN | apply Kept.drew | refine Kept.setCell ?_ (.inr GW685.out) _) | exact HK.out)).1) hk)), Kd.fresh' (Kd.R_lt (by (with_reducible repeat (first | apply Kd.R_alloc | apply Kd.R_drewN | apply Kd.R_drew)); exact HO_0.out)) k_ hk, Kd.freshB (g := gb685) (o := .cells #[.string a1_0, .string a1_1, .int .i64 a1_2, .int .i64 a1_3] 57 (0, 0)) (by (with_reducible repeat (first | apply blN | apply blD | apply blA)); exact BK685.out) k_ hk⟩)); (case aO => exact (by (with_reducible repeat (first | apply Kd.R_alloc | apply Kd.R_drewN | apply Kd.R_drew)); exact HO698.out)); (case aS => exact (below_size (by repeat (first | (with_reducible first | exact HB.out | apply below_alloc | apply pw_below_drewN | apply below_drew1 | refine below_set ?_ GE685.out) | exact HB.out)))); (case aL => have := LMc27.out; omega); intro v704 w35 ho hb hg hat; rw [← Ny703.out] at ho; have n0_ := Aside0.mk (Kd.R_after (ok := (fun k_ => (P0_ k_ ∨ w.heap.size ≤ k_) ∧ k_ ≠ gb685)) (by (with_reducible repeat (first | apply Kd.R_alloc | apply Kd.R_drewN | apply Kd.R_drew)); exact HO_0.out) hg hat); have n1_ := Aside0.mk (blk_grown (g := gb685) (o := .cells #[.string a1_0, .string a1_1, .int .i64 a1_2, .int .i64 a1_3] 57 (0, 0)) (by (with_reducible repeat (first | apply blN | apply blD | apply blA)); exact BK685.out) hg (Kd.R_away HO698.out (fun _ hk => hk.2.2))); have n2_ := Aside0.mk (hb); have n3_ := Aside0.mk (Kept.of_grown (S := (fun k_ => P0_ k_)) hg (by repeat (first | (with_reducible first | exact HK.out | apply Kept.alloc | apply Kept.drewN | apply Kept.drew | refine Kept.setCell ?_ (.inr GW685.out) _) | exact HK.out)) (fun k_ e_ => (HO698.out.1 k_ e_).1)); have n4_ := Aside0.mk ((show Kd.C k57 w35 (some ad687) y689.length y689 from by rw [Ny689.out]; exact Kd.C_take (m := (x6_1 : Int).toNat) ((Kd.R_reads' (Kd.R_after (ok := (fun k_ => (P0_ k_ ∨ w.heap.size ≤ k_) ∧ k_ ≠ gb685)) (by (with_reducible repeat (first | apply Kd.R_alloc | apply Kd.R_drewN | apply Kd.R_drew)); exact HO_0.out) hg hat)).2.2) KL30.out)); have n5_ := Aside0.mk ((show Kd.C k57 w35 A34 y699.length y699 from by rw [Ny699.out, KA34.out]; exact Kd.C_drop (m := (x6_1 : Int).toNat) (c := co11) ((Kd.R_reads' (Kd.R_after (ok := (fun k_ => (P0_ k_ ∨ w.heap.size ≤ k_) ∧ k_ ≠ gb685)) (by (with_reducible repeat (first | apply Kd.R_alloc | apply Kd.R_drewN | apply Kd.R_drew)); exact HO_0.out) hg hat)).2.2) KL34.out ((Kd.R_reads' (Kd.R_after (ok := (fun k_ => (P0_ k_ ∨ w.heap.size ≤ k_) ∧ k_ ≠ gb685)) (by (with_reducible repeat (first | apply Kd.R_alloc | apply Kd.R_drewN | apply Kd.R_drew)); exact HO_0.out) hg hat)).2.1))); have n6_ := Aside0.mk (ho); clear HO_0; clear BK685; clear HB; clear HK; clear HR692; clear HR702; clear HO698; have HO_0 := n0_; have BK685 := n1_; have HB := n2_; have HK := n3_; have HR692 := n4_; have HR702 := n5_; have HO705 := n6_; clear n0_ n1_ n2_ n3_ n4_ n5_ n6_; clear ho hb hg hat))
             go_ret
             exact ⟨_, by first | rfl | (simp [errW_none, errW_some] <;> rfl) | (simp only [← hji14]; first | rfl | (simp [errW_none, errW_some] <;> rfl)) | (simp [*, errW_none, errW_some] <;> rfl), by (with_reducible repeat (first | apply Kd.R_alloc | apply Kd.R_drewN | apply Kd.R_drew)); exact Kd.R_mono HO705.out (fun _ hk => hk.1), by repeat (first | (with_reducible first | exact HB.out | apply below_alloc | apply pw_below_drewN | apply below_drew1 | refine below_set ?_ GE685.out) | exact HB.out), by repeat (first | (with_reducible first | exact HK.out | apply Kept.alloc | apply Kept.drewN | apply Kept.drew | refine Kept.setCell ?_ (.inr GW685.out) _) | exact HK.out)⟩
            ·rw [if_neg c27] at H
             exact absurd H (by simp)
           ·rw [if_neg c24] at H
            exact absurd H (by simp)
          ·rw [if_neg c23] at H
           exact absurd H (by simp)
         ·rw [if_neg c22] at H
          exact absurd H (by simp)
        ·rw [if_neg c21] at H
         exact absurd H (by simp)
      ·rw [if_neg c16] at H
       exact absurd H (by simp)
     ·rw [if_neg c15] at H
      exact absurd H (by simp)
    ·rw [if_neg c13] at H
     have c13b0 : decide (0 < x6_1) = false := decide_eq_false c13
     clear c13
     by_cases c36 : 0 ≤ x6_1
     ·rw [if_pos c36] at H
      have c36b0 := eq_true c36
      have c36b1 : decide (0 ≤ x6_1) = true := decide_eq_true c36
      clear c36
      by_cases c37 : x6_1 ≤ (l0.length : Int)
      ·rw [if_pos c37] at H
       have c37b0 := eq_true c37
       have c37b1 : decide (x6_1 ≤ (l0.length : Int)) = true := decide_eq_true c37
       clear c37
       obtain ⟨y706, hy706⟩ : ∃ y_ : List (S57), y_ = (l0.take (x6_1 : Int).toNat) := ⟨_, rfl⟩
       replace H : (if ([] : List (S57)).length + y706.length < 2932031007402 then ((some (([] : List (S57)) ++ y706 : List (S57))).bind fun y710 => (if y710.length < 2932031007402 then ((some (y710 ++ [(⟨a1_0, a1_1, (⟨a1_2, a1_3⟩ : S24)⟩ : S57)] : List (S57))).bind fun y713 => ((some (l0.drop (x6_1 : Int).toNat : List (S57))).bind fun y716 => (if y713.length + y716.length < 2932031007402 then (some (y713 ++ y716)) else (none)))) else (none))) else (none)) = some r := by first | (rw [hy706]; with_reducible exact H) | (have H2_ := (Option.bind_some _ _).symm.trans H; rw [hy706]; with_reducible exact H2_) | (have H2_ := (Option.bind_some _ _).symm.trans H; with_reducible exact H2_) | with_reducible exact H | (rw [hy706]; exact H) | exact H
       have Ny706 := Aside0.mk hy706
       clear hy706
       by_cases c38 : ([] : List (S57)).length + y706.length < 2932031007402
       ·rw [if_pos c38] at H
        have LMc38 := Aside0.mk c38
        clear c38
        obtain ⟨y710, hy710⟩ : ∃ y_ : List (S57), y_ = (([] : List (S57)) ++ y706) := ⟨_, rfl⟩
        replace H : (if y710.length < 2932031007402 then ((some (y710 ++ [(⟨a1_0, a1_1, (⟨a1_2, a1_3⟩ : S24)⟩ : S57)] : List (S57))).bind fun y713 => ((some (l0.drop (x6_1 : Int).toNat : List (S57))).bind fun y716 => (if y713.length + y716.length < 2932031007402 then (some (y713 ++ y716)) else (none)))) else (none)) = some r := by first | (rw [hy710]; with_reducible exact H) | (have H2_ := (Option.bind_some _ _).symm.trans H; rw [hy710]; with_reducible exact H2_) | (have H2_ := (Option.bind_some _ _).symm.trans H; with_reducible exact H2_) | with_reducible exact H | (rw [hy710]; exact H) | exact H
        have Ny710 := Aside0.mk hy710
        clear hy710
        by_cases c39 : y710.length < 2932031007402
        ·rw [if_pos c39] at H
         have LMc39 := Aside0.mk c39
         clear c39
         obtain ⟨y713, hy713⟩ : ∃ y_ : List (S57), y_ = (y710 ++ [(⟨a1_0, a1_1, (⟨a1_2, a1_3⟩ : S24)⟩ : S57)]) := ⟨_, rfl⟩
         replace H : ((some (l0.drop (x6_1 : Int).toNat : List (S57))).bind fun y716 => (if y713.length + y716.length < 2932031007402 then (some (y713 ++ y716)) else (none))) = some r := by first | (rw [hy713]; with_reducible exact H) | (have H2_ := (Option.bind_some _ _).symm.trans H; rw [hy713]; with_reducible exact H2_) | (have H2_ := (Option.bind_some _ _).symm.trans H; with_reducible exact H2_) | with_reducible exact H | (rw [hy713]; exact H) | exact H
         have Ny713 := Aside0.mk hy713
         clear hy713
         have c40b0 := eq_true (of_decide_eq_true (by first | (with_reducible assumption) | assumption) : 0 ≤ x6_1)
         have c41b0 := eq_true (of_decide_eq_true (by first | (with_reducible assumption) | assumption) : x6_1 ≤ (l0.length : Int))
         obtain ⟨y716, hy716⟩ : ∃ y_ : List (S57), y_ = (l0.drop (x6_1 : Int).toNat) := ⟨_, rfl⟩
         replace H : (if y713.length + y716.length < 2932031007402 then (some (y713 ++ y716)) else (none)) = some r := by first | (rw [hy716]; with_reducible exact H) | (have H2_ := (Option.bind_some _ _).symm.trans H; rw [hy716]; with_reducible exact H2_) | (have H2_ := (Option.bind_some _ _).symm.trans H; with_reducible exact H2_) | with_reducible exact H | (rw [hy716]; exact H) | exact H
         have Ny716 := Aside0.mk hy716
         clear hy716
         by_cases c42 : y713.length + y716.length < 2932031007402
         ·rw [if_pos c42] at H
          have LMc42 := Aside0.mk c42
          clear c42
          obtain ⟨y720, hy720⟩ : ∃ y_ : List (S57), y_ = (y713 ++ y716) := ⟨_, rfl⟩
          replace H : (some y720) = some r := by first | (rw [hy720]; with_reducible exact H) | (have H2_ := (Option.bind_some _ _).symm.trans H; rw [hy720]; with_reducible exact H2_) | (have H2_ := (Option.bind_some _ _).symm.trans H; with_reducible exact H2_) | with_reducible exact H | (rw [hy720]; exact H) | exact H
          have Ny720 := Aside0.mk hy720
          clear hy720
          obtain rfl := Option.some.inj H
          have q43 : (x6_1 : Int) ≤ ((l0.length : Int) : Int) := of_decide_eq_true (by first | (with_reducible assumption) | assumption)
          obtain ⟨i043, hi043, _, hsz43, _⟩ := info_parts info57
          have hroom43 : l0.length ≤ co11 := (Kd.R_reads' HO_0.out).2.1
          have hC43 : Kd.C k57 _ Ao11 l0.length l0 := (Kd.R_reads' HO_0.out).2.2
          have hcut43 := cut_to (P := Try.prog) 55 57 .i64 Try.underlying55 hi043 Ao11 l0.length co11 x6_1 (of_decide_eq_true (by first | (with_reducible assumption) | assumption)) q43 hroom43
          have hr43 := Kd.C_take (m := (x6_1 : Int).toNat) hC43 (by omega)
          have hy43 : y706.length = (x6_1 : Int).toNat := (by rw [Ny706.out, List.length_take]; omega)
          rw [← Ny706.out] at hr43
          rw [← hy43] at hcut43
          have HR709 := Aside0.mk hr43
          have HC709 := Aside0.mk (show y706.length ≤ co11 from by omega)
          clear hr43 hC43 hroom43 hi043 hsz43
          have KY43 := Aside0.mk hy43
          clear hy43
          have KL43 := Aside0.mk (show (x6_1 : Int).toNat ≤ l0.length from by omega)
          replace q43 := eq_true q43
          go_wp2_with (first | ((with_reducible refine gate_builtin (b := .append) (xs := #[.const (.slice none 0 0), .tmp 31]) rfl ?_); at_builtin; refine Kd.R_append_rows k57 (w0 := w0) w0.heap.size rfl (.const (.slice none 0 0)) (.tmp 31) 55 57 (.agg #[(.string ⟨#[]⟩), (.string ⟨#[]⟩), (.int .i64 0), (.int .i64 0)]) 48 rfl Try.underlying55 info57 rfl (by decide) (by omega) (.slice none 0 0) ([] : List (S57)) y706 _ _ _ (fun k_ => (P0_ k_ ∨ w.heap.size ≤ k_) ∧ some k_ ≠ (.slice Ao11 l0.length co11 : Value).ownBlock ∧ k_ ≠ gb685) (fun _ => False) rfl rfl ?aO ?aR (fun _ _ h => h) (fun _ h => h.elim) ?aF ?aB ?aS ?aL ?_; (case aR => repeat (first | exact (by repeat (first | (with_reducible exact HR709.out) | (with_reducible refine Kd.C_alloc ?_ _) | (with_reducible refine Kd.C_drewN ?_ _) | (with_reducible refine Kd.C_drew ?_) | exact HR709.out)) | (with_reducible refine Kd.C_alloc ?_ _) | (with_reducible refine Kd.C_drewN ?_ _) | (with_reducible refine Kd.C_drew ?_))); (case aB => exact (by repeat (first | (with_reducible first | exact HB.out | apply below_alloc | apply pw_below_drewN | apply below_drew1 | refine below_set ?_ GE685.out) | exact HB.out))); (case aF => exact (fun k_ hk => ⟨(.inr (Nat.le_trans (by first | exact HK.out.1 | exact (show Kept w _ (fun k_ => P0_ k_) from by repeat (first | (with_reducible first | exact HK.out | apply Kept.alloc | apply Kept.drewN | apply Kept.drew | refine Kept.setCell ?_ (.inr GW685.out) _) | exact HK.out)).1) hk)), Kd.fresh' (Kd.R_lt (by (with_reducible repeat (first | apply Kd.R_alloc | apply Kd.R_drewN | apply Kd.R_drew)); exact HO_0.out)) k_ hk, Kd.freshB (g := gb685) (o := .cells #[.string a1_0, .string a1_1, .int .i64 a1_2, .int .i64 a1_3] 57 (0, 0)) (by (with_reducible repeat (first | apply blN | apply blD | apply blA)); exact BK685.out) k_ hk⟩)); (case aO => exact ((Kd.R_nil _ _ _ _ (fun k_ => (P0_ k_ ∨ w.heap.size ≤ k_) ∧ some k_ ≠ (.slice Ao11 l0.length co11 : Value).ownBlock ∧ k_ ≠ gb685)))); (case aS => exact (below_size (by repeat (first | (with_reducible first | exact HB.out | apply below_alloc | apply pw_below_drewN | apply below_drew1 | refine below_set ?_ GE685.out) | exact HB.out)))); (case aL => have := LMc38.out; omega); intro v711 w44 ho hb hg hat; rw [← Ny710.out] at ho; have n0_ := Aside0.mk (Kd.R_after (Kd.R_apart_nil (by (with_reducible repeat (first | apply Kd.R_alloc | apply Kd.R_drewN | apply Kd.R_drew)); exact HO_0.out)) hg hat); have n1_ := Aside0.mk (blk_grown (g := gb685) (o := .cells #[.string a1_0, .string a1_1, .int .i64 a1_2, .int .i64 a1_3] 57 (0, 0)) (by (with_reducible repeat (first | apply blN | apply blD | apply blA)); exact BK685.out) hg (by simp [Value.ownBlock])); have n2_ := Aside0.mk (hb); have n3_ := Aside0.mk (Kept.of_grown (S := (fun k_ => P0_ k_)) hg (by repeat (first | (with_reducible first | exact HK.out | apply Kept.alloc | apply Kept.drewN | apply Kept.drew | refine Kept.setCell ?_ (.inr GW685.out) _) | exact HK.out)) (fun k_ e_ => by simp [Value.ownBlock] at e_)); have n4_ := Aside0.mk ((show Kd.C k57 w44 Ao11 y706.length y706 from by rw [Ny706.out]; exact Kd.C_take (m := (x6_1 : Int).toNat) ((Kd.R_reads' (Kd.R_after (Kd.R_apart_nil (by (with_reducible repeat (first | apply Kd.R_alloc | apply Kd.R_drewN | apply Kd.R_drew)); exact HO_0.out)) hg hat)).2.2) KL43.out)); have n5_ := Aside0.mk (ho); clear HO_0; clear BK685; clear HB; clear HK; clear HR709; have HO_0 := n0_; have BK685 := n1_; have HB := n2_; have HK := n3_; have HR709 := n4_; have HO712 := n5_; clear n0_ n1_ n2_ n3_ n4_ n5_; clear ho hb hg hat; have hcz45_0 : w44.cell? ⟨gb685, 0, none⟩ = some (.string a1_0) := (blk_cell BK685.out 0).trans rfl; have hcz45_1 : w44.cell? ⟨gb685, 1, none⟩ = some (.string a1_1) := (blk_cell BK685.out 1).trans rfl; have hcz45_2 : w44.cell? ⟨gb685, 2, none⟩ = some (.int .i64 a1_2) := (blk_cell BK685.out 2).trans rfl; have hcz45_3 : w44.cell? ⟨gb685, 3, none⟩ = some (.int .i64 a1_3) := (blk_cell BK685.out 3).trans rfl; have hfz45_0 := blk_frozen BK685.out 0; have hfz45_1 := blk_frozen BK685.out 1; have hfz45_2 := blk_frozen BK685.out 2; have hfz45_3 := blk_frozen BK685.out 3) | ((with_reducible refine gate_builtin (b := .append) (xs := #[.tmp 33, .tmp 35]) rfl ?_); at_builtin; refine Kd.R_append k57 (w0 := w0) w0.heap.size rfl (.tmp 33) (.tmp 35) 55 57 (.agg #[(.string ⟨#[]⟩), (.string ⟨#[]⟩), (.int .i64 0), (.int .i64 0)]) 48 rfl Try.underlying55 info57 rfl (by decide) (by omega) v711 y710 (⟨a1_0, a1_1, (⟨a1_2, a1_3⟩ : S24)⟩ : S57) [.string a1_0, .string a1_1, .int .i64 a1_2, .int .i64 a1_3] (fun k_ => (P0_ k_ ∨ w.heap.size ≤ k_) ∧ some k_ ≠ (.slice Ao11 l0.length co11 : Value).ownBlock ∧ k_ ≠ gb685) (fun _ => False) rfl rfl ?aP (fun _ hk => hk.elim) ?aF ?aO ?aB ?aS ?aL ?_; (case aP => exact k57_mkM _ _ _ (⟨a1_0, a1_1, (⟨a1_2, a1_3⟩ : S24)⟩ : S57)); (case aB => exact (by repeat (first | (with_reducible first | exact HB.out | apply below_alloc | apply pw_below_drewN | apply below_drew1 | refine below_set ?_ GE685.out) | exact HB.out))); (case aF => exact (fun k_ hk => ⟨(.inr (Nat.le_trans (by first | exact HK.out.1 | exact (show Kept w _ (fun k_ => P0_ k_) from by repeat (first | (with_reducible first | exact HK.out | apply Kept.alloc | apply Kept.drewN | apply Kept.drew | refine Kept.setCell ?_ (.inr GW685.out) _) | exact HK.out)).1) hk)), Kd.fresh' (Kd.R_lt (by (with_reducible repeat (first | apply Kd.R_alloc | apply Kd.R_drewN | apply Kd.R_drew)); exact HO_0.out)) k_ hk, Kd.freshB (g := gb685) (o := .cells #[.string a1_0, .string a1_1, .int .i64 a1_2, .int .i64 a1_3] 57 (0, 0)) (by (with_reducible repeat (first | apply blN | apply blD | apply blA)); exact BK685.out) k_ hk⟩)); (case aO => exact (by (with_reducible repeat (first | apply Kd.R_alloc | apply Kd.R_drewN | apply Kd.R_drew)); exact HO712.out)); (case aS => exact (below_size (by repeat (first | (with_reducible first | exact HB.out | apply below_alloc | apply pw_below_drewN | apply below_drew1 | refine below_set ?_ GE685.out) | exact HB.out)))); (case aL => have := LMc39.out; omega); intro v714 w46 ho hb hg hat; rw [← Ny713.out] at ho; have n0_ := Aside0.mk (Kd.R_after (ok := (fun k_ => (P0_ k_ ∨ w.heap.size ≤ k_) ∧ k_ ≠ gb685)) (by (with_reducible repeat (first | apply Kd.R_alloc | apply Kd.R_drewN | apply Kd.R_drew)); exact HO_0.out) hg hat); have n1_ := Aside0.mk (blk_grown (g := gb685) (o := .cells #[.string a1_0, .string a1_1, .int .i64 a1_2, .int .i64 a1_3] 57 (0, 0)) (by (with_reducible repeat (first | apply blN | apply blD | apply blA)); exact BK685.out) hg (Kd.R_away HO712.out (fun _ hk => hk.2.2))); have n2_ := Aside0.mk (hb); have n3_ := Aside0.mk (Kept.of_grown (S := (fun k_ => P0_ k_)) hg (by repeat (first | (with_reducible first | exact HK.out | apply Kept.alloc | apply Kept.drewN | apply Kept.drew | refine Kept.setCell ?_ (.inr GW685.out) _) | exact HK.out)) (fun k_ e_ => (HO712.out.1 k_ e_).1)); have n4_ := Aside0.mk ((show Kd.C k57 w46 Ao11 y706.length y706 from by rw [Ny706.out]; exact Kd.C_take (m := (x6_1 : Int).toNat) ((Kd.R_reads' (Kd.R_after (ok := (fun k_ => (P0_ k_ ∨ w.heap.size ≤ k_) ∧ k_ ≠ gb685)) (by (with_reducible repeat (first | apply Kd.R_alloc | apply Kd.R_drewN | apply Kd.R_drew)); exact HO_0.out) hg hat)).2.2) KL43.out)); have n5_ := Aside0.mk (ho); clear HO_0; clear BK685; clear HB; clear HK; clear HR709; clear HO712; have HO_0 := n0_; have BK685 := n1_; have HB := n2_; have HK := n3_; have HR709 := n4_; have HO715 := n5_; clear n0_ n1_ n2_ n3_ n4_ n5_; clear ho hb hg hat; have q47 : (x6_1 : Int) ≤ ((l0.length : Int) : Int) := of_decide_eq_true (by first | (with_reducible assumption) | assumption); obtain ⟨i047, hi047, _, hsz47, _⟩ := info_parts info57; have hroom47 : l0.length ≤ co11 := (Kd.R_reads' HO_0.out).2.1; have hC47 : Kd.C k57 _ Ao11 l0.length l0 := (Kd.R_reads' HO_0.out).2.2; have q047 : (0 : Int) ≤ (x6_1 : Int) := of_decide_eq_true (by first | (with_reducible assumption) | assumption); have hcut47 := cut_from (P := Try.prog) 55 57 .i64 Try.underlying55 hi047 4 hsz47 Ao11 l0.length co11 x6_1 q047 q47; have hr47 := Kd.C_drop (m := (x6_1 : Int).toNat) (c := co11) hC47 (by omega) hroom47; obtain ⟨A47, hA47⟩ : ∃ A1, A1 = (if co11 = (x6_1 : Int).toNat then Ao11 else (Ao11 : Option Addr).map (·.add ((x6_1 : Int).toNat * 4))) := ⟨_, rfl⟩; obtain ⟨c47, hc47⟩ : ∃ c1, c1 = co11 - (x6_1 : Int).toNat := ⟨_, rfl⟩; have hy47 : y716.length = l0.length - (x6_1 : Int).toNat := (by rw [Ny716.out, List.length_drop] <;> omega); rw [show (l0).drop (x6_1 : Int).toNat = y716 from Ny716.out.symm] at hr47; replace hr47 : Kd.C k57 _ A47 y716.length y716 := (by rw [hA47]; exact hr47); rw [← hy47, ← hA47, ← hc47] at hcut47; have HR719 := Aside0.mk hr47; have HC719 := Aside0.mk (show y716.length ≤ c47 from by rw [hy47, hc47]; exact Nat.sub_le_sub_right hroom47 _); clear hr47 hC47 hroom47 hi047 hsz47 hc47; have KY47 := Aside0.mk hy47; have KA47 := Aside0.mk hA47; clear hy47 hA47; have KL47 := Aside0.mk (show (x6_1 : Int).toNat ≤ l0.length from by omega); replace q47 := eq_true q47) | ((with_reducible refine gate_builtin (b := .append) (xs := #[.tmp 37, .tmp 40]) rfl ?_); at_builtin; refine Kd.R_append_rows k57 (w0 := w0) w0.heap.size rfl (.tmp 37) (.tmp 40) 55 57 (.agg #[(.string ⟨#[]⟩), (.string ⟨#[]⟩), (.int .i64 0), (.int .i64 0)]) 48 rfl Try.underlying55 info57 rfl (by decide) (by omega) v714 y713 y716 _ _ _ (fun k_ => (P0_ k_ ∨ w.heap.size ≤ k_) ∧ some k_ ≠ (.slice Ao11 l0.length co11 : Value).ownBlock ∧ k_ ≠ gb685) (fun _ => False) rfl rfl ?aO ?aR (fun _ _ h => h) (fun _ h => h.elim) ?aF ?aB ?aS ?aL ?_; (case aR => repeat (first | exact (by repeat (first | (with_reducible exact HR719.out) | (with_reducible refine Kd.C_alloc ?_ _) | (with_reducible refine Kd.C_drewN ?_ _) | (with_reducible refine Kd.C_drew ?_) | exact HR719.out)) | (with_reducible refine Kd.C_alloc ?_ _) | (with_reducible refine Kd.C_drewN ?_ _) | (with_reducible refine Kd.C_drew ?_))); (case aB => exact (by repeat (first | (with_reducible first | exact HB.out | apply below_alloc | apply pw_below_drewN | apply below_drew1 | refine below_set ?_ GE685.out) | exact HB.out))); (case aF => exact (fun k_ hk => ⟨(.inr (Nat.le_trans (by first | exact HK.out.1 | exact (show Kept w _ (fun k_ => P0_ k_) from by repeat (first | (with_reducible first | exact HK.out | apply Kept.alloc | apply Kept.drewN | apply Kept.drew | refine Kept.setCell ?_ (.inr GW685.out) _) | exact HK.out)).1) hk)), Kd.fresh' (Kd.R_lt (by (with_reducible repeat (first | apply Kd.R_alloc | apply Kd.R_drewN | apply Kd.R_drew)); exact HO_0.out)) k_ hk, Kd.freshB (g := gb685) (o := .cells #[.string a1_0, .string a1_1, .int .i64 a1_2, .int .i64 a1_3] 57 (0, 0)) (by (with_reducible repeat (first | apply blN | apply blD | apply blA)); exact BK685.out) k_ hk⟩)); (case aO => exact (by (with_reducible repeat (first | apply Kd.R_alloc | apply Kd.R_drewN | apply Kd.R_drew)); exact HO715.out)); (case aS => exact (below_size (by repeat (first | (with_reducible first | exact HB.out | apply below_alloc | apply pw_below_drewN | apply below_drew1 | refine below_set ?_ GE685.out) | exact HB.out)))); (case aL => have := LMc42.out; omega); intro v721 w48 ho hb hg hat; rw [← Ny720.out] at ho; have n0_ := Aside0.mk (Kd.R_after (ok := (fun k_ => (P0_ k_ ∨ w.heap.size ≤ k_) ∧ k_ ≠ gb685)) (by (with_reducible repeat (first | apply Kd.R_alloc | apply Kd.R_drewN | apply Kd.R_drew)); exact HO_0.out) hg hat); have n1_ := Aside0.mk (blk_grown (g := gb685) (o := .cells #[.string a1_0, .string a1_1, .int .i64 a1_2, .int .i64 a1_3] 57 (0, 0)) (by (with_reducible repeat (first | apply blN | apply blD | apply blA)); exact BK685.out) hg (Kd.R_away HO715.out (fun _ hk => hk.2.2))); have n2_ := Aside0.mk (hb); have n3_ := Aside0.mk (Kept.of_grown (S := (fun k_ => P0_ k_)) hg (by repeat (first | (with_reducible first | exact HK.out | apply Kept.alloc | apply Kept.drewN | apply Kept.drew | refine Kept.setCell ?_ (.inr GW685.out) _) | exact HK.out)) (fun k_ e_ => (HO715.out.1 k_ e_).1)); have n4_ := Aside0.mk ((show Kd.C k57 w48 Ao11 y706.length y706 from by rw [Ny706.out]; exact Kd.C_take (m := (x6_1 : Int).toNat) ((Kd.R_reads' (Kd.R_after (ok := (fun k_ => (P0_ k_ ∨ w.heap.size ≤ k_) ∧ k_ ≠ gb685)) (by (with_reducible repeat (first | apply Kd.R_alloc | apply Kd.R_drewN | apply Kd.R_drew)); exact HO_0.out) hg hat)).2.2) KL43.out)); have n5_ := Aside0.mk ((show Kd.C k57 w48 A47 y716.length y716 from by rw [Ny716.out, KA47.out]; exact Kd.C_drop (m := (x6_1 : Int).toNat) (c := co11) ((Kd.R_reads' (Kd.R_after (ok := (fun k_ => (P0_ k_ ∨ w.heap.size ≤ k_) ∧ k_ ≠ gb685)) (by (with_reducible repeat (first | apply Kd.R_alloc | apply Kd.R_drewN | apply Kd.R_drew)); exact HO_0.out) hg hat)).2.2) KL47.out ((Kd.R_reads' (Kd.R_after (ok := (fun k_ => (P0_ k_ ∨ w.heap.size ≤ k_) ∧ k_ ≠ gb685)) (by (with_reducible repeat (first | apply Kd.R_alloc | apply Kd.R_drewN | apply Kd.R_drew)); exact HO_0.out) hg hat)).2.1))); have n6_ := Aside0.mk (ho); clear HO_0; clear BK685; clear HB; clear HK; clear HR709; clear HR719; clear HO715; have HO_0 := n0_; have BK685 := n1_; have HB := n2_; have HK := n3_; have HR709 := n4_; have HR719 := n5_; have HO722 := n6_; clear n0_ n1_ n2_ n3_ n4_ n5_ n6_; clear ho hb hg hat))
          go_ret
          exact ⟨_, by first | rfl | (simp [errW_none, errW_some] <;> rfl) | (simp [*, errW_none, errW_some] <;> rfl), by (with_reducible repeat (first | apply Kd.R_alloc | apply Kd.R_drewN | apply Kd.R_drew)); exact Kd.R_mono HO722.out (fun _ hk => hk.1), by repeat (first | (with_reducible first | exact HB.out | apply below_alloc | apply pw_below_drewN | apply below_drew1 | refine below_set ?_ GE685.out) | exact HB.out), by repeat (first | (with_reducible first | exact HK.out | apply Kept.alloc | apply Kept.drewN | apply Kept.drew | refine Kept.setCell ?_ (.inr GW685.out) _) | exact HK.out)⟩
         ·rw [if_neg c42] at H
          exact absurd H (by simp)
        ·rw [if_neg c39] at H
         exact absurd H (by simp)
       ·rw [if_neg c38] at H
        exact absurd H (by simp)
      ·rw [if_neg c37] at H
       exact absurd H (by simp)
     ·rw [if_neg c36] at H
      exact absurd H (by simp)

end Go.Proofs.Ytannmdngejdjkaa.L
