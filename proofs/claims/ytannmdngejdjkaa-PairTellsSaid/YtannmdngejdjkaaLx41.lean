-- PRINTED by print.py (a twelfth state) out of the translation. Not trusted: Lean checks it.
import Derived.Test.YtannmdngejdjkaaLSq
import Derived.Test.YtannmdngejdjkaaLx0
import Derived.Test.YtannmdngejdjkaaLx37
import Derived.Test.YtannmdngejdjkaaLx38
import Derived.Test.YtannmdngejdjkaaLx39
namespace Go.Proofs.Ytannmdngejdjkaa.L
open Go.RowKit Go.Proofs.YtannmdngejdjkaaW.PrintWords Go.Proofs.YtannmdngejdjkaaW.PrintLast Go.Proofs.YtannmdngejdjkaaW.PrintMore
attribute [local go_sem] max2_int min2_int max_two min_two max_three min_three max_four min_four   -- for this text's walks alone
set_option linter.unusedVariables false
set_option linter.unusedSimpArgs false

/-! ### ref08_Merge: function 54 -/
mutual
def ref08_Merge.j0 : Nat → List (S57) → List (S57) → List (S57) → Bool → Option ((List (S57)))
 | 0, _, _, _, _ => none
 | k + 1, x0, x1, x2, x32 => if x32 = true then (some ([] : List (S57))) else (ref08_Merge.l0 k x0 x1 x2 ([] : List (S57)) 0)
def ref08_Merge.l0 : Nat → List (S57) → List (S57) → List (S57) → List (S57) → Int → Option ((List (S57)))
 | 0, _, _, _, _, _ => none
 | k + 1, x0, x1, x2, x10, x11 => if x11 < (x1.length : Int) then (if 0 ≤ x11 then ((ref08_has.f k x2 ((rd_T57 x1 x11).f0) ((rd_T57 x1 x11).f1) ((rd_T57 x1 x11).f2.f0) ((rd_T57 x1 x11).f2.f1)).bind fun t750 => ((ref08_has.f k x0 ((rd_T57 x1 x11).f0) ((rd_T57 x1 x11).f1) ((rd_T57 x1 x11).f2.f0) ((rd_T57 x1 x11).f2.f1)).bind fun t752 => (if t750 = true then ((ref08_put.f k x10 ((rd_T57 x1 x11).f0) ((rd_T57 x1 x11).f1) ((rd_T57 x1 x11).f2.f0) ((rd_T57 x1 x11).f2.f1)).bind fun t754 => (ref08_Merge.l0 k x0 x1 x2 t754 (wrap64 (x11 + 1)))) else (if t752 = true then (ref08_Merge.l0 k x0 x1 x2 x10 (wrap64 (x11 + 1))) else ((ref08_put.f k x10 ((rd_T57 x1 x11).f0) ((rd_T57 x1 x11).f1) ((rd_T57 x1 x11).f2.f0) ((rd_T57 x1 x11).f2.f1)).bind fun t758 => (ref08_Merge.l0 k x0 x1 x2 t758 (wrap64 (x11 + 1)))))))) else (none)) else (ref08_Merge.l1 k x0 x1 x2 x10 0)
def ref08_Merge.l1 : Nat → List (S57) → List (S57) → List (S57) → List (S57) → Int → Option ((List (S57)))
 | 0, _, _, _, _, _ => none
 | k + 1, x0, x1, x2, x10, x14 => if x14 < (x2.length : Int) then (if 0 ≤ x14 then ((ref08_has.f k x1 ((rd_T57 x2 x14).f0) ((rd_T57 x2 x14).f1) ((rd_T57 x2 x14).f2.f0) ((rd_T57 x2 x14).f2.f1)).bind fun t762 => ((ref08_has.f k x0 ((rd_T57 x2 x14).f0) ((rd_T57 x2 x14).f1) ((rd_T57 x2 x14).f2.f0) ((rd_T57 x2 x14).f2.f1)).bind fun t764 => (if t762 = true then (ref08_Merge.l1 k x0 x1 x2 x10 (wrap64 (x14 + 1))) else (if t764 = true then (ref08_Merge.l1 k x0 x1 x2 x10 (wrap64 (x14 + 1))) else ((ref08_put.f k x10 ((rd_T57 x2 x14).f0) ((rd_T57 x2 x14).f1) ((rd_T57 x2 x14).f2.f0) ((rd_T57 x2 x14).f2.f1)).bind fun t766 => (ref08_Merge.l1 k x0 x1 x2 t766 (wrap64 (x14 + 1)))))))) else (none)) else (some x10)
end
def ref08_Merge.f (k : Nat) (l0 : List (S57)) (l1 : List (S57)) (l2 : List (S57)) : Option ((List (S57))) := (ref08_May.f k l0).bind fun t746 => ((ref08_May.f k l1).bind fun t747 => ((ref08_May.f k l2).bind fun t748 => (if t746 = true then (if t747 = true then (ref08_Merge.j0 k l0 l1 l2 (!t748)) else (ref08_Merge.j0 k l0 l1 l2 true)) else (ref08_Merge.j0 k l0 l1 l2 true))))
theorem ref08_Merge.mono_l : ∀ k, (∀ y0 y1 y2 y3, LeO (ref08_Merge.j0 k y0 y1 y2 y3) (ref08_Merge.j0 (k + 1) y0 y1 y2 y3)) ∧ (∀ y0 y1 y2 y3 y4, LeO (ref08_Merge.l0 k y0 y1 y2 y3 y4) (ref08_Merge.l0 (k + 1) y0 y1 y2 y3 y4)) ∧ (∀ y0 y1 y2 y3 y4, LeO (ref08_Merge.l1 k y0 y1 y2 y3 y4) (ref08_Merge.l1 (k + 1) y0 y1 y2 y3 y4))
 | 0 => ⟨fun _ _ _ _ r h => by simp [ref08_Merge.j0] at h, fun _ _ _ _ _ r h => by simp [ref08_Merge.l0] at h, fun _ _ _ _ _ r h => by simp [ref08_Merge.l1] at h⟩
 | k + 1 => by
  obtain ⟨ih0, ih1, ih2⟩ := ref08_Merge.mono_l k
  refine ⟨?_, ?_, ?_⟩
  ·intro y0 y1 y2 y3
   unfold ref08_Merge.j0
   repeat' first
   | (with_reducible exact ih0 _ _ _ _)
   | (with_reducible exact ih1 _ _ _ _ _)
   | (with_reducible exact ih2 _ _ _ _ _)
   | (with_reducible exact ref08_May.mono _ _)
   | (with_reducible exact ref08_has.mono _ _ _ _ _ _)
   | (with_reducible exact ref08_put.mono _ _ _ _ _ _)
   | (with_reducible exact LeO.refl _)
   | (with_reducible exact LeO.none _)
   | (with_reducible refine LeO.ite ?_ ?_)
   | (with_reducible refine LeO.bind ?_ (fun _ => ?_))
   | exact ih0 _ _ _ _
   | exact ih1 _ _ _ _ _
   | exact ih2 _ _ _ _ _
   | exact ref08_May.mono _ _
   | exact ref08_has.mono _ _ _ _ _ _
   | exact ref08_put.mono _ _ _ _ _ _
   | exact LeO.none _
   | refine LeO.ite ?_ ?_
   | refine LeO.bind ?_ (fun _ => ?_)
  ·intro y0 y1 y2 y3 y4
   unfold ref08_Merge.l0
   repeat' first
   | (with_reducible exact ih0 _ _ _ _)
   | (with_reducible exact ih1 _ _ _ _ _)
   | (with_reducible exact ih2 _ _ _ _ _)
   | (with_reducible exact ref08_May.mono _ _)
   | (with_reducible exact ref08_has.mono _ _ _ _ _ _)
   | (with_reducible exact ref08_put.mono _ _ _ _ _ _)
   | (with_reducible exact LeO.refl _)
   | (with_reducible exact LeO.none _)
   | (with_reducible refine LeO.ite ?_ ?_)
   | (with_reducible refine LeO.bind ?_ (fun _ => ?_))
   | exact ih0 _ _ _ _
   | exact ih1 _ _ _ _ _
   | exact ih2 _ _ _ _ _
   | exact ref08_May.mono _ _
   | exact ref08_has.mono _ _ _ _ _ _
   | exact ref08_put.mono _ _ _ _ _ _
   | exact LeO.none _
   | refine LeO.ite ?_ ?_
   | refine LeO.bind ?_ (fun _ => ?_)
  ·intro y0 y1 y2 y3 y4
   unfold ref08_Merge.l1
   repeat' first
   | (with_reducible exact ih0 _ _ _ _)
   | (with_reducible exact ih1 _ _ _ _ _)
   | (with_reducible exact ih2 _ _ _ _ _)
   | (with_reducible exact ref08_May.mono _ _)
   | (with_reducible exact ref08_has.mono _ _ _ _ _ _)
   | (with_reducible exact ref08_put.mono _ _ _ _ _ _)
   | (with_reducible exact LeO.refl _)
   | (with_reducible exact LeO.none _)
   | (with_reducible refine LeO.ite ?_ ?_)
   | (with_reducible refine LeO.bind ?_ (fun _ => ?_))
   | exact ih0 _ _ _ _
   | exact ih1 _ _ _ _ _
   | exact ih2 _ _ _ _ _
   | exact ref08_May.mono _ _
   | exact ref08_has.mono _ _ _ _ _ _
   | exact ref08_put.mono _ _ _ _ _ _
   | exact LeO.none _
   | refine LeO.ite ?_ ?_
   | refine LeO.bind ?_ (fun _ => ?_)
theorem ref08_Merge.mono : ∀ a0 a1 a2 k, LeO (ref08_Merge.f k a0 a1 a2) (ref08_Merge.f (k + 1) a0 a1 a2) := by
 intro a0 a1 a2 k
 obtain ⟨ih0, ih1, ih2⟩ := ref08_Merge.mono_l k
 unfold ref08_Merge.f
 repeat' first
   | (with_reducible exact ih0 _ _ _ _)
   | (with_reducible exact ih1 _ _ _ _ _)
   | (with_reducible exact ih2 _ _ _ _ _)
   | (with_reducible exact ref08_May.mono _ _)
   | (with_reducible exact ref08_has.mono _ _ _ _ _ _)
   | (with_reducible exact ref08_put.mono _ _ _ _ _ _)
   | (with_reducible exact LeO.refl _)
   | (with_reducible exact LeO.none _)
   | (with_reducible refine LeO.ite ?_ ?_)
   | (with_reducible refine LeO.bind ?_ (fun _ => ?_))
   | exact ih0 _ _ _ _
   | exact ih1 _ _ _ _ _
   | exact ih2 _ _ _ _ _
   | exact ref08_May.mono _ _
   | exact ref08_has.mono _ _ _ _ _ _
   | exact ref08_put.mono _ _ _ _ _ _
   | exact LeO.none _
   | refine LeO.ite ?_ ?_
   | refine LeO.bind ?_ (fun _ => ?_)
set_option maxHeartbeats 8000000 in
set_option maxRecDepth 100000 in
theorem ref08_Merge.calls (k : Nat) (A0 : Option Addr) (c0 : Nat) (l0 : List (S57)) (A1 : Option Addr) (c1 : Nat) (l1 : List (S57)) (A2 : Option Addr) (c2 : Nat) (l2 : List (S57)) (r : List (S57)) (w : World) (hr0 : Kd.C k57 w A0 l0.length l0) (hc0 : l0.length ≤ c0) (hr1 : Kd.C k57 w A1 l1.length l1) (hc1 : l1.length ≤ c1) (hr2 : Kd.C k57 w A2 l2.length l2) (hc2 : l2.length ≤ c2) (h : ref08_Merge.f k l0 l1 l2 = some r) :
  Calls Try.prog 54 #[.slice A0 l0.length c0, .slice A1 l1.length c1, .slice A2 l2.length c2] w fun e w' => ∃ v0_ : Value, e = .returned (v0_) ∧ Kd.R k57 57 w' w.heap.size (fun _ => True) v0_ r ∧ Below w.heap.size w w' := by
 have hu57 := Try.underlying57
 have HR0 := Aside0.mk hr0
 have HC0 := Aside0.mk hc0
 clear hr0 hc0
 have HR1 := Aside0.mk hr1
 have HC1 := Aside0.mk hc1
 clear hr1 hc1
 have HR2 := Aside0.mk hr2
 have HC2 := Aside0.mk hc2
 clear hr2 hc2
 have HB := Aside0.mk (Below.refl w.heap.size w)
 have H : ((ref08_May.f k l0).bind fun t746 => ((ref08_May.f k l1).bind fun t747 => ((ref08_May.f k l2).bind fun t748 => (if t746 = true then (if t747 = true then (ref08_Merge.j0 k l0 l1 l2 (!t748)) else (ref08_Merge.j0 k l0 l1 l2 true)) else (ref08_Merge.j0 k l0 l1 l2 true))))) = some r := h
 clear h
 replace H := Option.bind_eq_some_iff.mp H
 obtain ⟨t746, A40, H⟩ := H
 replace H : ((ref08_May.f k l1).bind fun t747 => ((ref08_May.f k l2).bind fun t748 => (if t746 = true then (if t747 = true then (ref08_Merge.j0 k l0 l1 l2 (!t748)) else (ref08_Merge.j0 k l0 l1 l2 true)) else (ref08_Merge.j0 k l0 l1 l2 true)))) = some r := H
 have A4 := Aside0.mk A40
 clear A40
 replace H := Option.bind_eq_some_iff.mp H
 obtain ⟨t747, A50, H⟩ := H
 replace H : ((ref08_May.f k l2).bind fun t748 => (if t746 = true then (if t747 = true then (ref08_Merge.j0 k l0 l1 l2 (!t748)) else (ref08_Merge.j0 k l0 l1 l2 true)) else (ref08_Merge.j0 k l0 l1 l2 true))) = some r := H
 have A5 := Aside0.mk A50
 clear A50
 replace H := Option.bind_eq_some_iff.mp H
 obtain ⟨t748, A60, H⟩ := H
 replace H : (if t746 = true then (if t747 = true then (ref08_Merge.j0 k l0 l1 l2 (!t748)) else (ref08_Merge.j0 k l0 l1 l2 true)) else (ref08_Merge.j0 k l0 l1 l2 true)) = some r := H
 have A6 := Aside0.mk A60
 clear A60
 have HC7 := Aside0.mk H
 clear H
 go_enter Try.func54, Try.ntmps54
 go_upto_region 4 with (first | ((with_reducible refine gate_callee (f := 47) rfl ?_); refine goesL_ (some 18) rfl rfl Try.func47 (by kernel_rfl) rfl #[.slice A0 l0.length c0] rfl (by (try simp only [List.map_toArray, List.map_cons, List.map_nil]); first | done | rfl | (simp only [List.length_drop, List.length_take]; rfl)) ?_; (with_reducible refine (ref08_May.calls k _ _ l0 t746 _ ?side1 ?side2 A4.out).mono ?_); (case side1 => repeat (first | exact HR0.out | (with_reducible refine Kd.C_alloc ?_ _) | (with_reducible refine Kd.C_drewN ?_ _) | (with_reducible refine Kd.C_drew ?_))); (case side2 => exact HC0.out); rintro e w8 ⟨rfl, hb⟩; refine ⟨_, rfl, ?_⟩; have n0_ := Aside0.mk (below_step (by repeat (first | (with_reducible first | exact HB.out | apply below_alloc | apply pw_below_drewN | apply below_drew1) | exact HB.out)) hb); clear HB; have HB := n0_; clear n0_; (try clear hb); (try clear hb2); (try clear hk); (try clear hi)) | ((with_reducible refine gate_callee (f := 47) rfl ?_); refine goesL_ (some 20) rfl rfl Try.func47 (by kernel_rfl) rfl #[.slice A1 l1.length c1] rfl (by (try simp only [List.map_toArray, List.map_cons, List.map_nil]); first | done | rfl | (simp only [List.length_drop, List.length_take]; rfl)) ?_; (with_reducible refine (ref08_May.calls k _ _ l1 t747 _ ?side1 ?side2 A5.out).mono ?_); (case side1 => repeat (first | exact (Kd.C_below HR1.out HB.out) | (with_reducible refine Kd.C_alloc ?_ _) | (with_reducible refine Kd.C_drewN ?_ _) | (with_reducible refine Kd.C_drew ?_))); (case side2 => exact HC1.out); rintro e w9 ⟨rfl, hb⟩; refine ⟨_, rfl, ?_⟩; have n0_ := Aside0.mk (below_step (by repeat (first | (with_reducible first | exact HB.out | apply below_alloc | apply pw_below_drewN | apply below_drew1) | exact HB.out)) hb); clear HB; have HB := n0_; clear n0_; (try clear hb); (try clear hb2); (try clear hk); (try clear hi)) | ((with_reducible refine gate_callee (f := 47) rfl ?_); refine goesL_ (some 22) rfl rfl Try.func47 (by kernel_rfl) rfl #[.slice A2 l2.length c2] rfl (by (try simp only [List.map_toArray, List.map_cons, List.map_nil]); first | done | rfl | (simp only [List.length_drop, List.length_take]; rfl)) ?_; (with_reducible refine (ref08_May.calls k _ _ l2 t748 _ ?side1 ?side2 A6.out).mono ?_); (case side1 => repeat (first | exact (Kd.C_below HR2.out HB.out) | (with_reducible refine Kd.C_alloc ?_ _) | (with_reducible refine Kd.C_drewN ?_ _) | (with_reducible refine Kd.C_drew ?_))); (case side2 => exact HC2.out); rintro e w10 ⟨rfl, hb⟩; refine ⟨_, rfl, ?_⟩; have n0_ := Aside0.mk (below_step (by repeat (first | (with_reducible first | exact HB.out | apply below_alloc | apply pw_below_drewN | apply below_drew1) | exact HB.out)) hb); clear HB; have HB := n0_; clear n0_; (try clear hb); (try clear hb2); (try clear hk); (try clear hi)))
 (try simp only [Act.put, List.setIfInBounds_toArray, List.set_cons_zero, List.set_cons_succ])
 go_cut [32] (fun v32 wc => ∃ (kq : Nat) (x32_6 : Bool), v32 = .bool x32_6 ∧ Aside0 (ref08_Merge.j0 kq l0 l1 l2 x32_6 = some r) ∧ Aside0 (kq ≤ k) ∧ Aside0 (Below w.heap.size w wc))
 case first =>
  have H := HC7.out
  clear HC7
  by_cases c11 : t746 = true
  ·subst c11
   have H1 : (if t747 = true then (ref08_Merge.j0 k l0 l1 l2 (!t748)) else (ref08_Merge.j0 k l0 l1 l2 true)) = some r := by rw [if_pos rfl] at H; exact H
   clear H
   have H := H1
   clear H1
   by_cases c12 : t747 = true
   ·subst c12
    have H1 : (ref08_Merge.j0 k l0 l1 l2 (!t748)) = some r := by rw [if_pos rfl] at H; exact H
    clear H
    have H := H1
    clear H1
    have H' := Aside0.mk H
    clear H
    go_wp2
    go_meet
    case rel => exact ⟨_, (!t748), (by first | rfl | (simp; done) | (simp [*]; done)), H', ⟨by first | omega | exact Nat.le_refl _⟩, ⟨by repeat (first | (with_reducible first | exact HB.out | apply below_alloc | apply pw_below_drewN | apply below_drew1) | exact HB.out)⟩⟩
   ·replace c12 := Bool.eq_false_iff.mpr c12
    subst c12
    have H1 : (ref08_Merge.j0 k l0 l1 l2 true) = some r := by rw [if_neg (show ¬ (false = true) by decide)] at H; exact H
    clear H
    have H := H1
    clear H1
    have H' := Aside0.mk H
    clear H
    go_wp2
    go_meet
    case rel => exact ⟨_, (true), (by first | rfl | (simp; done) | (simp [*]; done)), H', ⟨by first | omega | exact Nat.le_refl _⟩, ⟨by repeat (first | (with_reducible first | exact HB.out | apply below_alloc | apply pw_below_drewN | apply below_drew1) | exact HB.out)⟩⟩
  ·replace c11 := Bool.eq_false_iff.mpr c11
   subst c11
   have H1 : (ref08_Merge.j0 k l0 l1 l2 true) = some r := by rw [if_neg (show ¬ (false = true) by decide)] at H; exact H
   clear H
   have H := H1
   clear H1
   have H' := Aside0.mk H
   clear H
   go_wp2
   go_meet
   case rel => exact ⟨_, (true), (by first | rfl | (simp; done) | (simp [*]; done)), H', ⟨by first | omega | exact Nat.le_refl _⟩, ⟨by repeat (first | (with_reducible first | exact HB.out | apply below_alloc | apply pw_below_drewN | apply below_drew1) | exact HB.out)⟩⟩
 case rest =>
  clear HC7
  try clear c1
  try clear c2
  try clear p2
  try clear c4
  try clear c5
  try clear c11
  try clear c12
  obtain ⟨kq, x32_6, rfl, HA, HJ6, HB⟩ := hcut
  cases kq with
  | zero => exact absurd HA.out (by simp [ref08_Merge.j0])
  | succ kj6 =>
   have H := HA.out
   clear HA
   simp only [ref08_Merge.j0] at H
   by_cases c13 : x32_6 = true
   ·subst c13
    have H1 : (some ([] : List (S57))) = some r := by rw [if_pos rfl] at H; exact H
    clear H
    have H := H1
    clear H1
    obtain rfl := Option.some.inj H
    go_wp2
    go_ret
    exact ⟨_, by first | rfl | (simp [errW_none, errW_some] <;> rfl) | (simp [*, errW_none, errW_some] <;> rfl), by first | exact Kd.R_nil _ _ _ _ _ | exact Kd.N_nil _ _ _ _ _ | exact Kd.V_nil _ _ _ _ _ | exact Kd.Q_nil _ _ _ _ _ | exact Kd.S_nil _ _ _ _ _, by repeat (first | (with_reducible first | exact HB.out | apply below_alloc | apply pw_below_drewN | apply below_drew1) | exact HB.out)⟩
   ·replace c13 := Bool.eq_false_iff.mpr c13
    subst c13
    have H1 : (ref08_Merge.l0 kj6 l0 l1 l2 ([] : List (S57)) 0) = some r := by rw [if_neg (show ¬ (false = true) by decide)] at H; exact H
    clear H
    have H := H1
    clear H1
    have H' := Aside0.mk H
    clear H
    go_wp2
    go_loopg [10, 11] kj6 (fun kq v10 v11 w' => ∃ (x10_2 : List (S57)) (x11_2 : Int), v11 = .int .i64 x11_2 ∧ Aside0 (ref08_Merge.l0 kq l0 l1 l2 x10_2 x11_2 = some r) ∧ Aside0 (kq ≤ kj6) ∧ Aside0 (Kd.R k57 57 w' w.heap.size (fun _ => True) v10 x10_2) ∧ Aside0 (Below w.heap.size w w'))
    case atStart => exact ⟨(([] : List (S57))), (0), (by first | rfl | (simp; done) | (simp [*]; done)), H', ⟨Nat.le_refl _⟩, ⟨by first | exact Kd.R_nil _ _ _ _ _ | exact Kd.N_nil _ _ _ _ _ | exact Kd.V_nil _ _ _ _ _ | exact Kd.Q_nil _ _ _ _ _ | exact Kd.S_nil _ _ _ _ _⟩, ⟨by repeat (first | (with_reducible first | exact HB.out | apply below_alloc | apply pw_below_drewN | apply below_drew1) | exact HB.out)⟩⟩
    case round =>
     clear H'
     try clear c1
     try clear c2
     try clear p2
     try clear c4
     try clear c5
     try clear c11
     try clear c12
     try clear c13
     try clear p2
     obtain ⟨x10_2, x11_2, rfl, HA, HK2, HO_10, HB⟩ := hrel
     cases gk with
     | zero => exact absurd HA.out (by simp [ref08_Merge.l0])
     | succ k2 =>
      have H := HA.out
      clear HA
      simp only [ref08_Merge.l0] at H
      by_cases c14 : x11_2 < (l1.length : Int)
      ·rw [if_pos c14] at H
       have c14b0 : decide (x11_2 < (l1.length : Int)) = true := decide_eq_true c14
       clear c14
       by_cases c15 : 0 ≤ x11_2
       ·rw [if_pos c15] at H
        have c15b0 : decide (0 ≤ x11_2) = true := decide_eq_true c15
        clear c15
        replace H := Option.bind_eq_some_iff.mp H
        obtain ⟨t750, A160, H⟩ := H
        replace H : ((ref08_has.f k2 l0 ((rd_T57 l1 x11_2).f0) ((rd_T57 l1 x11_2).f1) ((rd_T57 l1 x11_2).f2.f0) ((rd_T57 l1 x11_2).f2.f1)).bind fun t752 => (if t750 = true then ((ref08_put.f k2 x10_2 ((rd_T57 l1 x11_2).f0) ((rd_T57 l1 x11_2).f1) ((rd_T57 l1 x11_2).f2.f0) ((rd_T57 l1 x11_2).f2.f1)).bind fun t754 => (ref08_Merge.l0 k2 l0 l1 l2 t754 (wrap64 (x11_2 + 1)))) else (if t752 = true then (ref08_Merge.l0 k2 l0 l1 l2 x10_2 (wrap64 (x11_2 + 1))) else ((ref08_put.f k2 x10_2 ((rd_T57 l1 x11_2).f0) ((rd_T57 l1 x11_2).f1) ((rd_T57 l1 x11_2).f2.f0) ((rd_T57 l1 x11_2).f2.f1)).bind fun t758 => (ref08_Merge.l0 k2 l0 l1 l2 t758 (wrap64 (x11_2 + 1))))))) = some r := H
        have A16 := Aside0.mk A160
        clear A160
        replace H := Option.bind_eq_some_iff.mp H
        obtain ⟨t752, A170, H⟩ := H
        replace H : (if t750 = true then ((ref08_put.f k2 x10_2 ((rd_T57 l1 x11_2).f0) ((rd_T57 l1 x11_2).f1) ((rd_T57 l1 x11_2).f2.f0) ((rd_T57 l1 x11_2).f2.f1)).bind fun t754 => (ref08_Merge.l0 k2 l0 l1 l2 t754 (wrap64 (x11_2 + 1)))) else (if t752 = true then (ref08_Merge.l0 k2 l0 l1 l2 x10_2 (wrap64 (x11_2 + 1))) else ((ref08_put.f k2 x10_2 ((rd_T57 l1 x11_2).f0) ((rd_T57 l1 x11_2).f1) ((rd_T57 l1 x11_2).f2.f0) ((rd_T57 l1 x11_2).f2.f1)).bind fun t758 => (ref08_Merge.l0 k2 l0 l1 l2 t758 (wrap64 (x11_2 + 1)))))) = some r := H
        have A17 := Aside0.mk A170
        clear A170
        by_cases c18 : t750 = true
        ·subst c18
         have H1 : ((ref08_put.f k2 x10_2 ((rd_T57 l1 x11_2).f0) ((rd_T57 l1 x11_2).f1) ((rd_T57 l1 x11_2).f2.f0) ((rd_T57 l1 x11_2).f2.f1)).bind fun t754 => (ref08_Merge.l0 k2 l0 l1 l2 t754 (wrap64 (x11_2 + 1)))) = some r := by rw [if_pos rfl] at H; exact H
         clear H
         have H := H1
         clear H1
         replace H := Option.bind_eq_some_iff.mp H
         obtain ⟨t754, A190, H⟩ := H
         replace H : (ref08_Merge.l0 k2 l0 l1 l2 t754 (wrap64 (x11_2 + 1))) = some r := H
         have A19 := Aside0.mk A190
         clear A190
         have H' := Aside0.mk H
         clear H
         have p749 : 0 ≤ (x11_2 : Int) := of_decide_eq_true (by first | (with_reducible assumption) | assumption)
         have q749 : x11_2 < (l1.length : Int) := of_decide_eq_true (by first | (with_reducible assumption) | assumption)
         obtain ⟨ad749, e749, hx749_0, hx749_1, hx749_2, hx749_3⟩ := at_T57 HR1.out x11_2 p749 q749
         cases e749
         replace hx749_0 := (HB.out.cell (World.block_lt_of_cell? w _ hx749_0)).trans hx749_0
         replace hx749_1 := (HB.out.cell (World.block_lt_of_cell? w _ hx749_1)).trans hx749_1
         replace hx749_2 := (HB.out.cell (World.block_lt_of_cell? w _ hx749_2)).trans hx749_2
         replace hx749_3 := (HB.out.cell (World.block_lt_of_cell? w _ hx749_3)).trans hx749_3
         replace p749 := eq_true p749
         replace q749 := eq_true q749
         go_wp2_with (first | ((with_reducible refine gate_callee (f := 83) rfl ?_); refine goesL_ (some 44) rfl rfl Try.func83 (by kernel_rfl) rfl #[.slice A2 l2.length c2, .agg #[.string ((rd_T57 l1 x11_2).f0), .string ((rd_T57 l1 x11_2).f1), .int .i64 ((rd_T57 l1 x11_2).f2.f0), .int .i64 ((rd_T57 l1 x11_2).f2.f1)]] rfl (by (try simp only [List.map_toArray, List.map_cons, List.map_nil]); first | done | rfl | (simp only [List.length_drop, List.length_take]; rfl)) ?_; (with_reducible refine (ref08_has.calls k2 _ _ l2 ((rd_T57 l1 x11_2).f0) ((rd_T57 l1 x11_2).f1) ((rd_T57 l1 x11_2).f2.f0) ((rd_T57 l1 x11_2).f2.f1) true _ ?side1 ?side2 A16.out).mono ?_); (case side1 => repeat (first | exact (Kd.C_below HR2.out HB.out) | (with_reducible refine Kd.C_alloc ?_ _) | (with_reducible refine Kd.C_drewN ?_ _) | (with_reducible refine Kd.C_drew ?_))); (case side2 => exact HC2.out); rintro e w20 ⟨rfl, hb⟩; refine ⟨_, rfl, ?_⟩; have n0_ := Aside0.mk (Kd.R_below (by (with_reducible repeat (first | apply Kd.R_alloc | apply Kd.R_drewN | apply Kd.R_drew)); exact HO_10.out) hb); have n1_ := Aside0.mk (below_step (by repeat (first | (with_reducible first | exact HB.out | apply below_alloc | apply pw_below_drewN | apply below_drew1) | exact HB.out)) hb); clear HO_10; clear HB; have HO_10 := n0_; have HB := n1_; clear n0_ n1_; (try clear hb); (try clear hb2); (try clear hk); (try clear hi); have p751 : 0 ≤ (x11_2 : Int) := of_decide_eq_true (by first | (with_reducible assumption) | assumption); have q751 : x11_2 < (l1.length : Int) := of_decide_eq_true (by first | (with_reducible assumption) | assumption); obtain ⟨ad751, e751, hx751_0, hx751_1, hx751_2, hx751_3⟩ := at_T57 HR1.out x11_2 p751 q751; obtain rfl : ad749 = ad751 := (by injection e751); replace hx751_0 := (HB.out.cell (World.block_lt_of_cell? w _ hx751_0)).trans hx751_0; replace hx751_1 := (HB.out.cell (World.block_lt_of_cell? w _ hx751_1)).trans hx751_1; replace hx751_2 := (HB.out.cell (World.block_lt_of_cell? w _ hx751_2)).trans hx751_2; replace hx751_3 := (HB.out.cell (World.block_lt_of_cell? w _ hx751_3)).trans hx751_3; replace p751 := eq_true p751; replace q751 := eq_true q751) | ((with_reducible refine gate_callee (f := 83) rfl ?_); refine goesL_ (some 50) rfl rfl Try.func83 (by kernel_rfl) rfl #[.slice A0 l0.length c0, .agg #[.string ((rd_T57 l1 x11_2).f0), .string ((rd_T57 l1 x11_2).f1), .int .i64 ((rd_T57 l1 x11_2).f2.f0), .int .i64 ((rd_T57 l1 x11_2).f2.f1)]] rfl (by (try simp only [List.map_toArray, List.map_cons, List.map_nil]); first | done | rfl | (simp only [List.length_drop, List.length_take]; rfl)) ?_; (with_reducible refine (ref08_has.calls k2 _ _ l0 ((rd_T57 l1 x11_2).f0) ((rd_T57 l1 x11_2).f1) ((rd_T57 l1 x11_2).f2.f0) ((rd_T57 l1 x11_2).f2.f1) t752 _ ?side1 ?side2 A17.out).mono ?_); (case side1 => repeat (first | exact (Kd.C_below HR0.out HB.out) | (with_reducible refine Kd.C_alloc ?_ _) | (with_reducible refine Kd.C_drewN ?_ _) | (with_reducible refine Kd.C_drew ?_))); (case side2 => exact HC0.out); rintro e w21 ⟨rfl, hb⟩; refine ⟨_, rfl, ?_⟩; have n0_ := Aside0.mk (Kd.R_below (by (with_reducible repeat (first | apply Kd.R_alloc | apply Kd.R_drewN | apply Kd.R_drew)); exact HO_10.out) hb); have n1_ := Aside0.mk (below_step (by repeat (first | (with_reducible first | exact HB.out | apply below_alloc | apply pw_below_drewN | apply below_drew1) | exact HB.out)) hb); clear HO_10; clear HB; have HO_10 := n0_; have HB := n1_; clear n0_ n1_; (try clear hb); (try clear hb2); (try clear hk); (try clear hi); have p753 : 0 ≤ (x11_2 : Int) := of_decide_eq_true (by first | (with_reducible assumption) | assumption); have q753 : x11_2 < (l1.length : Int) := of_decide_eq_true (by first | (with_reducible assumption) | assumption); obtain ⟨ad753, e753, hx753_0, hx753_1, hx753_2, hx753_3⟩ := at_T57 HR1.out x11_2 p753 q753; obtain rfl : ad749 = ad753 := (by injection e753); replace hx753_0 := (HB.out.cell (World.block_lt_of_cell? w _ hx753_0)).trans hx753_0; replace hx753_1 := (HB.out.cell (World.block_lt_of_cell? w _ hx753_1)).trans hx753_1; replace hx753_2 := (HB.out.cell (World.block_lt_of_cell? w _ hx753_2)).trans hx753_2; replace hx753_3 := (HB.out.cell (World.block_lt_of_cell? w _ hx753_3)).trans hx753_3; replace p753 := eq_true p753; replace q753 := eq_true q753; obtain ⟨Ao22, co22, eo22⟩ := Kd.R_slice HO_10.out; subst eo22) | ((with_reducible refine gate_callee (f := 77) rfl ?_); refine goesL_ (some 61) rfl rfl Try.func77 (by kernel_rfl) rfl #[.slice Ao22 x10_2.length co22, .agg #[.string ((rd_T57 l1 x11_2).f0), .string ((rd_T57 l1 x11_2).f1), .int .i64 ((rd_T57 l1 x11_2).f2.f0), .int .i64 ((rd_T57 l1 x11_2).f2.f1)]] rfl (by (try simp only [List.map_toArray, List.map_cons, List.map_nil]); first | done | rfl | (simp only [List.length_drop, List.length_take]; rfl)) ?_; (with_reducible refine (ref08_put.calls k2 (fun k_ => some k_ = (.slice Ao22 x10_2.length co22 : Value).ownBlock) (.slice Ao22 x10_2.length co22) x10_2 ((rd_T57 l1 x11_2).f0) ((rd_T57 l1 x11_2).f1) ((rd_T57 l1 x11_2).f2.f0) ((rd_T57 l1 x11_2).f2.f1) t754 w _ ?side1 ?side2 A19.out).mono ?_); (case side1 => repeat (first | (with_reducible first | exact HB.out | apply below_alloc | apply pw_below_drewN | apply below_drew1) | exact HB.out)); (case side2 => exact Kd.R_tight rfl HO_10.out); rintro e w23 ⟨v755, rfl, ho0, hb, hkp⟩; refine ⟨_, rfl, ?_⟩; have n0_ := Aside0.mk (Kd.R_mono (ok' := fun k_ => True) ho0 (fun k_ hk_ => trivial)); have n1_ := Aside0.mk (hb); clear HB; clear HO_10; have HO756 := n0_; have HB := n1_; clear n0_ n1_; (try clear hb); (try clear hkp); (try clear ho0)))
         go_roundg k2
         case measure => have := HJ6.out; have := HK2.out; omega
         case rel => exact ⟨(t754), (wrap64 (x11_2 + 1)), (by first | rfl | (simp; done) | (simp [*]; done)), H', ⟨by have := HJ6.out; have := HK2.out; omega⟩, ⟨by (with_reducible repeat (first | apply Kd.R_alloc | apply Kd.R_drewN | apply Kd.R_drew)); exact HO756.out⟩, ⟨by repeat (first | (with_reducible first | exact HB.out | apply below_alloc | apply pw_below_drewN | apply below_drew1) | exact HB.out)⟩⟩
        ·replace c18 := Bool.eq_false_iff.mpr c18
         subst c18
         have H1 : (if t752 = true then (ref08_Merge.l0 k2 l0 l1 l2 x10_2 (wrap64 (x11_2 + 1))) else ((ref08_put.f k2 x10_2 ((rd_T57 l1 x11_2).f0) ((rd_T57 l1 x11_2).f1) ((rd_T57 l1 x11_2).f2.f0) ((rd_T57 l1 x11_2).f2.f1)).bind fun t758 => (ref08_Merge.l0 k2 l0 l1 l2 t758 (wrap64 (x11_2 + 1))))) = some r := by rw [if_neg (show ¬ (false = true) by decide)] at H; exact H
         clear H
         have H := H1
         clear H1
         by_cases c24 : t752 = true
         ·subst c24
          have H1 : (ref08_Merge.l0 k2 l0 l1 l2 x10_2 (wrap64 (x11_2 + 1))) = some r := by rw [if_pos rfl] at H; exact H
          clear H
          have H := H1
          clear H1
          have H' := Aside0.mk H
          clear H
          have p749 : 0 ≤ (x11_2 : Int) := of_decide_eq_true (by first | (with_reducible assumption) | assumption)
          have q749 : x11_2 < (l1.length : Int) := of_decide_eq_true (by first | (with_reducible assumption) | assumption)
          obtain ⟨ad749, e749, hx749_0, hx749_1, hx749_2, hx749_3⟩ := at_T57 HR1.out x11_2 p749 q749
          cases e749
          replace hx749_0 := (HB.out.cell (World.block_lt_of_cell? w _ hx749_0)).trans hx749_0
          replace hx749_1 := (HB.out.cell (World.block_lt_of_cell? w _ hx749_1)).trans hx749_1
          replace hx749_2 := (HB.out.cell (World.block_lt_of_cell? w _ hx749_2)).trans hx749_2
          replace hx749_3 := (HB.out.cell (World.block_lt_of_cell? w _ hx749_3)).trans hx749_3
          replace p749 := eq_true p749
          replace q749 := eq_true q749
          go_wp2_with (first | ((with_reducible refine gate_callee (f := 83) rfl ?_); refine goesL_ (some 44) rfl rfl Try.func83 (by kernel_rfl) rfl #[.slice A2 l2.length c2, .agg #[.string ((rd_T57 l1 x11_2).f0), .string ((rd_T57 l1 x11_2).f1), .int .i64 ((rd_T57 l1 x11_2).f2.f0), .int .i64 ((rd_T57 l1 x11_2).f2.f1)]] rfl (by (try simp only [List.map_toArray, List.map_cons, List.map_nil]); first | done | rfl | (simp only [List.length_drop, List.length_take]; rfl)) ?_; (with_reducible refine (ref08_has.calls k2 _ _ l2 ((rd_T57 l1 x11_2).f0) ((rd_T57 l1 x11_2).f1) ((rd_T57 l1 x11_2).f2.f0) ((rd_T57 l1 x11_2).f2.f1) false _ ?side1 ?side2 A16.out).mono ?_); (case side1 => repeat (first | exact (Kd.C_below HR2.out HB.out) | (with_reducible refine Kd.C_alloc ?_ _) | (with_reducible refine Kd.C_drewN ?_ _) | (with_reducible refine Kd.C_drew ?_))); (case side2 => exact HC2.out); rintro e w25 ⟨rfl, hb⟩; refine ⟨_, rfl, ?_⟩; have n0_ := Aside0.mk (Kd.R_below (by (with_reducible repeat (first | apply Kd.R_alloc | apply Kd.R_drewN | apply Kd.R_drew)); exact HO_10.out) hb); have n1_ := Aside0.mk (below_step (by repeat (first | (with_reducible first | exact HB.out | apply below_alloc | apply pw_below_drewN | apply below_drew1) | exact HB.out)) hb); clear HO_10; clear HB; have HO_10 := n0_; have HB := n1_; clear n0_ n1_; (try clear hb); (try clear hb2); (try clear hk); (try clear hi); have p751 : 0 ≤ (x11_2 : Int) := of_decide_eq_true (by first | (with_reducible assumption) | assumption); have q751 : x11_2 < (l1.length : Int) := of_decide_eq_true (by first | (with_reducible assumption) | assumption); obtain ⟨ad751, e751, hx751_0, hx751_1, hx751_2, hx751_3⟩ := at_T57 HR1.out x11_2 p751 q751; obtain rfl : ad749 = ad751 := (by injection e751); replace hx751_0 := (HB.out.cell (World.block_lt_of_cell? w _ hx751_0)).trans hx751_0; replace hx751_1 := (HB.out.cell (World.block_lt_of_cell? w _ hx751_1)).trans hx751_1; replace hx751_2 := (HB.out.cell (World.block_lt_of_cell? w _ hx751_2)).trans hx751_2; replace hx751_3 := (HB.out.cell (World.block_lt_of_cell? w _ hx751_3)).trans hx751_3; replace p751 := eq_true p751; replace q751 := eq_true q751) | ((with_reducible refine gate_callee (f := 83) rfl ?_); refine goesL_ (some 50) rfl rfl Try.func83 (by kernel_rfl) rfl #[.slice A0 l0.length c0, .agg #[.string ((rd_T57 l1 x11_2).f0), .string ((rd_T57 l1 x11_2).f1), .int .i64 ((rd_T57 l1 x11_2).f2.f0), .int .i64 ((rd_T57 l1 x11_2).f2.f1)]] rfl (by (try simp only [List.map_toArray, List.map_cons, List.map_nil]); first | done | rfl | (simp only [List.length_drop, List.length_take]; rfl)) ?_; (with_reducible refine (ref08_has.calls k2 _ _ l0 ((rd_T57 l1 x11_2).f0) ((rd_T57 l1 x11_2).f1) ((rd_T57 l1 x11_2).f2.f0) ((rd_T57 l1 x11_2).f2.f1) true _ ?side1 ?side2 A17.out).mono ?_); (case side1 => repeat (first | exact (Kd.C_below HR0.out HB.out) | (with_reducible refine Kd.C_alloc ?_ _) | (with_reducible refine Kd.C_drewN ?_ _) | (with_reducible refine Kd.C_drew ?_))); (case side2 => exact HC0.out); rintro e w26 ⟨rfl, hb⟩; refine ⟨_, rfl, ?_⟩; have n0_ := Aside0.mk (Kd.R_below (by (with_reducible repeat (first | apply Kd.R_alloc | apply Kd.R_drewN | apply Kd.R_drew)); exact HO_10.out) hb); have n1_ := Aside0.mk (below_step (by repeat (first | (with_reducible first | exact HB.out | apply below_alloc | apply pw_below_drewN | apply below_drew1) | exact HB.out)) hb); clear HO_10; clear HB; have HO_10 := n0_; have HB := n1_; clear n0_ n1_; (try clear hb); (try clear hb2); (try clear hk); (try clear hi)))
          go_roundg k2
          case measure => have := HJ6.out; have := HK2.out; omega
          case rel => exact ⟨(x10_2), (wrap64 (x11_2 + 1)), (by first | rfl | (simp; done) | (simp [*]; done)), H', ⟨by have := HJ6.out; have := HK2.out; omega⟩, ⟨by (with_reducible repeat (first | apply Kd.R_alloc | apply Kd.R_drewN | apply Kd.R_drew)); exact HO_10.out⟩, ⟨by repeat (first | (with_reducible first | exact HB.out | apply below_alloc | apply pw_below_drewN | apply below_drew1) | exact HB.out)⟩⟩
         ·replace c24 := Bool.eq_false_iff.mpr c24
          subst c24
          have H1 : ((ref08_put.f k2 x10_2 ((rd_T57 l1 x11_2).f0) ((rd_T57 l1 x11_2).f1) ((rd_T57 l1 x11_2).f2.f0) ((rd_T57 l1 x11_2).f2.f1)).bind fun t758 => (ref08_Merge.l0 k2 l0 l1 l2 t758 (wrap64 (x11_2 + 1)))) = some r := by rw [if_neg (show ¬ (false = true) by decide)] at H; exact H
          clear H
          have H := H1
          clear H1
          replace H := Option.bind_eq_some_iff.mp H
          obtain ⟨t758, A270, H⟩ := H
          replace H : (ref08_Merge.l0 k2 l0 l1 l2 t758 (wrap64 (x11_2 + 1))) = some r := H
          have A27 := Aside0.mk A270
          clear A270
          have H' := Aside0.mk H
          clear H
          have p749 : 0 ≤ (x11_2 : Int) := of_decide_eq_true (by first | (with_reducible assumption) | assumption)
          have q749 : x11_2 < (l1.length : Int) := of_decide_eq_true (by first | (with_reducible assumption) | assumption)
          obtain ⟨ad749, e749, hx749_0, hx749_1, hx749_2, hx749_3⟩ := at_T57 HR1.out x11_2 p749 q749
          cases e749
          replace hx749_0 := (HB.out.cell (World.block_lt_of_cell? w _ hx749_0)).trans hx749_0
          replace hx749_1 := (HB.out.cell (World.block_lt_of_cell? w _ hx749_1)).trans hx749_1
          replace hx749_2 := (HB.out.cell (World.block_lt_of_cell? w _ hx749_2)).trans hx749_2
          replace hx749_3 := (HB.out.cell (World.block_lt_of_cell? w _ hx749_3)).trans hx749_3
          replace p749 := eq_true p749
          replace q749 := eq_true q749
          go_wp2_with (first | ((with_reducible refine gate_callee (f := 83) rfl ?_); refine goesL_ (some 44) rfl rfl Try.func83 (by kernel_rfl) rfl #[.slice A2 l2.length c2, .agg #[.string ((rd_T57 l1 x11_2).f0), .string ((rd_T57 l1 x11_2).f1), .int .i64 ((rd_T57 l1 x11_2).f2.f0), .int .i64 ((rd_T57 l1 x11_2).f2.f1)]] rfl (by (try simp only [List.map_toArray, List.map_cons, List.map_nil]); first | done | rfl | (simp only [List.length_drop, List.length_take]; rfl)) ?_; (with_reducible refine (ref08_has.calls k2 _ _ l2 ((rd_T57 l1 x11_2).f0) ((rd_T57 l1 x11_2).f1) ((rd_T57 l1 x11_2).f2.f0) ((rd_T57 l1 x11_2).f2.f1) false _ ?side1 ?side2 A16.out).mono ?_); (case side1 => repeat (first | exact (Kd.C_below HR2.out HB.out) | (with_reducible refine Kd.C_alloc ?_ _) | (with_reducible refine Kd.C_drewN ?_ _) | (with_reducible refine Kd.C_drew ?_))); (case side2 => exact HC2.out); rintro e w28 ⟨rfl, hb⟩; refine ⟨_, rfl, ?_⟩; have n0_ := Aside0.mk (Kd.R_below (by (with_reducible repeat (first | apply Kd.R_alloc | apply Kd.R_drewN | apply Kd.R_drew)); exact HO_10.out) hb); have n1_ := Aside0.mk (below_step (by repeat (first | (with_reducible first | exact HB.out | apply below_alloc | apply pw_below_drewN | apply below_drew1) | exact HB.out)) hb); clear HO_10; clear HB; have HO_10 := n0_; have HB := n1_; clear n0_ n1_; (try clear hb); (try clear hb2); (try clear hk); (try clear hi); have p751 : 0 ≤ (x11_2 : Int) := of_decide_eq_true (by first | (with_reducible assumption) | assumption); have q751 : x11_2 < (l1.length : Int) := of_decide_eq_true (by first | (with_reducible assumption) | assumption); obtain ⟨ad751, e751, hx751_0, hx751_1, hx751_2, hx751_3⟩ := at_T57 HR1.out x11_2 p751 q751; obtain rfl : ad749 = ad751 := (by injection e751); replace hx751_0 := (HB.out.cell (World.block_lt_of_cell? w _ hx751_0)).trans hx751_0; replace hx751_1 := (HB.out.cell (World.block_lt_of_cell? w _ hx751_1)).trans hx751_1; replace hx751_2 := (HB.out.cell (World.block_lt_of_cell? w _ hx751_2)).trans hx751_2; replace hx751_3 := (HB.out.cell (World.block_lt_of_cell? w _ hx751_3)).trans hx751_3; replace p751 := eq_true p751; replace q751 := eq_true q751) | ((with_reducible refine gate_callee (f := 83) rfl ?_); refine goesL_ (some 50) rfl rfl Try.func83 (by kernel_rfl) rfl #[.slice A0 l0.length c0, .agg #[.string ((rd_T57 l1 x11_2).f0), .string ((rd_T57 l1 x11_2).f1), .int .i64 ((rd_T57 l1 x11_2).f2.f0), .int .i64 ((rd_T57 l1 x11_2).f2.f1)]] rfl (by (try simp only [List.map_toArray, List.map_cons, List.map_nil]); first | done | rfl | (simp only [List.length_drop, List.length_take]; rfl)) ?_; (with_reducible refine (ref08_has.calls k2 _ _ l0 ((rd_T57 l1 x11_2).f0) ((rd_T57 l1 x11_2).f1) ((rd_T57 l1 x11_2).f2.f0) ((rd_T57 l1 x11_2).f2.f1) false _ ?side1 ?side2 A17.out).mono ?_); (case side1 => repeat (first | exact (Kd.C_below HR0.out HB.out) | (with_reducible refine Kd.C_alloc ?_ _) | (with_reducible refine Kd.C_drewN ?_ _) | (with_reducible refine Kd.C_drew ?_))); (case side2 => exact HC0.out); rintro e w29 ⟨rfl, hb⟩; refine ⟨_, rfl, ?_⟩; have n0_ := Aside0.mk (Kd.R_below (by (with_reducible repeat (first | apply Kd.R_alloc | apply Kd.R_drewN | apply Kd.R_drew)); exact HO_10.out) hb); have n1_ := Aside0.mk (below_step (by repeat (first | (with_reducible first | exact HB.out | apply below_alloc | apply pw_below_drewN | apply below_drew1) | exact HB.out)) hb); clear HO_10; clear HB; have HO_10 := n0_; have HB := n1_; clear n0_ n1_; (try clear hb); (try clear hb2); (try clear hk); (try clear hi); have p757 : 0 ≤ (x11_2 : Int) := of_decide_eq_true (by first | (with_reducible assumption) | assumption); have q757 : x11_2 < (l1.length : Int) := of_decide_eq_true (by first | (with_reducible assumption) | assumption); obtain ⟨ad757, e757, hx757_0, hx757_1, hx757_2, hx757_3⟩ := at_T57 HR1.out x11_2 p757 q757; obtain rfl : ad749 = ad757 := (by injection e757); replace hx757_0 := (HB.out.cell (World.block_lt_of_cell? w _ hx757_0)).trans hx757_0; replace hx757_1 := (HB.out.cell (World.block_lt_of_cell? w _ hx757_1)).trans hx757_1; replace hx757_2 := (HB.out.cell (World.block_lt_of_cell? w _ hx757_2)).trans hx757_2; replace hx757_3 := (HB.out.cell (World.block_lt_of_cell? w _ hx757_3)).trans hx757_3; replace p757 := eq_true p757; replace q757 := eq_true q757; obtain ⟨Ao30, co30, eo30⟩ := Kd.R_slice HO_10.out; subst eo30) | ((with_reducible refine gate_callee (f := 77) rfl ?_); refine goesL_ (some 61) rfl rfl Try.func77 (by kernel_rfl) rfl #[.slice Ao30 x10_2.length co30, .agg #[.string ((rd_T57 l1 x11_2).f0), .string ((rd_T57 l1 x11_2).f1), .int .i64 ((rd_T57 l1 x11_2).f2.f0), .int .i64 ((rd_T57 l1 x11_2).f2.f1)]] rfl (by (try simp only [List.map_toArray, List.map_cons, List.map_nil]); first | done | rfl | (simp only [List.length_drop, List.length_take]; rfl)) ?_; (with_reducible refine (ref08_put.calls k2 (fun k_ => some k_ = (.slice Ao30 x10_2.length co30 : Value).ownBlock) (.slice Ao30 x10_2.length co30) x10_2 ((rd_T57 l1 x11_2).f0) ((rd_T57 l1 x11_2).f1) ((rd_T57 l1 x11_2).f2.f0) ((rd_T57 l1 x11_2).f2.f1) t758 w _ ?side1 ?side2 A27.out).mono ?_); (case side1 => repeat (first | (with_reducible first | exact HB.out | apply below_alloc | apply pw_below_drewN | apply below_drew1) | exact HB.out)); (case side2 => exact Kd.R_tight rfl HO_10.out); rintro e w31 ⟨v759, rfl, ho0, hb, hkp⟩; refine ⟨_, rfl, ?_⟩; have n0_ := Aside0.mk (Kd.R_mono (ok' := fun k_ => True) ho0 (fun k_ hk_ => trivial)); have n1_ := Aside0.mk (hb); clear HB; clear HO_10; have HO760 := n0_; have HB := n1_; clear n0_ n1_; (try clear hb); (try clear hkp); (try clear ho0)))
          go_roundg k2
          case measure => have := HJ6.out; have := HK2.out; omega
          case rel => exact ⟨(t758), (wrap64 (x11_2 + 1)), (by first | rfl | (simp; done) | (simp [*]; done)), H', ⟨by have := HJ6.out; have := HK2.out; omega⟩, ⟨by (with_reducible repeat (first | apply Kd.R_alloc | apply Kd.R_drewN | apply Kd.R_drew)); exact HO760.out⟩, ⟨by repeat (first | (with_reducible first | exact HB.out | apply below_alloc | apply pw_below_drewN | apply below_drew1) | exact HB.out)⟩⟩
       ·rw [if_neg c15] at H
        exact absurd H (by simp)
      ·rw [if_neg c14] at H
       have c14b0 : decide (x11_2 < (l1.length : Int)) = false := decide_eq_false c14
       clear c14
       have H' := Aside0.mk H
       clear H
       go_wp2
       go_loopg [10, 14] k2 (fun kq v10 v14 w' => ∃ (x10_3 : List (S57)) (x14_3 : Int), v14 = .int .i64 x14_3 ∧ Aside0 (ref08_Merge.l1 kq l0 l1 l2 x10_3 x14_3 = some r) ∧ Aside0 (kq ≤ k2) ∧ Aside0 (Kd.R k57 57 w' w.heap.size (fun _ => True) v10 x10_3) ∧ Aside0 (Below w.heap.size w w'))
       case atStart => exact ⟨(x10_2), (0), (by first | rfl | (simp; done) | (simp [*]; done)), H', ⟨Nat.le_refl _⟩, ⟨by (with_reducible repeat (first | apply Kd.R_alloc | apply Kd.R_drewN | apply Kd.R_drew)); exact HO_10.out⟩, ⟨by repeat (first | (with_reducible first | exact HB.out | apply below_alloc | apply pw_below_drewN | apply below_drew1) | exact HB.out)⟩⟩
       case round =>
        clear H'
        try clear c1
        try clear c2
        try clear p2
        try clear c4
        try clear c5
        try clear p6
        try clear c7
        try clear p7
        try clear q7
        try clear hx7
        try clear c8
        try clear c11
        try clear c12
        try clear c13
        try clear c14
        try clear c14b0
        try clear c15
        try clear c15b0
        try clear c18
        try clear c24
        try clear hx749_0
        try clear hx749_1
        try clear hx749_2
        try clear hx749_3
        try clear hx751_0
        try clear hx751_1
        try clear hx751_2
        try clear hx751_3
        try clear hx753_0
        try clear hx753_1
        try clear hx753_2
        try clear hx753_3
        try clear hx757_0
        try clear hx757_1
        try clear hx757_2
        try clear hx757_3
        try clear p2
        try clear p749
        try clear p751
        try clear p753
        try clear p757
        try clear q749
        try clear q751
        try clear q753
        try clear q757
        obtain ⟨x10_3, x14_3, rfl, HA, HK3, HO_10, HB⟩ := hrel
        cases gk with
        | zero => exact absurd HA.out (by simp [ref08_Merge.l1])
        | succ k3 =>
         have H := HA.out
         clear HA
         simp only [ref08_Merge.l1] at H
         by_cases c32 : x14_3 < (l2.length : Int)
         ·rw [if_pos c32] at H
          have c32b0 : decide (x14_3 < (l2.length : Int)) = true := decide_eq_true c32
          clear c32
          by_cases c33 : 0 ≤ x14_3
          ·rw [if_pos c33] at H
           have c33b0 : decide (0 ≤ x14_3) = true := decide_eq_true c33
           clear c33
           replace H := Option.bind_eq_some_iff.mp H
           obtain ⟨t762, A340, H⟩ := H
           replace H : ((ref08_has.f k3 l0 ((rd_T57 l2 x14_3).f0) ((rd_T57 l2 x14_3).f1) ((rd_T57 l2 x14_3).f2.f0) ((rd_T57 l2 x14_3).f2.f1)).bind fun t764 => (if t762 = true then (ref08_Merge.l1 k3 l0 l1 l2 x10_3 (wrap64 (x14_3 + 1))) else (if t764 = true then (ref08_Merge.l1 k3 l0 l1 l2 x10_3 (wrap64 (x14_3 + 1))) else ((ref08_put.f k3 x10_3 ((rd_T57 l2 x14_3).f0) ((rd_T57 l2 x14_3).f1) ((rd_T57 l2 x14_3).f2.f0) ((rd_T57 l2 x14_3).f2.f1)).bind fun t766 => (ref08_Merge.l1 k3 l0 l1 l2 t766 (wrap64 (x14_3 + 1))))))) = some r := H
           have A34 := Aside0.mk A340
           clear A340
           replace H := Option.bind_eq_some_iff.mp H
           obtain ⟨t764, A350, H⟩ := H
           replace H : (if t762 = true then (ref08_Merge.l1 k3 l0 l1 l2 x10_3 (wrap64 (x14_3 + 1))) else (if t764 = true then (ref08_Merge.l1 k3 l0 l1 l2 x10_3 (wrap64 (x14_3 + 1))) else ((ref08_put.f k3 x10_3 ((rd_T57 l2 x14_3).f0) ((rd_T57 l2 x14_3).f1) ((rd_T57 l2 x14_3).f2.f0) ((rd_T57 l2 x14_3).f2.f1)).bind fun t766 => (ref08_Merge.l1 k3 l0 l1 l2 t766 (wrap64 (x14_3 + 1)))))) = some r := H
           have A35 := Aside0.mk A350
           clear A350
           by_cases c36 : t762 = true
           ·subst c36
            have H1 : (ref08_Merge.l1 k3 l0 l1 l2 x10_3 (wrap64 (x14_3 + 1))) = some r := by rw [if_pos rfl] at H; exact H
            clear H
            have H := H1
            clear H1
            have H' := Aside0.mk H
            clear H
            have p761 : 0 ≤ (x14_3 : Int) := of_decide_eq_true (by first | (with_reducible assumption) | assumption)
            have q761 : x14_3 < (l2.length : Int) := of_decide_eq_true (by first | (with_reducible assumption) | assumption)
            obtain ⟨ad761, e761, hx761_0, hx761_1, hx761_2, hx761_3⟩ := at_T57 HR2.out x14_3 p761 q761
            cases e761
            replace hx761_0 := (HB.out.cell (World.block_lt_of_cell? w _ hx761_0)).trans hx761_0
            replace hx761_1 := (HB.out.cell (World.block_lt_of_cell? w _ hx761_1)).trans hx761_1
            replace hx761_2 := (HB.out.cell (World.block_lt_of_cell? w _ hx761_2)).trans hx761_2
            replace hx761_3 := (HB.out.cell (World.block_lt_of_cell? w _ hx761_3)).trans hx761_3
            replace p761 := eq_true p761
            replace q761 := eq_true q761
            go_wp2_with (first | ((with_reducible refine gate_callee (f := 83) rfl ?_); refine goesL_ (some 73) rfl rfl Try.func83 (by kernel_rfl) rfl #[.slice A1 l1.length c1, .agg #[.string ((rd_T57 l2 x14_3).f0), .string ((rd_T57 l2 x14_3).f1), .int .i64 ((rd_T57 l2 x14_3).f2.f0), .int .i64 ((rd_T57 l2 x14_3).f2.f1)]] rfl (by (try simp only [List.map_toArray, List.map_cons, List.map_nil]); first | done | rfl | (simp only [List.length_drop, List.length_take]; rfl)) ?_; (with_reducible refine (ref08_has.calls k3 _ _ l1 ((rd_T57 l2 x14_3).f0) ((rd_T57 l2 x14_3).f1) ((rd_T57 l2 x14_3).f2.f0) ((rd_T57 l2 x14_3).f2.f1) true _ ?side1 ?side2 A34.out).mono ?_); (case side1 => repeat (first | exact (Kd.C_below HR1.out HB.out) | (with_reducible refine Kd.C_alloc ?_ _) | (with_reducible refine Kd.C_drewN ?_ _) | (with_reducible refine Kd.C_drew ?_))); (case side2 => exact HC1.out); rintro e w37 ⟨rfl, hb⟩; refine ⟨_, rfl, ?_⟩; have n0_ := Aside0.mk (Kd.R_below (by (with_reducible repeat (first | apply Kd.R_alloc | apply Kd.R_drewN | apply Kd.R_drew)); exact HO_10.out) hb); have n1_ := Aside0.mk (below_step (by repeat (first | (with_reducible first | exact HB.out | apply below_alloc | apply pw_below_drewN | apply below_drew1) | exact HB.out)) hb); clear HO_10; clear HB; have HO_10 := n0_; have HB := n1_; clear n0_ n1_; (try clear hb); (try clear hb2); (try clear hk); (try clear hi); have p763 : 0 ≤ (x14_3 : Int) := of_decide_eq_true (by first | (with_reducible assumption) | assumption); have q763 : x14_3 < (l2.length : Int) := of_decide_eq_true (by first | (with_reducible assumption) | assumption); obtain ⟨ad763, e763, hx763_0, hx763_1, hx763_2, hx763_3⟩ := at_T57 HR2.out x14_3 p763 q763; obtain rfl : ad761 = ad763 := (by injection e763); replace hx763_0 := (HB.out.cell (World.block_lt_of_cell? w _ hx763_0)).trans hx763_0; replace hx763_1 := (HB.out.cell (World.block_lt_of_cell? w _ hx763_1)).trans hx763_1; replace hx763_2 := (HB.out.cell (World.block_lt_of_cell? w _ hx763_2)).trans hx763_2; replace hx763_3 := (HB.out.cell (World.block_lt_of_cell? w _ hx763_3)).trans hx763_3; replace p763 := eq_true p763; replace q763 := eq_true q763) | ((with_reducible refine gate_callee (f := 83) rfl ?_); refine goesL_ (some 79) rfl rfl Try.func83 (by kernel_rfl) rfl #[.slice A0 l0.length c0, .agg #[.string ((rd_T57 l2 x14_3).f0), .string ((rd_T57 l2 x14_3).f1), .int .i64 ((rd_T57 l2 x14_3).f2.f0), .int .i64 ((rd_T57 l2 x14_3).f2.f1)]] rfl (by (try simp only [List.map_toArray, List.map_cons, List.map_nil]); first | done | rfl | (simp only [List.length_drop, List.length_take]; rfl)) ?_; (with_reducible refine (ref08_has.calls k3 _ _ l0 ((rd_T57 l2 x14_3).f0) ((rd_T57 l2 x14_3).f1) ((rd_T57 l2 x14_3).f2.f0) ((rd_T57 l2 x14_3).f2.f1) t764 _ ?side1 ?side2 A35.out).mono ?_); (case side1 => repeat (first | exact (Kd.C_below HR0.out HB.out) | (with_reducible refine Kd.C_alloc ?_ _) | (with_reducible refine Kd.C_drewN ?_ _) | (with_reducible refine Kd.C_drew ?_))); (case side2 => exact HC0.out); rintro e w38 ⟨rfl, hb⟩; refine ⟨_, rfl, ?_⟩; have n0_ := Aside0.mk (Kd.R_below (by (with_reducible repeat (first | apply Kd.R_alloc | apply Kd.R_drewN | apply Kd.R_drew)); exact HO_10.out) hb); have n1_ := Aside0.mk (below_step (by repeat (first | (with_reducible first | exact HB.out | apply below_alloc | apply pw_below_drewN | apply below_drew1) | exact HB.out)) hb); clear HO_10; clear HB; have HO_10 := n0_; have HB := n1_; clear n0_ n1_; (try clear hb); (try clear hb2); (try clear hk); (try clear hi)))
            go_roundg k3
            case measure => have := HJ6.out; have := HK2.out; have := HK3.out; omega
            case rel => exact ⟨(x10_3), (wrap64 (x14_3 + 1)), (by first | rfl | (simp; done) | (simp [*]; done)), H', ⟨by have := HJ6.out; have := HK2.out; have := HK3.out; omega⟩, ⟨by (with_reducible repeat (first | apply Kd.R_alloc | apply Kd.R_drewN | apply Kd.R_drew)); exact HO_10.out⟩, ⟨by repeat (first | (with_reducible first | exact HB.out | apply below_alloc | apply pw_below_drewN | apply below_drew1) | exact HB.out)⟩⟩
           ·replace c36 := Bool.eq_false_iff.mpr c36
            subst c36
            have H1 : (if t764 = true then (ref08_Merge.l1 k3 l0 l1 l2 x10_3 (wrap64 (x14_3 + 1))) else ((ref08_put.f k3 x10_3 ((rd_T57 l2 x14_3).f0) ((rd_T57 l2 x14_3).f1) ((rd_T57 l2 x14_3).f2.f0) ((rd_T57 l2 x14_3).f2.f1)).bind fun t766 => (ref08_Merge.l1 k3 l0 l1 l2 t766 (wrap64 (x14_3 + 1))))) = some r := by rw [if_neg (show ¬ (false = true) by decide)] at H; exact H
            clear H
            have H := H1
            clear H1
            by_cases c39 : t764 = true
            ·subst c39
             have H1 : (ref08_Merge.l1 k3 l0 l1 l2 x10_3 (wrap64 (x14_3 + 1))) = some r := by rw [if_pos rfl] at H; exact H
             clear H
             have H := H1
             clear H1
             have H' := Aside0.mk H
             clear H
             have p761 : 0 ≤ (x14_3 : Int) := of_decide_eq_true (by first | (with_reducible assumption) | assumption)
             have q761 : x14_3 < (l2.length : Int) := of_decide_eq_true (by first | (with_reducible assumption) | assumption)
             obtain ⟨ad761, e761, hx761_0, hx761_1, hx761_2, hx761_3⟩ := at_T57 HR2.out x14_3 p761 q761
             cases e761
             replace hx761_0 := (HB.out.cell (World.block_lt_of_cell? w _ hx761_0)).trans hx761_0
             replace hx761_1 := (HB.out.cell (World.block_lt_of_cell? w _ hx761_1)).trans hx761_1
             replace hx761_2 := (HB.out.cell (World.block_lt_of_cell? w _ hx761_2)).trans hx761_2
             replace hx761_3 := (HB.out.cell (World.block_lt_of_cell? w _ hx761_3)).trans hx761_3
             replace p761 := eq_true p761
             replace q761 := eq_true q761
             go_wp2_with (first | ((with_reducible refine gate_callee (f := 83) rfl ?_); refine goesL_ (some 73) rfl rfl Try.func83 (by kernel_rfl) rfl #[.slice A1 l1.length c1, .agg #[.string ((rd_T57 l2 x14_3).f0), .string ((rd_T57 l2 x14_3).f1), .int .i64 ((rd_T57 l2 x14_3).f2.f0), .int .i64 ((rd_T57 l2 x14_3).f2.f1)]] rfl (by (try simp only [List.map_toArray, List.map_cons, List.map_nil]); first | done | rfl | (simp only [List.length_drop, List.length_take]; rfl)) ?_; (with_reducible refine (ref08_has.calls k3 _ _ l1 ((rd_T57 l2 x14_3).f0) ((rd_T57 l2 x14_3).f1) ((rd_T57 l2 x14_3).f2.f0) ((rd_T57 l2 x14_3).f2.f1) false _ ?side1 ?side2 A34.out).mono ?_); (case side1 => repeat (first | exact (Kd.C_below HR1.out HB.out) | (with_reducible refine Kd.C_alloc ?_ _) | (with_reducible refine Kd.C_drewN ?_ _) | (with_reducible refine Kd.C_drew ?_))); (case side2 => exact HC1.out); rintro e w40 ⟨rfl, hb⟩; refine ⟨_, rfl, ?_⟩; have n0_ := Aside0.mk (Kd.R_below (by (with_reducible repeat (first | apply Kd.R_alloc | apply Kd.R_drewN | apply Kd.R_drew)); exact HO_10.out) hb); have n1_ := Aside0.mk (below_step (by repeat (first | (with_reducible first | exact HB.out | apply below_alloc | apply pw_below_drewN | apply below_drew1) | exact HB.out)) hb); clear HO_10; clear HB; have HO_10 := n0_; have HB := n1_; clear n0_ n1_; (try clear hb); (try clear hb2); (try clear hk); (try clear hi); have p763 : 0 ≤ (x14_3 : Int) := of_decide_eq_true (by first | (with_reducible assumption) | assumption); have q763 : x14_3 < (l2.length : Int) := of_decide_eq_true (by first | (with_reducible assumption) | assumption); obtain ⟨ad763, e763, hx763_0, hx763_1, hx763_2, hx763_3⟩ := at_T57 HR2.out x14_3 p763 q763; obtain rfl : ad761 = ad763 := (by injection e763); replace hx763_0 := (HB.out.cell (World.block_lt_of_cell? w _ hx763_0)).trans hx763_0; replace hx763_1 := (HB.out.cell (World.block_lt_of_cell? w _ hx763_1)).trans hx763_1; replace hx763_2 := (HB.out.cell (World.block_lt_of_cell? w _ hx763_2)).trans hx763_2; replace hx763_3 := (HB.out.cell (World.block_lt_of_cell? w _ hx763_3)).trans hx763_3; replace p763 := eq_true p763; replace q763 := eq_true q763) | ((with_reducible refine gate_callee (f := 83) rfl ?_); refine goesL_ (some 79) rfl rfl Try.func83 (by kernel_rfl) rfl #[.slice A0 l0.length c0, .agg #[.string ((rd_T57 l2 x14_3).f0), .string ((rd_T57 l2 x14_3).f1), .int .i64 ((rd_T57 l2 x14_3).f2.f0), .int .i64 ((rd_T57 l2 x14_3).f2.f1)]] rfl (by (try simp only [List.map_toArray, List.map_cons, List.map_nil]); first | done | rfl | (simp only [List.length_drop, List.length_take]; rfl)) ?_; (with_reducible refine (ref08_has.calls k3 _ _ l0 ((rd_T57 l2 x14_3).f0) ((rd_T57 l2 x14_3).f1) ((rd_T57 l2 x14_3).f2.f0) ((rd_T57 l2 x14_3).f2.f1) true _ ?side1 ?side2 A35.out).mono ?_); (case side1 => repeat (first | exact (Kd.C_below HR0.out HB.out) | (with_reducible refine Kd.C_alloc ?_ _) | (with_reducible refine Kd.C_drewN ?_ _) | (with_reducible refine Kd.C_drew ?_))); (case side2 => exact HC0.out); rintro e w41 ⟨rfl, hb⟩; refine ⟨_, rfl, ?_⟩; have n0_ := Aside0.mk (Kd.R_below (by (with_reducible repeat (first | apply Kd.R_alloc | apply Kd.R_drewN | apply Kd.R_drew)); exact HO_10.out) hb); have n1_ := Aside0.mk (below_step (by repeat (first | (with_reducible first | exact HB.out | apply below_alloc | apply pw_below_drewN | apply below_drew1) | exact HB.out)) hb); clear HO_10; clear HB; have HO_10 := n0_; have HB := n1_; clear n0_ n1_; (try clear hb); (try clear hb2); (try clear hk); (try clear hi)))
             go_roundg k3
             case measure => have := HJ6.out; have := HK2.out; have := HK3.out; omega
             case rel => exact ⟨(x10_3), (wrap64 (x14_3 + 1)), (by first | rfl | (simp; done) | (simp [*]; done)), H', ⟨by have := HJ6.out; have := HK2.out; have := HK3.out; omega⟩, ⟨by (with_reducible repeat (first | apply Kd.R_alloc | apply Kd.R_drewN | apply Kd.R_drew)); exact HO_10.out⟩, ⟨by repeat (first | (with_reducible first | exact HB.out | apply below_alloc | apply pw_below_drewN | apply below_drew1) | exact HB.out)⟩⟩
            ·replace c39 := Bool.eq_false_iff.mpr c39
             subst c39
             have H1 : ((ref08_put.f k3 x10_3 ((rd_T57 l2 x14_3).f0) ((rd_T57 l2 x14_3).f1) ((rd_T57 l2 x14_3).f2.f0) ((rd_T57 l2 x14_3).f2.f1)).bind fun t766 => (ref08_Merge.l1 k3 l0 l1 l2 t766 (wrap64 (x14_3 + 1)))) = some r := by rw [if_neg (show ¬ (false = true) by decide)] at H; exact H
             clear H
             have H := H1
             clear H1
             replace H := Option.bind_eq_some_iff.mp H
             obtain ⟨t766, A420, H⟩ := H
             replace H : (ref08_Merge.l1 k3 l0 l1 l2 t766 (wrap64 (x14_3 + 1))) = some r := H
             have A42 := Aside0.mk A420
             clear A420
             have H' := Aside0.mk H
             clear H
             have p761 : 0 ≤ (x14_3 : Int) := of_decide_eq_true (by first | (with_reducible assumption) | assumption)
             have q761 : x14_3 < (l2.length : Int) := of_decide_eq_true (by first | (with_reducible assumption) | assumption)
             obtain ⟨ad761, e761, hx761_0, hx761_1, hx761_2, hx761_3⟩ := at_T57 HR2.out x14_3 p761 q761
             cases e761
             replace hx761_0 := (HB.out.cell (World.block_lt_of_cell? w _ hx761_0)).trans hx761_0
             replace hx761_1 := (HB.out.cell (World.block_lt_of_cell? w _ hx761_1)).trans hx761_1
             replace hx761_2 := (HB.out.cell (World.block_lt_of_cell? w _ hx761_2)).trans hx761_2
             replace hx761_3 := (HB.out.cell (World.block_lt_of_cell? w _ hx761_3)).trans hx761_3
             replace p761 := eq_true p761
             replace q761 := eq_true q761
             go_wp2_with (first | ((with_reducible refine gate_callee (f := 83) rfl ?_); refine goesL_ (some 73) rfl rfl Try.func83 (by kernel_rfl) rfl #[.slice A1 l1.length c1, .agg #[.string ((rd_T57 l2 x14_3).f0), .string ((rd_T57 l2 x14_3).f1), .int .i64 ((rd_T57 l2 x14_3).f2.f0), .int .i64 ((rd_T57 l2 x14_3).f2.f1)]] rfl (by (try simp only [List.map_toArray, List.map_cons, List.map_nil]); first | done | rfl | (simp only [List.length_drop, List.length_take]; rfl)) ?_; (with_reducible refine (ref08_has.calls k3 _ _ l1 ((rd_T57 l2 x14_3).f0) ((rd_T57 l2 x14_3).f1) ((rd_T57 l2 x14_3).f2.f0) ((rd_T57 l2 x14_3).f2.f1) false _ ?side1 ?side2 A34.out).mono ?_); (case side1 => repeat (first | exact (Kd.C_below HR1.out HB.out) | (with_reducible refine Kd.C_alloc ?_ _) | (with_reducible refine Kd.C_drewN ?_ _) | (with_reducible refine Kd.C_drew ?_))); (case side2 => exact HC1.out); rintro e w43 ⟨rfl, hb⟩; refine ⟨_, rfl, ?_⟩; have n0_ := Aside0.mk (Kd.R_below (by (with_reducible repeat (first | apply Kd.R_alloc | apply Kd.R_drewN | apply Kd.R_drew)); exact HO_10.out) hb); have n1_ := Aside0.mk (below_step (by repeat (first | (with_reducible first | exact HB.out | apply below_alloc | apply pw_below_drewN | apply below_drew1) | exact HB.out)) hb); clear HO_10; clear HB; have HO_10 := n0_; have HB := n1_; clear n0_ n1_; (try clear hb); (try clear hb2); (try clear hk); (try clear hi); have p763 : 0 ≤ (x14_3 : Int) := of_decide_eq_true (by first | (with_reducible assumption) | assumption); have q763 : x14_3 < (l2.length : Int) := of_decide_eq_true (by first | (with_reducible assumption) | assumption); obtain ⟨ad763, e763, hx763_0, hx763_1, hx763_2, hx763_3⟩ := at_T57 HR2.out x14_3 p763 q763; obtain rfl : ad761 = ad763 := (by injection e763); replace hx763_0 := (HB.out.cell (World.block_lt_of_cell? w _ hx763_0)).trans hx763_0; replace hx763_1 := (HB.out.cell (World.block_lt_of_cell? w _ hx763_1)).trans hx763_1; replace hx763_2 := (HB.out.cell (World.block_lt_of_cell? w _ hx763_2)).trans hx763_2; replace hx763_3 := (HB.out.cell (World.block_lt_of_cell? w _ hx763_3)).trans hx763_3; replace p763 := eq_true p763; replace q763 := eq_true q763) | ((with_reducible refine gate_callee (f := 83) rfl ?_); refine goesL_ (some 79) rfl rfl Try.func83 (by kernel_rfl) rfl #[.slice A0 l0.length c0, .agg #[.string ((rd_T57 l2 x14_3).f0), .string ((rd_T57 l2 x14_3).f1), .int .i64 ((rd_T57 l2 x14_3).f2.f0), .int .i64 ((rd_T57 l2 x14_3).f2.f1)]] rfl (by (try simp only [List.map_toArray, List.map_cons, List.map_nil]); first | done | rfl | (simp only [List.length_drop, List.length_take]; rfl)) ?_; (with_reducible refine (ref08_has.calls k3 _ _ l0 ((rd_T57 l2 x14_3).f0) ((rd_T57 l2 x14_3).f1) ((rd_T57 l2 x14_3).f2.f0) ((rd_T57 l2 x14_3).f2.f1) false _ ?side1 ?side2 A35.out).mono ?_); (case side1 => repeat (first | exact (Kd.C_below HR0.out HB.out) | (with_reducible refine Kd.C_alloc ?_ _) | (with_reducible refine Kd.C_drewN ?_ _) | (with_reducible refine Kd.C_drew ?_))); (case side2 => exact HC0.out); rintro e w44 ⟨rfl, hb⟩; refine ⟨_, rfl, ?_⟩; have n0_ := Aside0.mk (Kd.R_below (by (with_reducible repeat (first | apply Kd.R_alloc | apply Kd.R_drewN | apply Kd.R_drew)); exact HO_10.out) hb); have n1_ := Aside0.mk (below_step (by repeat (first | (with_reducible first | exact HB.out | apply below_alloc | apply pw_below_drewN | apply below_drew1) | exact HB.out)) hb); clear HO_10; clear HB; have HO_10 := n0_; have HB := n1_; clear n0_ n1_; (try clear hb); (try clear hb2); (try clear hk); (try clear hi); have p765 : 0 ≤ (x14_3 : Int) := of_decide_eq_true (by first | (with_reducible assumption) | assumption); have q765 : x14_3 < (l2.length : Int) := of_decide_eq_true (by first | (with_reducible assumption) | assumption); obtain ⟨ad765, e765, hx765_0, hx765_1, hx765_2, hx765_3⟩ := at_T57 HR2.out x14_3 p765 q765; obtain rfl : ad761 = ad765 := (by injection e765); replace hx765_0 := (HB.out.cell (World.block_lt_of_cell? w _ hx765_0)).trans hx765_0; replace hx765_1 := (HB.out.cell (World.block_lt_of_cell? w _ hx765_1)).trans hx765_1; replace hx765_2 := (HB.out.cell (World.block_lt_of_cell? w _ hx765_2)).trans hx765_2; replace hx765_3 := (HB.out.cell (World.block_lt_of_cell? w _ hx765_3)).trans hx765_3; replace p765 := eq_true p765; replace q765 := eq_true q765; obtain ⟨Ao45, co45, eo45⟩ := Kd.R_slice HO_10.out; subst eo45) | ((with_reducible refine gate_callee (f := 77) rfl ?_); refine goesL_ (some 91) rfl rfl Try.func77 (by kernel_rfl) rfl #[.slice Ao45 x10_3.length co45, .agg #[.string ((rd_T57 l2 x14_3).f0), .string ((rd_T57 l2 x14_3).f1), .int .i64 ((rd_T57 l2 x14_3).f2.f0), .int .i64 ((rd_T57 l2 x14_3).f2.f1)]] rfl (by (try simp only [List.map_toArray, List.map_cons, List.map_nil]); first | done | rfl | (simp only [List.length_drop, List.length_take]; rfl)) ?_; (with_reducible refine (ref08_put.calls k3 (fun k_ => some k_ = (.slice Ao45 x10_3.length co45 : Value).ownBlock) (.slice Ao45 x10_3.length co45) x10_3 ((rd_T57 l2 x14_3).f0) ((rd_T57 l2 x14_3).f1) ((rd_T57 l2 x14_3).f2.f0) ((rd_T57 l2 x14_3).f2.f1) t766 w _ ?side1 ?side2 A42.out).mono ?_); (case side1 => repeat (first | (with_reducible first | exact HB.out | apply below_alloc | apply pw_below_drewN | apply below_drew1) | exact HB.out)); (case side2 => exact Kd.R_tight rfl HO_10.out); rintro e w46 ⟨v767, rfl, ho0, hb, hkp⟩; refine ⟨_, rfl, ?_⟩; have n0_ := Aside0.mk (Kd.R_mono (ok' := fun k_ => True) ho0 (fun k_ hk_ => trivial)); have n1_ := Aside0.mk (hb); clear HB; clear HO_10; have HO768 := n0_; have HB := n1_; clear n0_ n1_; (try clear hb); (try clear hkp); (try clear ho0)))
             go_roundg k3
             case measure => have := HJ6.out; have := HK2.out; have := HK3.out; omega
             case rel => exact ⟨(t766), (wrap64 (x14_3 + 1)), (by first | rfl | (simp; done) | (simp [*]; done)), H', ⟨by have := HJ6.out; have := HK2.out; have := HK3.out; omega⟩, ⟨by (with_reducible repeat (first | apply Kd.R_alloc | apply Kd.R_drewN | apply Kd.R_drew)); exact HO768.out⟩, ⟨by repeat (first | (with_reducible first | exact HB.out | apply below_alloc | apply pw_below_drewN | apply below_drew1) | exact HB.out)⟩⟩
          ·rw [if_neg c33] at H
           exact absurd H (by simp)
         ·rw [if_neg c32] at H
          have c32b0 : decide (x14_3 < (l2.length : Int)) = false := decide_eq_false c32
          clear c32
          obtain rfl := Option.some.inj H
          go_wp2
          go_ret
          exact ⟨_, by first | rfl | (simp [errW_none, errW_some] <;> rfl) | (simp [*, errW_none, errW_some] <;> rfl), by (with_reducible repeat (first | apply Kd.R_alloc | apply Kd.R_drewN | apply Kd.R_drew)); exact HO_10.out, by repeat (first | (with_reducible first | exact HB.out | apply below_alloc | apply pw_below_drewN | apply below_drew1) | exact HB.out)⟩

end Go.Proofs.Ytannmdngejdjkaa.L
