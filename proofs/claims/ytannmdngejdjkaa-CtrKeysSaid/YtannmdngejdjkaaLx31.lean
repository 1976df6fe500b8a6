-- PRINTED by print.py (a twelfth state) out of the translation. Not trusted: Lean checks it.
import Derived.Test.YtannmdngejdjkaaLx0
import Derived.Test.YtannmdngejdjkaaLx21
import Derived.Test.YtannmdngejdjkaaLx22
import Derived.Test.YtannmdngejdjkaaLx23
import Derived.Test.YtannmdngejdjkaaLHCtrMerge
import Derived.Test.YtannmdngejdjkaaLHCtrGet
namespace Go.Proofs.Ytannmdngejdjkaa.L
open Go.RowKit Go.Proofs.YtannmdngejdjkaaW.PrintWords Go.Proofs.YtannmdngejdjkaaW.PrintLast Go.Proofs.YtannmdngejdjkaaW.PrintMore
attribute [local go_sem] max2_int min2_int max_two min_two max_three min_three max_four min_four   -- for this text's walks alone
set_option linter.unusedVariables false
set_option linter.unusedSimpArgs false

/-! ### law06_CtrKeys: function 13 -/
mutual
def law06_CtrKeys.j0 : Nat → List (S53) → List (S53) → List (S53) → ByteArray → Bool → Bool → Option (Bool)
 | 0, _, _, _, _, _, _ => none
 | k + 1, x0, x1, x2, x3, x9, x57 => if x57 = true then (some x9) else ((ctr_Merge.f x0 x1 x2).bind fun t621 => ((ctr_Get.f x1 x3).bind fun t624 => ((ctr_Get.f x2 x3).bind fun t625 => ((ctr_Get.f x0 x3).bind fun t626 => (law06_CtrKeys.l0 k x3 t621 (wrap64 ((wrap64 (t624 + t625)) - t626)) false 0)))))
def law06_CtrKeys.l0 : Nat → ByteArray → List (S53) → Int → Bool → Int → Option (Bool)
 | 0, _, _, _, _, _ => none
 | k + 1, x3, x13, x14, x15, x16 => if x16 < (x13.length : Int) then (if x15 = true then (law06_CtrKeys.l0 k x3 x13 x14 true (wrap64 (x16 + 1))) else (if 0 ≤ x16 then (law06_CtrKeys.l0 k x3 x13 x14 (((rd_T53 x13 x16).f0).toList == x3.toList) (wrap64 (x16 + 1))) else (none))) else ((ctr_Get.f x13 x3).bind fun t628 => (if t628 = x14 then (some (x15 == (x14 != 0))) else (some false)))
end
def law06_CtrKeys.f (k : Nat) (l0 : List (S53)) (l1 : List (S53)) (l2 : List (S53)) (a3 : ByteArray) : Option (Bool) := (law06_awake.f k).bind fun t614 => ((law06_Few.f k l0).bind fun t615 => ((law06_Few.f k l1).bind fun t616 => ((law06_Few.f k l2).bind fun t617 => (if t614 = true then (if t615 = true then (if t616 = true then (if t617 = true then ((ctr_May.f k l0).bind fun t618 => (if t618 = true then ((ctr_May.f k l1).bind fun t619 => (if t619 = true then ((ctr_May.f k l2).bind fun t620 => (if t620 = true then (law06_CtrKeys.j0 k l0 l1 l2 a3 t614 (decide ((a3.size : Int) > 100))) else (law06_CtrKeys.j0 k l0 l1 l2 a3 t614 true))) else (law06_CtrKeys.j0 k l0 l1 l2 a3 t614 true))) else (law06_CtrKeys.j0 k l0 l1 l2 a3 t614 true))) else (law06_CtrKeys.j0 k l0 l1 l2 a3 t614 true)) else (law06_CtrKeys.j0 k l0 l1 l2 a3 t614 true)) else (law06_CtrKeys.j0 k l0 l1 l2 a3 t614 true)) else (law06_CtrKeys.j0 k l0 l1 l2 a3 t614 true)))))
theorem law06_CtrKeys.mono_l : ∀ k, (∀ y0 y1 y2 y3 y4 y5, LeO (law06_CtrKeys.j0 k y0 y1 y2 y3 y4 y5) (law06_CtrKeys.j0 (k + 1) y0 y1 y2 y3 y4 y5)) ∧ (∀ y0 y1 y2 y3 y4, LeO (law06_CtrKeys.l0 k y0 y1 y2 y3 y4) (law06_CtrKeys.l0 (k + 1) y0 y1 y2 y3 y4))
 | 0 => ⟨fun _ _ _ _ _ _ r h => by simp [law06_CtrKeys.j0] at h, fun _ _ _ _ _ r h => by simp [law06_CtrKeys.l0] at h⟩
 | k + 1 => by
  obtain ⟨ih0, ih1⟩ := law06_CtrKeys.mono_l k
  refine ⟨?_, ?_⟩
  ·intro y0 y1 y2 y3 y4 y5
   unfold law06_CtrKeys.j0
   repeat' first
   | (with_reducible exact ih0 _ _ _ _ _ _)
   | (with_reducible exact ih1 _ _ _ _ _)
   | (with_reducible exact ctr_May.mono _ _)
   | (with_reducible exact law06_Few.mono _ _)
   | (with_reducible exact law06_awake.mono _)
   | (with_reducible exact LeO.refl _)
   | (with_reducible exact LeO.none _)
   | (with_reducible refine LeO.ite ?_ ?_)
   | (with_reducible refine LeO.bind ?_ (fun _ => ?_))
   | exact ih0 _ _ _ _ _ _
   | exact ih1 _ _ _ _ _
   | exact ctr_May.mono _ _
   | exact law06_Few.mono _ _
   | exact law06_awake.mono _
   | exact LeO.none _
   | refine LeO.ite ?_ ?_
   | refine LeO.bind ?_ (fun _ => ?_)
  ·intro y0 y1 y2 y3 y4
   unfold law06_CtrKeys.l0
   repeat' first
   | (with_reducible exact ih0 _ _ _ _ _ _)
   | (with_reducible exact ih1 _ _ _ _ _)
   | (with_reducible exact ctr_May.mono _ _)
   | (with_reducible exact law06_Few.mono _ _)
   | (with_reducible exact law06_awake.mono _)
   | (with_reducible exact LeO.refl _)
   | (with_reducible exact LeO.none _)
   | (with_reducible refine LeO.ite ?_ ?_)
   | (with_reducible refine LeO.bind ?_ (fun _ => ?_))
   | exact ih0 _ _ _ _ _ _
   | exact ih1 _ _ _ _ _
   | exact ctr_May.mono _ _
   | exact law06_Few.mono _ _
   | exact law06_awake.mono _
   | exact LeO.none _
   | refine LeO.ite ?_ ?_
   | refine LeO.bind ?_ (fun _ => ?_)
theorem law06_CtrKeys.mono : ∀ a0 a1 a2 a3 k, LeO (law06_CtrKeys.f k a0 a1 a2 a3) (law06_CtrKeys.f (k + 1) a0 a1 a2 a3) := by
 intro a0 a1 a2 a3 k
 obtain ⟨ih0, ih1⟩ := law06_CtrKeys.mono_l k
 unfold law06_CtrKeys.f
 repeat' first
   | (with_reducible exact ih0 _ _ _ _ _ _)
   | (with_reducible exact ih1 _ _ _ _ _)
   | (with_reducible exact ctr_May.mono _ _)
   | (with_reducible exact law06_Few.mono _ _)
   | (with_reducible exact law06_awake.mono _)
   | (with_reducible exact LeO.refl _)
   | (with_reducible exact LeO.none _)
   | (with_reducible refine LeO.ite ?_ ?_)
   | (with_reducible refine LeO.bind ?_ (fun _ => ?_))
   | exact ih0 _ _ _ _ _ _
   | exact ih1 _ _ _ _ _
   | exact ctr_May.mono _ _
   | exact law06_Few.mono _ _
   | exact law06_awake.mono _
   | exact LeO.none _
   | refine LeO.ite ?_ ?_
   | refine LeO.bind ?_ (fun _ => ?_)
set_option maxHeartbeats 8000000 in
set_option maxRecDepth 100000 in
theorem law06_CtrKeys.calls (k : Nat) (A0 : Option Addr) (c0 : Nat) (l0 : List (S53)) (A1 : Option Addr) (c1 : Nat) (l1 : List (S53)) (A2 : Option Addr) (c2 : Nat) (l2 : List (S53)) (a3 : ByteArray) (r : Bool) (w : World) (hr0 : Kd.C k53 w A0 l0.length l0) (hc0 : l0.length ≤ c0) (hr1 : Kd.C k53 w A1 l1.length l1) (hc1 : l1.length ≤ c1) (hr2 : Kd.C k53 w A2 l2.length l2) (hc2 : l2.length ≤ c2) (h : law06_CtrKeys.f k l0 l1 l2 a3 = some r) :
  Calls Try.prog 13 #[.slice A0 l0.length c0, .slice A1 l1.length c1, .slice A2 l2.length c2, .string a3] w fun e w' => e = .returned (.bool r) ∧ Below w.heap.size w w' := by
 have HR0 := Aside0.mk hr0
 have HC0 := Aside0.mk hc0
 clear hr0 hc0
 have HR1 := Aside0.mk hr1
 have HC1 := Aside0.mk hc1
 clear hr1 hc1
 have HR2 := Aside0.mk hr2
 have HC2 := Aside0.mk hc2
 clear hr2 hc2
 have HB := Aside0.mk (Below.refl w.heap.size w)
 have H : ((law06_awake.f k).bind fun t614 => ((law06_Few.f k l0).bind fun t615 => ((law06_Few.f k l1).bind fun t616 => ((law06_Few.f k l2).bind fun t617 => (if t614 = true then (if t615 = true then (if t616 = true then (if t617 = true then ((ctr_May.f k l0).bind fun t618 => (if t618 = true then ((ctr_May.f k l1).bind fun t619 => (if t619 = true then ((ctr_May.f k l2).bind fun t620 => (if t620 = true then (law06_CtrKeys.j0 k l0 l1 l2 a3 t614 (decide ((a3.size : Int) > 100))) else (law06_CtrKeys.j0 k l0 l1 l2 a3 t614 true))) else (law06_CtrKeys.j0 k l0 l1 l2 a3 t614 true))) else (law06_CtrKeys.j0 k l0 l1 l2 a3 t614 true))) else (law06_CtrKeys.j0 k l0 l1 l2 a3 t614 true)) else (law06_CtrKeys.j0 k l0 l1 l2 a3 t614 true)) else (law06_CtrKeys.j0 k l0 l1 l2 a3 t614 true)) else (law06_CtrKeys.j0 k l0 l1 l2 a3 t614 true)))))) = some r := h
 clear h
 replace H := Option.bind_eq_some_iff.mp H
 obtain ⟨t614, A50, H⟩ := H
 replace H : ((law06_Few.f k l0).bind fun t615 => ((law06_Few.f k l1).bind fun t616 => ((law06_Few.f k l2).bind fun t617 => (if t614 = true then (if t615 = true then (if t616 = true then (if t617 = true then ((ctr_May.f k l0).bind fun t618 => (if t618 = true then ((ctr_May.f k l1).bind fun t619 => (if t619 = true then ((ctr_May.f k l2).bind fun t620 => (if t620 = true then (law06_CtrKeys.j0 k l0 l1 l2 a3 t614 (decide ((a3.size : Int) > 100))) else (law06_CtrKeys.j0 k l0 l1 l2 a3 t614 true))) else (law06_CtrKeys.j0 k l0 l1 l2 a3 t614 true))) else (law06_CtrKeys.j0 k l0 l1 l2 a3 t614 true))) else (law06_CtrKeys.j0 k l0 l1 l2 a3 t614 true)) else (law06_CtrKeys.j0 k l0 l1 l2 a3 t614 true)) else (law06_CtrKeys.j0 k l0 l1 l2 a3 t614 true)) else (law06_CtrKeys.j0 k l0 l1 l2 a3 t614 true))))) = some r := H
 have A5 := Aside0.mk A50
 clear A50
 replace H := Option.bind_eq_some_iff.mp H
 obtain ⟨t615, A60, H⟩ := H
 replace H : ((law06_Few.f k l1).bind fun t616 => ((law06_Few.f k l2).bind fun t617 => (if t614 = true then (if t615 = true then (if t616 = true then (if t617 = true then ((ctr_May.f k l0).bind fun t618 => (if t618 = true then ((ctr_May.f k l1).bind fun t619 => (if t619 = true then ((ctr_May.f k l2).bind fun t620 => (if t620 = true then (law06_CtrKeys.j0 k l0 l1 l2 a3 t614 (decide ((a3.size : Int) > 100))) else (law06_CtrKeys.j0 k l0 l1 l2 a3 t614 true))) else (law06_CtrKeys.j0 k l0 l1 l2 a3 t614 true))) else (law06_CtrKeys.j0 k l0 l1 l2 a3 t614 true))) else (law06_CtrKeys.j0 k l0 l1 l2 a3 t614 true)) else (law06_CtrKeys.j0 k l0 l1 l2 a3 t614 true)) else (law06_CtrKeys.j0 k l0 l1 l2 a3 t614 true)) else (law06_CtrKeys.j0 k l0 l1 l2 a3 t614 true)))) = some r := H
 have A6 := Aside0.mk A60
 clear A60
 replace H := Option.bind_eq_some_iff.mp H
 obtain ⟨t616, A70, H⟩ := H
 replace H : ((law06_Few.f k l2).bind fun t617 => (if t614 = true then (if t615 = true then (if t616 = true then (if t617 = true then ((ctr_May.f k l0).bind fun t618 => (if t618 = true then ((ctr_May.f k l1).bind fun t619 => (if t619 = true then ((ctr_May.f k l2).bind fun t620 => (if t620 = true then (law06_CtrKeys.j0 k l0 l1 l2 a3 t614 (decide ((a3.size : Int) > 100))) else (law06_CtrKeys.j0 k l0 l1 l2 a3 t614 true))) else (law06_CtrKeys.j0 k l0 l1 l2 a3 t614 true))) else (law06_CtrKeys.j0 k l0 l1 l2 a3 t614 true))) else (law06_CtrKeys.j0 k l0 l1 l2 a3 t614 true)) else (law06_CtrKeys.j0 k l0 l1 l2 a3 t614 true)) else (law06_CtrKeys.j0 k l0 l1 l2 a3 t614 true)) else (law06_CtrKeys.j0 k l0 l1 l2 a3 t614 true))) = some r := H
 have A7 := Aside0.mk A70
 clear A70
 replace H := Option.bind_eq_some_iff.mp H
 obtain ⟨t617, A80, H⟩ := H
 replace H : (if t614 = true then (if t615 = true then (if t616 = true then (if t617 = true then ((ctr_May.f k l0).bind fun t618 => (if t618 = true then ((ctr_May.f k l1).bind fun t619 => (if t619 = true then ((ctr_May.f k l2).bind fun t620 => (if t620 = true then (law06_CtrKeys.j0 k l0 l1 l2 a3 t614 (decide ((a3.size : Int) > 100))) else (law06_CtrKeys.j0 k l0 l1 l2 a3 t614 true))) else (law06_CtrKeys.j0 k l0 l1 l2 a3 t614 true))) else (law06_CtrKeys.j0 k l0 l1 l2 a3 t614 true))) else (law06_CtrKeys.j0 k l0 l1 l2 a3 t614 true)) else (law06_CtrKeys.j0 k l0 l1 l2 a3 t614 true)) else (law06_CtrKeys.j0 k l0 l1 l2 a3 t614 true)) else (law06_CtrKeys.j0 k l0 l1 l2 a3 t614 true)) = some r := H
 have A8 := Aside0.mk A80
 clear A80
 have HC9 := Aside0.mk H
 clear H
 go_enter Try.func13, Try.ntmps13
 go_upto_region 5 with (first | ((with_reducible refine gate_callee (f := 33) rfl ?_); refine goesL_ (some 17) rfl rfl Try.func33 (by kernel_rfl) rfl #[] rfl (by (try simp only [List.map_toArray, List.map_cons, List.map_nil]); first | done | rfl | (simp only [List.length_drop, List.length_take]; rfl)) ?_; (with_reducible refine (law06_awake.calls k  t614 _ A5.out).mono ?_); rintro e w10 ⟨rfl, hb⟩; refine ⟨_, rfl, ?_⟩; have n0_ := Aside0.mk (below_step (by repeat (first | (with_reducible first | exact HB.out | apply below_alloc | apply pw_below_drewN | apply below_drew1) | exact HB.out)) hb); clear HB; have HB := n0_; clear n0_; (try clear hb); (try clear hb2); (try clear hk); (try clear hi)) | ((with_reducible refine gate_callee (f := 34) rfl ?_); refine goesL_ (some 19) rfl rfl Try.func34 (by kernel_rfl) rfl #[.slice A0 l0.length c0] rfl (by (try simp only [List.map_toArray, List.map_cons, List.map_nil]); first | done | rfl | (simp only [List.length_drop, List.length_take]; rfl)) ?_; (with_reducible refine (law06_Few.calls k _ _ l0 t615 _ ?side1 ?side2 A6.out).mono ?_); (case side1 => repeat (first | exact (Kd.C_below HR0.out HB.out) | (with_reducible refine Kd.C_alloc ?_ _) | (with_reducible refine Kd.C_drewN ?_ _) | (with_reducible refine Kd.C_drew ?_))); (case side2 => exact HC0.out); rintro e w' ⟨rfl, ⟨nd, rfl⟩⟩; refine ⟨_, rfl, ?_⟩) | ((with_reducible refine gate_callee (f := 34) rfl ?_); refine goesL_ (some 21) rfl rfl Try.func34 (by kernel_rfl) rfl #[.slice A1 l1.length c1] rfl (by (try simp only [List.map_toArray, List.map_cons, List.map_nil]); first | done | rfl | (simp only [List.length_drop, List.length_take]; rfl)) ?_; (with_reducible refine (law06_Few.calls k _ _ l1 t616 _ ?side1 ?side2 A7.out).mono ?_); (case side1 => repeat (first | exact (Kd.C_below HR1.out (by repeat (first | (with_reducible first | exact HB.out | apply below_alloc | apply pw_below_drewN | apply below_drew1) | exact HB.out))) | (with_reducible refine Kd.C_alloc ?_ _) | (with_reducible refine Kd.C_drewN ?_ _) | (with_reducible refine Kd.C_drew ?_))); (case side2 => exact HC1.out); rintro e w' ⟨rfl, ⟨nd, rfl⟩⟩; refine ⟨_, rfl, ?_⟩) | ((with_reducible refine gate_callee (f := 34) rfl ?_); refine goesL_ (some 23) rfl rfl Try.func34 (by kernel_rfl) rfl #[.slice A2 l2.length c2] rfl (by (try simp only [List.map_toArray, List.map_cons, List.map_nil]); first | done | rfl | (simp only [List.length_drop, List.length_take]; rfl)) ?_; (with_reducible refine (law06_Few.calls k _ _ l2 t617 _ ?side1 ?side2 A8.out).mono ?_); (case side1 => repeat (first | exact (Kd.C_below HR2.out (by repeat (first | (with_reducible first | exact HB.out | apply below_alloc | apply pw_below_drewN | apply below_drew1) | exact HB.out))) | (with_reducible refine Kd.C_alloc ?_ _) | (with_reducible refine Kd.C_drewN ?_ _) | (with_reducible refine Kd.C_drew ?_))); (case side2 => exact HC2.out); rintro e w' ⟨rfl, ⟨nd, rfl⟩⟩; refine ⟨_, rfl, ?_⟩))
 (try simp only [Act.put, List.setIfInBounds_toArray, List.set_cons_zero, List.set_cons_succ])
 go_cut [57] (fun v57 wc => ∃ (kq : Nat) (x57_8 : Bool), v57 = .bool x57_8 ∧ Aside0 (law06_CtrKeys.j0 kq l0 l1 l2 a3 t614 x57_8 = some r) ∧ Aside0 (kq ≤ k) ∧ Aside0 (Below w.heap.size w wc))
 case first =>
  have H := HC9.out
  clear HC9
  by_cases c11 : t614 = true
  ·subst c11
   have H1 : (if t615 = true then (if t616 = true then (if t617 = true then ((ctr_May.f k l0).bind fun t618 => (if t618 = true then ((ctr_May.f k l1).bind fun t619 => (if t619 = true then ((ctr_May.f k l2).bind fun t620 => (if t620 = true then (law06_CtrKeys.j0 k l0 l1 l2 a3 true (decide ((a3.size : Int) > 100))) else (law06_CtrKeys.j0 k l0 l1 l2 a3 true true))) else (law06_CtrKeys.j0 k l0 l1 l2 a3 true true))) else (law06_CtrKeys.j0 k l0 l1 l2 a3 true true))) else (law06_CtrKeys.j0 k l0 l1 l2 a3 true true)) else (law06_CtrKeys.j0 k l0 l1 l2 a3 true true)) else (law06_CtrKeys.j0 k l0 l1 l2 a3 true true)) = some r := by rw [if_pos rfl] at H; exact H
   clear H
   have H := H1
   clear H1
   by_cases c12 : t615 = true
   ·subst c12
    have H1 : (if t616 = true then (if t617 = true then ((ctr_May.f k l0).bind fun t618 => (if t618 = true then ((ctr_May.f k l1).bind fun t619 => (if t619 = true then ((ctr_May.f k l2).bind fun t620 => (if t620 = true then (law06_CtrKeys.j0 k l0 l1 l2 a3 true (decide ((a3.size : Int) > 100))) else (law06_CtrKeys.j0 k l0 l1 l2 a3 true true))) else (law06_CtrKeys.j0 k l0 l1 l2 a3 true true))) else (law06_CtrKeys.j0 k l0 l1 l2 a3 true true))) else (law06_CtrKeys.j0 k l0 l1 l2 a3 true true)) else (law06_CtrKeys.j0 k l0 l1 l2 a3 true true)) = some r := by rw [if_pos rfl] at H; exact H
    clear H
    have H := H1
    clear H1
    by_cases c13 : t616 = true
    ·subst c13
     have H1 : (if t617 = true then ((ctr_May.f k l0).bind fun t618 => (if t618 = true then ((ctr_May.f k l1).bind fun t619 => (if t619 = true then ((ctr_May.f k l2).bind fun t620 => (if t620 = true then (law06_CtrKeys.j0 k l0 l1 l2 a3 true (decide ((a3.size : Int) > 100))) else (law06_CtrKeys.j0 k l0 l1 l2 a3 true true))) else (law06_CtrKeys.j0 k l0 l1 l2 a3 true true))) else (law06_CtrKeys.j0 k l0 l1 l2 a3 true true))) else (law06_CtrKeys.j0 k l0 l1 l2 a3 true true)) = some r := by rw [if_pos rfl] at H; exact H
     clear H
     have H := H1
     clear H1
     by_cases c14 : t617 = true
     ·subst c14
      have H1 : ((ctr_May.f k l0).bind fun t618 => (if t618 = true then ((ctr_May.f k l1).bind fun t619 => (if t619 = true then ((ctr_May.f k l2).bind fun t620 => (if t620 = true then (law06_CtrKeys.j0 k l0 l1 l2 a3 true (decide ((a3.size : Int) > 100))) else (law06_CtrKeys.j0 k l0 l1 l2 a3 true true))) else (law06_CtrKeys.j0 k l0 l1 l2 a3 true true))) else (law06_CtrKeys.j0 k l0 l1 l2 a3 true true))) = some r := by rw [if_pos rfl] at H; exact H
      clear H
      have H := H1
      clear H1
      replace H := Option.bind_eq_some_iff.mp H
      obtain ⟨t618, A150, H⟩ := H
      replace H : (if t618 = true then ((ctr_May.f k l1).bind fun t619 => (if t619 = true then ((ctr_May.f k l2).bind fun t620 => (if t620 = true then (law06_CtrKeys.j0 k l0 l1 l2 a3 true (decide ((a3.size : Int) > 100))) else (law06_CtrKeys.j0 k l0 l1 l2 a3 true true))) else (law06_CtrKeys.j0 k l0 l1 l2 a3 true true))) else (law06_CtrKeys.j0 k l0 l1 l2 a3 true true)) = some r := H
      have A15 := Aside0.mk A150
      clear A150
      by_cases c16 : t618 = true
      ·subst c16
       have H1 : ((ctr_May.f k l1).bind fun t619 => (if t619 = true then ((ctr_May.f k l2).bind fun t620 => (if t620 = true then (law06_CtrKeys.j0 k l0 l1 l2 a3 true (decide ((a3.size : Int) > 100))) else (law06_CtrKeys.j0 k l0 l1 l2 a3 true true))) else (law06_CtrKeys.j0 k l0 l1 l2 a3 true true))) = some r := by rw [if_pos rfl] at H; exact H
       clear H
       have H := H1
       clear H1
       replace H := Option.bind_eq_some_iff.mp H
       obtain ⟨t619, A170, H⟩ := H
       replace H : (if t619 = true then ((ctr_May.f k l2).bind fun t620 => (if t620 = true then (law06_CtrKeys.j0 k l0 l1 l2 a3 true (decide ((a3.size : Int) > 100))) else (law06_CtrKeys.j0 k l0 l1 l2 a3 true true))) else (law06_CtrKeys.j0 k l0 l1 l2 a3 true true)) = some r := H
       have A17 := Aside0.mk A170
       clear A170
       by_cases c18 : t619 = true
       ·subst c18
        have H1 : ((ctr_May.f k l2).bind fun t620 => (if t620 = true then (law06_CtrKeys.j0 k l0 l1 l2 a3 true (decide ((a3.size : Int) > 100))) else (law06_CtrKeys.j0 k l0 l1 l2 a3 true true))) = some r := by rw [if_pos rfl] at H; exact H
        clear H
        have H := H1
        clear H1
        replace H := Option.bind_eq_some_iff.mp H
        obtain ⟨t620, A190, H⟩ := H
        replace H : (if t620 = true then (law06_CtrKeys.j0 k l0 l1 l2 a3 true (decide ((a3.size : Int) > 100))) else (law06_CtrKeys.j0 k l0 l1 l2 a3 true true)) = some r := H
        have A19 := Aside0.mk A190
        clear A190
        by_cases c20 : t620 = true
        ·subst c20
         have H1 : (law06_CtrKeys.j0 k l0 l1 l2 a3 true (decide ((a3.size : Int) > 100))) = some r := by rw [if_pos rfl] at H; exact H
         clear H
         have H := H1
         clear H1
         have H' := Aside0.mk H
         clear H
         go_wp2_with (first | (go_at_call 41; (with_reducible refine (ctr_May.calls k _ _ l0 true _ ?side1 ?side2 A15.out).mono ?_); (case side1 => repeat (first | exact (Kd.C_below HR0.out HB.out) | (with_reducible refine Kd.C_alloc ?_ _) | (with_reducible refine Kd.C_drewN ?_ _) | (with_reducible refine Kd.C_drew ?_))); (case side2 => exact HC0.out); rintro e w21 ⟨rfl, hb⟩; have n0_ := Aside0.mk (below_step (by repeat (first | (with_reducible first | exact HB.out | apply below_alloc | apply pw_below_drewN | apply below_drew1) | exact HB.out)) hb); clear HB; have HB := n0_; clear n0_; (try clear hb); (try clear hb2); (try clear hk); (try clear hi)) | (go_at_call 41; (with_reducible refine (ctr_May.calls k _ _ l1 true _ ?side1 ?side2 A17.out).mono ?_); (case side1 => repeat (first | exact (Kd.C_below HR1.out HB.out) | (with_reducible refine Kd.C_alloc ?_ _) | (with_reducible refine Kd.C_drewN ?_ _) | (with_reducible refine Kd.C_drew ?_))); (case side2 => exact HC1.out); rintro e w22 ⟨rfl, hb⟩; have n0_ := Aside0.mk (below_step (by repeat (first | (with_reducible first | exact HB.out | apply below_alloc | apply pw_below_drewN | apply below_drew1) | exact HB.out)) hb); clear HB; have HB := n0_; clear n0_; (try clear hb); (try clear hb2); (try clear hk); (try clear hi)) | (go_at_call 41; (with_reducible refine (ctr_May.calls k _ _ l2 true _ ?side1 ?side2 A19.out).mono ?_); (case side1 => repeat (first | exact (Kd.C_below HR2.out HB.out) | (with_reducible refine Kd.C_alloc ?_ _) | (with_reducible refine Kd.C_drewN ?_ _) | (with_reducible refine Kd.C_drew ?_))); (case side2 => exact HC2.out); rintro e w23 ⟨rfl, hb⟩; have n0_ := Aside0.mk (below_step (by repeat (first | (with_reducible first | exact HB.out | apply below_alloc | apply pw_below_drewN | apply below_drew1) | exact HB.out)) hb); clear HB; have HB := n0_; clear n0_; (try clear hb); (try clear hb2); (try clear hk); (try clear hi)))
         go_meet
         case rel => exact ⟨_, (decide ((a3.size : Int) > 100)), (by first | rfl | (simp; done) | (simp [*]; done)), H', ⟨by first | omega | exact Nat.le_refl _⟩, ⟨by repeat (first | (with_reducible first | exact HB.out | apply below_alloc | apply pw_below_drewN | apply below_drew1) | exact HB.out)⟩⟩
        ·replace c20 := Bool.eq_false_iff.mpr c20
         subst c20
         have H1 : (law06_CtrKeys.j0 k l0 l1 l2 a3 true true) = some r := by rw [if_neg (show ¬ (false = true) by decide)] at H; exact H
         clear H
         have H := H1
         clear H1
         have H' := Aside0.mk H
         clear H
         go_wp2_with (first | (go_at_call 41; (with_reducible refine (ctr_May.calls k _ _ l0 true _ ?side1 ?side2 A15.out).mono ?_); (case side1 => repeat (first | exact (Kd.C_below HR0.out HB.out) | (with_reducible refine Kd.C_alloc ?_ _) | (with_reducible refine Kd.C_drewN ?_ _) | (with_reducible refine Kd.C_drew ?_))); (case side2 => exact HC0.out); rintro e w24 ⟨rfl, hb⟩; have n0_ := Aside0.mk (below_step (by repeat (first | (with_reducible first | exact HB.out | apply below_alloc | apply pw_below_drewN | apply below_drew1) | exact HB.out)) hb); clear HB; have HB := n0_; clear n0_; (try clear hb); (try clear hb2); (try clear hk); (try clear hi)) | (go_at_call 41; (with_reducible refine (ctr_May.calls k _ _ l1 true _ ?side1 ?side2 A17.out).mono ?_); (case side1 => repeat (first | exact (Kd.C_below HR1.out HB.out) | (with_reducible refine Kd.C_alloc ?_ _) | (with_reducible refine Kd.C_drewN ?_ _) | (with_reducible refine Kd.C_drew ?_))); (case side2 => exact HC1.out); rintro e w25 ⟨rfl, hb⟩; have n0_ := Aside0.mk (below_step (by repeat (first | (with_reducible first | exact HB.out | apply below_alloc | apply pw_below_drewN | apply below_drew1) | exact HB.out)) hb); clear HB; have HB := n0_; clear n0_; (try clear hb); (try clear hb2); (try clear hk); (try clear hi)) | (go_at_call 41; (with_reducible refine (ctr_May.calls k _ _ l2 false _ ?side1 ?side2 A19.out).mono ?_); (case side1 => repeat (first | exact (Kd.C_below HR2.out HB.out) | (with_reducible refine Kd.C_alloc ?_ _) | (with_reducible refine Kd.C_drewN ?_ _) | (with_reducible refine Kd.C_drew ?_))); (case side2 => exact HC2.out); rintro e w26 ⟨rfl, hb⟩; have n0_ := Aside0.mk (below_step (by repeat (first | (with_reducible first | exact HB.out | apply below_alloc | apply pw_below_drewN | apply below_drew1) | exact HB.out)) hb); clear HB; have HB := n0_; clear n0_; (try clear hb); (try clear hb2); (try clear hk); (try clear hi)))
         go_meet
         case rel => exact ⟨_, (true), (by first | rfl | (simp; done) | (simp [*]; done)), H', ⟨by first | omega | exact Nat.le_refl _⟩, ⟨by repeat (first | (with_reducible first | exact HB.out | apply below_alloc | apply pw_below_drewN | apply below_drew1) | exact HB.out)⟩⟩
       ·replace c18 := Bool.eq_false_iff.mpr c18
        subst c18
        have H1 : (law06_CtrKeys.j0 k l0 l1 l2 a3 true true) = some r := by rw [if_neg (show ¬ (false = true) by decide)] at H; exact H
        clear H
        have H := H1
        clear H1
        have H' := Aside0.mk H
        clear H
        go_wp2_with (first | (go_at_call 41; (with_reducible refine (ctr_May.calls k _ _ l0 true _ ?side1 ?side2 A15.out).mono ?_); (case side1 => repeat (first | exact (Kd.C_below HR0.out HB.out) | (with_reducible refine Kd.C_alloc ?_ _) | (with_reducible refine Kd.C_drewN ?_ _) | (with_reducible refine Kd.C_drew ?_))); (case side2 => exact HC0.out); rintro e w27 ⟨rfl, hb⟩; have n0_ := Aside0.mk (below_step (by repeat (first | (with_reducible first | exact HB.out | apply below_alloc | apply pw_below_drewN | apply below_drew1) | exact HB.out)) hb); clear HB; have HB := n0_; clear n0_; (try clear hb); (try clear hb2); (try clear hk); (try clear hi)) | (go_at_call 41; (with_reducible refine (ctr_May.calls k _ _ l1 false _ ?side1 ?side2 A17.out).mono ?_); (case side1 => repeat (first | exact (Kd.C_below HR1.out HB.out) | (with_reducible refine Kd.C_alloc ?_ _) | (with_reducible refine Kd.C_drewN ?_ _) | (with_reducible refine Kd.C_drew ?_))); (case side2 => exact HC1.out); rintro e w28 ⟨rfl, hb⟩; have n0_ := Aside0.mk (below_step (by repeat (first | (with_reducible first | exact HB.out | apply below_alloc | apply pw_below_drewN | apply below_drew1) | exact HB.out)) hb); clear HB; have HB := n0_; clear n0_; (try clear hb); (try clear hb2); (try clear hk); (try clear hi)))
        go_meet
        case rel => exact ⟨_, (true), (by first | rfl | (simp; done) | (simp [*]; done)), H', ⟨by first | omega | exact Nat.le_refl _⟩, ⟨by repeat (first | (with_reducible first | exact HB.out | apply below_alloc | apply pw_below_drewN | apply below_drew1) | exact HB.out)⟩⟩
      ·replace c16 := Bool.eq_false_iff.mpr c16
       subst c16
       have H1 : (law06_CtrKeys.j0 k l0 l1 l2 a3 true true) = some r := by rw [if_neg (show ¬ (false = true) by decide)] at H; exact H
       clear H
       have H := H1
       clear H1
       have H' := Aside0.mk H
       clear H
       go_wp2_with (first | (go_at_call 41; (with_reducible refine (ctr_May.calls k _ _ l0 false _ ?side1 ?side2 A15.out).mono ?_); (case side1 => repeat (first | exact (Kd.C_below HR0.out HB.out) | (with_reducible refine Kd.C_alloc ?_ _) | (with_reducible refine Kd.C_drewN ?_ _) | (with_reducible refine Kd.C_drew ?_))); (case side2 => exact HC0.out); rintro e w29 ⟨rfl, hb⟩; have n0_ := Aside0.mk (below_step (by repeat (first | (with_reducible first | exact HB.out | apply below_alloc | apply pw_below_drewN | apply below_drew1) | exact HB.out)) hb); clear HB; have HB := n0_; clear n0_; (try clear hb); (try clear hb2); (try clear hk); (try clear hi)))
       go_meet
       case rel => exact ⟨_, (true), (by first | rfl | (simp; done) | (simp [*]; done)), H', ⟨by first | omega | exact Nat.le_refl _⟩, ⟨by repeat (first | (with_reducible first | exact HB.out | apply below_alloc | apply pw_below_drewN | apply below_drew1) | exact HB.out)⟩⟩
     ·replace c14 := Bool.eq_false_iff.mpr c14
      subst c14
      have H1 : (law06_CtrKeys.j0 k l0 l1 l2 a3 true true) = some r := by rw [if_neg (show ¬ (false = true) by decide)] at H; exact H
      clear H
      have H := H1
      clear H1
      have H' := Aside0.mk H
      clear H
      go_wp2
      go_meet
      case rel => exact ⟨_, (true), (by first | rfl | (simp; done) | (simp [*]; done)), H', ⟨by first | omega | exact Nat.le_refl _⟩, ⟨by repeat (first | (with_reducible first | exact HB.out | apply below_alloc | apply pw_below_drewN | apply below_drew1) | exact HB.out)⟩⟩
    ·replace c13 := Bool.eq_false_iff.mpr c13
     subst c13
     have H1 : (law06_CtrKeys.j0 k l0 l1 l2 a3 true true) = some r := by rw [if_neg (show ¬ (false = true) by decide)] at H; exact H
     clear H
     have H := H1
     clear H1
     have H' := Aside0.mk H
     clear H
     go_wp2
     go_meet
     case rel => exact ⟨_, (true), (by first | rfl | (simp; done) | (simp [*]; done)), H', ⟨by first | omega | exact Nat.le_refl _⟩, ⟨by repeat (first | (with_reducible first | exact HB.out | apply below_alloc | apply pw_below_drewN | apply below_drew1) | exact HB.out)⟩⟩
   ·replace c12 := Bool.eq_false_iff.mpr c12
    subst c12
    have H1 : (law06_CtrKeys.j0 k l0 l1 l2 a3 true true) = some r := by rw [if_neg (show ¬ (false = true) by decide)] at H; exact H
    clear H
    have H := H1
    clear H1
    have H' := Aside0.mk H
    clear H
    go_wp2
    go_meet
    case rel => exact ⟨_, (true), (by first | rfl | (simp; done) | (simp [*]; done)), H', ⟨by first | omega | exact Nat.le_refl _⟩, ⟨by repeat (first | (with_reducible first | exact HB.out | apply below_alloc | apply pw_below_drewN | apply below_drew1) | exact HB.out)⟩⟩
  ·replace c11 := Bool.eq_false_iff.mpr c11
   subst c11
   have H1 : (law06_CtrKeys.j0 k l0 l1 l2 a3 false true) = some r := by rw [if_neg (show ¬ (false = true) by decide)] at H; exact H
   clear H
   have H := H1
   clear H1
   have H' := Aside0.mk H
   clear H
   go_wp2
   go_meet
   case rel => exact ⟨_, (true), (by first | rfl | (simp; done) | (simp [*]; done)), H', ⟨by first | omega | exact Nat.le_refl _⟩, ⟨by repeat (first | (with_reducible first | exact HB.out | apply below_alloc | apply pw_below_drewN | apply below_drew1) | exact HB.out)⟩⟩
 case rest =>
  clear HC9
  try clear c1
  try clear c2
  try clear p2
  try clear c3
  try clear c11
  try clear c12
  try clear c13
  try clear c14
  try clear c16
  try clear c18
  try clear c20
  obtain ⟨kq, x57_8, rfl, HA, HJ8, HB⟩ := hcut
  cases kq with
  | zero => exact absurd HA.out (by simp [law06_CtrKeys.j0])
  | succ kj8 =>
   have H := HA.out
   clear HA
   simp only [law06_CtrKeys.j0] at H
   by_cases c30 : x57_8 = true
   ·subst c30
    have H1 : (some t614) = some r := by rw [if_pos rfl] at H; exact H
    clear H
    have H := H1
    clear H1
    obtain rfl := Option.some.inj H
    go_wp2
    go_ret
    exact ⟨by first | rfl | (simp [errW_none, errW_some] <;> rfl) | (simp [*, errW_none, errW_some] <;> rfl), by repeat (first | (with_reducible first | exact HB.out | apply below_alloc | apply pw_below_drewN | apply below_drew1) | exact HB.out)⟩
   ·replace c30 := Bool.eq_false_iff.mpr c30
    subst c30
    have H1 : ((ctr_Merge.f l0 l1 l2).bind fun t621 => ((ctr_Get.f l1 a3).bind fun t624 => ((ctr_Get.f l2 a3).bind fun t625 => ((ctr_Get.f l0 a3).bind fun t626 => (law06_CtrKeys.l0 kj8 a3 t621 (wrap64 ((wrap64 (t624 + t625)) - t626)) false 0))))) = some r := by rw [if_neg (show ¬ (false = true) by decide)] at H; exact H
    clear H
    have H := H1
    clear H1
    replace H := Option.bind_eq_some_iff.mp H
    obtain ⟨t621, A310, H⟩ := H
    replace H : ((ctr_Get.f l1 a3).bind fun t624 => ((ctr_Get.f l2 a3).bind fun t625 => ((ctr_Get.f l0 a3).bind fun t626 => (law06_CtrKeys.l0 kj8 a3 t621 (wrap64 ((wrap64 (t624 + t625)) - t626)) false 0)))) = some r := H
    have A31 := Aside0.mk A310
    clear A310
    replace H := Option.bind_eq_some_iff.mp H
    obtain ⟨t624, A320, H⟩ := H
    replace H : ((ctr_Get.f l2 a3).bind fun t625 => ((ctr_Get.f l0 a3).bind fun t626 => (law06_CtrKeys.l0 kj8 a3 t621 (wrap64 ((wrap64 (t624 + t625)) - t626)) false 0))) = some r := H
    have A32 := Aside0.mk A320
    clear A320
    replace H := Option.bind_eq_some_iff.mp H
    obtain ⟨t625, A330, H⟩ := H
    replace H : ((ctr_Get.f l0 a3).bind fun t626 => (law06_CtrKeys.l0 kj8 a3 t621 (wrap64 ((wrap64 (t624 + t625)) - t626)) false 0)) = some r := H
    have A33 := Aside0.mk A330
    clear A330
    replace H := Option.bind_eq_some_iff.mp H
    obtain ⟨t626, A340, H⟩ := H
    replace H : (law06_CtrKeys.l0 kj8 a3 t621 (wrap64 ((wrap64 (t624 + t625)) - t626)) false 0) = some r := H
    have A34 := Aside0.mk A340
    clear A340
    have H' := Aside0.mk H
    clear H
    go_wp2_with (first | ((with_reducible refine gate_callee (f := 39) rfl ?_); refine goesL_ (some 62) rfl rfl Try.func39 (by kernel_rfl) rfl #[.slice A0 l0.length c0, .slice A1 l1.length c1, .slice A2 l2.length c2] rfl (by (try simp only [List.map_toArray, List.map_cons, List.map_nil]); first | done | rfl | (simp only [List.length_drop, List.length_take]; rfl)) ?_; (with_reducible refine (ctr_Merge.calls _ _ l0 _ _ l1 _ _ l2 t621 _ ?side1 ?side2 ?side3 ?side4 ?side5 ?side6 A31.out).mono ?_); (case side1 => repeat (first | exact (Kd.C_below HR0.out HB.out) | (with_reducible refine Kd.C_alloc ?_ _) | (with_reducible refine Kd.C_drewN ?_ _) | (with_reducible refine Kd.C_drew ?_))); (case side2 => exact HC0.out); (case side3 => repeat (first | exact (Kd.C_below HR1.out HB.out) | (with_reducible refine Kd.C_alloc ?_ _) | (with_reducible refine Kd.C_drewN ?_ _) | (with_reducible refine Kd.C_drew ?_))); (case side4 => exact HC1.out); (case side5 => repeat (first | exact (Kd.C_below HR2.out HB.out) | (with_reducible refine Kd.C_alloc ?_ _) | (with_reducible refine Kd.C_drewN ?_ _) | (with_reducible refine Kd.C_drew ?_))); (case side6 => exact HC2.out); rintro e w35 ⟨v622, rfl, ho0, hb⟩; refine ⟨_, rfl, ?_⟩; have n0_ := Aside0.mk (Kd.R_lower ho0 (below_size (by repeat (first | (with_reducible first | exact HB.out | apply below_alloc | apply pw_below_drewN | apply below_drew1) | exact HB.out)))); have n1_ := Aside0.mk (below_step (by repeat (first | (with_reducible first | exact HB.out | apply below_alloc | apply pw_below_drewN | apply below_drew1) | exact HB.out)) hb); clear HB; have HO623 := n0_; have HB := n1_; clear n0_ n1_; (try clear hb); (try clear hb2); (try clear hk); (try clear hi); (try clear ho0)) | ((with_reducible refine gate_callee (f := 42) rfl ?_); refine goesL_ (some 65) rfl rfl Try.func42 (by kernel_rfl) rfl #[.slice A1 l1.length c1, .string a3] rfl (by (try simp only [List.map_toArray, List.map_cons, List.map_nil]); first | done | rfl | (simp only [List.length_drop, List.length_take]; rfl)) ?_; (with_reducible refine (ctr_Get.calls _ _ l1 a3 t624 _ ?side1 ?side2 A32.out).mono ?_); (case side1 => repeat (first | exact (Kd.C_below HR1.out HB.out) | (with_reducible refine Kd.C_alloc ?_ _) | (with_reducible refine Kd.C_drewN ?_ _) | (with_reducible refine Kd.C_drew ?_))); (case side2 => exact HC1.out); rintro e w36 ⟨rfl, hb⟩; refine ⟨_, rfl, ?_⟩; have n0_ := Aside0.mk (Kd.R_below (by (with_reducible repeat (first | apply Kd.R_alloc | apply Kd.R_drewN | apply Kd.R_drew)); exact HO623.out) hb); have n1_ := Aside0.mk (below_step (by repeat (first | (with_reducible first | exact HB.out | apply below_alloc | apply pw_below_drewN | apply below_drew1) | exact HB.out)) hb); clear HO623; clear HB; have HO623 := n0_; have HB := n1_; clear n0_ n1_; (try clear hb); (try clear hb2); (try clear hk); (try clear hi)) | ((with_reducible refine gate_callee (f := 42) rfl ?_); refine goesL_ (some 68) rfl rfl Try.func42 (by kernel_rfl) rfl #[.slice A2 l2.length c2, .string a3] rfl (by (try simp only [List.map_toArray, List.map_cons, List.map_nil]); first | done | rfl | (simp only [List.length_drop, List.length_take]; rfl)) ?_; (with_reducible refine (ctr_Get.calls _ _ l2 a3 t625 _ ?side1 ?side2 A33.out).mono ?_); (case side1 => repeat (first | exact (Kd.C_below HR2.out HB.out) | (with_reducible refine Kd.C_alloc ?_ _) | (with_reducible refine Kd.C_drewN ?_ _) | (with_reducible refine Kd.C_drew ?_))); (case side2 => exact HC2.out); rintro e w37 ⟨rfl, hb⟩; refine ⟨_, rfl, ?_⟩; have n0_ := Aside0.mk (Kd.R_below (by (with_reducible repeat (first | apply Kd.R_alloc | apply Kd.R_drewN | apply Kd.R_drew)); exact HO623.out) hb); have n1_ := Aside0.mk (below_step (by repeat (first | (with_reducible first | exact HB.out | apply below_alloc | apply pw_below_drewN | apply below_drew1) | exact HB.out)) hb); clear HO623; clear HB; have HO623 := n0_; have HB := n1_; clear n0_ n1_; (try clear hb); (try clear hb2); (try clear hk); (try clear hi)) | ((with_reducible refine gate_callee (f := 42) rfl ?_); refine goesL_ (some 72) rfl rfl Try.func42 (by kernel_rfl) rfl #[.slice A0 l0.length c0, .string a3] rfl (by (try simp only [List.map_toArray, List.map_cons, List.map_nil]); first | done | rfl | (simp only [List.length_drop, List.length_take]; rfl)) ?_; (with_reducible refine (ctr_Get.calls _ _ l0 a3 t626 _ ?side1 ?side2 A34.out).mono ?_); (case side1 => repeat (first | exact (Kd.C_below HR0.out HB.out) | (with_reducible refine Kd.C_alloc ?_ _) | (with_reducible refine Kd.C_drewN ?_ _) | (with_reducible refine Kd.C_drew ?_))); (case side2 => exact HC0.out); rintro e w38 ⟨rfl, hb⟩; refine ⟨_, rfl, ?_⟩; have n0_ := Aside0.mk (Kd.R_below (by (with_reducible repeat (first | apply Kd.R_alloc | apply Kd.R_drewN | apply Kd.R_drew)); exact HO623.out) hb); have n1_ := Aside0.mk (below_step (by repeat (first | (with_reducible first | exact HB.out | apply below_alloc | apply pw_below_drewN | apply below_drew1) | exact HB.out)) hb); clear HO623; clear HB; have HO623 := n0_; have HB := n1_; clear n0_ n1_; (try clear hb); (try clear hb2); (try clear hk); (try clear hi)))
    go_loopg [15, 16] kj8 (fun kq v15 v16 w' => ∃ (x15_2 : Bool) (x16_2 : Int), v15 = .bool x15_2 ∧ v16 = .int .i64 x16_2 ∧ Aside0 (law06_CtrKeys.l0 kq a3 t621 (wrap64 ((wrap64 (t624 + t625)) - t626)) x15_2 x16_2 = some r) ∧ Aside0 (kq ≤ kj8) ∧ Aside0 (Kd.R k53 53 w' w.heap.size (fun _ => True) v622 t621) ∧ Aside0 (Below w.heap.size w w'))
    case atStart => exact ⟨(false), (0), (by first | rfl | (simp; done) | (simp [*]; done)), (by first | rfl | (simp; done) | (simp [*]; done)), H', ⟨Nat.le_refl _⟩, ⟨by (with_reducible repeat (first | apply Kd.R_alloc | apply Kd.R_drewN | apply Kd.R_drew)); exact HO623.out⟩, ⟨by repeat (first | (with_reducible first | exact HB.out | apply below_alloc | apply pw_below_drewN | apply below_drew1) | exact HB.out)⟩⟩
    case round =>
     clear H'
     try clear c1
     try clear c2
     try clear p2
     try clear c3
     try clear c4
     try clear p6
     try clear c11
     try clear c12
     try clear c13
     try clear c14
     try clear c16
     try clear c18
     try clear c20
     try clear c30
     try clear c33
     try clear c34
     try clear p2
     obtain ⟨x15_2, x16_2, rfl, rfl, HA, HK2, HO_13, HB⟩ := hrel
     cases gk with
     | zero => exact absurd HA.out (by simp [law06_CtrKeys.l0])
     | succ k2 =>
      have H := HA.out
      clear HA
      simp only [law06_CtrKeys.l0] at H
      by_cases c39 : x16_2 < (t621.length : Int)
      ·rw [if_pos c39] at H
       have c39b0 : decide (x16_2 < (t621.length : Int)) = true := decide_eq_true c39
       clear c39
       by_cases c40 : x15_2 = true
       ·subst c40
        have H1 : (law06_CtrKeys.l0 k2 a3 t621 (wrap64 ((wrap64 (t624 + t625)) - t626)) true (wrap64 (x16_2 + 1))) = some r := by rw [if_pos rfl] at H; exact H
        clear H
        have H := H1
        clear H1
        have H' := Aside0.mk H
        clear H
        obtain ⟨Ao41, co41, eo41⟩ := Kd.R_slice HO_13.out
        subst eo41
        go_wp2
        go_roundg k2
        case measure => have := HJ8.out; have := HK2.out; omega
        case rel => exact ⟨(true), (wrap64 (x16_2 + 1)), (by first | rfl | (simp; done) | (simp [*]; done)), (by first | rfl | (simp; done) | (simp [*]; done)), H', ⟨by have := HJ8.out; have := HK2.out; omega⟩, ⟨by (with_reducible repeat (first | apply Kd.R_alloc | apply Kd.R_drewN | apply Kd.R_drew)); exact HO_13.out⟩, ⟨by repeat (first | (with_reducible first | exact HB.out | apply below_alloc | apply pw_below_drewN | apply below_drew1) | exact HB.out)⟩⟩
       ·replace c40 := Bool.eq_false_iff.mpr c40
        subst c40
        have H1 : (if 0 ≤ x16_2 then (law06_CtrKeys.l0 k2 a3 t621 (wrap64 ((wrap64 (t624 + t625)) - t626)) (((rd_T53 t621 x16_2).f0).toList == a3.toList) (wrap64 (x16_2 + 1))) else (none)) = some r := by rw [if_neg (show ¬ (false = true) by decide)] at H; exact H
        clear H
        have H := H1
        clear H1
        by_cases c42 : 0 ≤ x16_2
        ·rw [if_pos c42] at H
         have c42b0 : decide (0 ≤ x16_2) = true := decide_eq_true c42
         clear c42
         have H' := Aside0.mk H
         clear H
         obtain ⟨Ao43, co43, eo43⟩ := Kd.R_slice HO_13.out
         subst eo43
         have p627 : 0 ≤ (x16_2 : Int) := of_decide_eq_true (by first | (with_reducible assumption) | assumption)
         have q627 : x16_2 < (t621.length : Int) := of_decide_eq_true (by first | (with_reducible assumption) | assumption)
         obtain ⟨ad627, e627, hx627_0, hx627_1⟩ := at_T53 (Kd.R_reads' HO_13.out).2.2 x16_2 p627 q627
         cases e627
         replace p627 := eq_true p627
         replace q627 := eq_true q627
         go_wp2
         go_roundg k2
         case measure => have := HJ8.out; have := HK2.out; omega
         case rel => exact ⟨((((rd_T53 t621 x16_2).f0).toList == a3.toList)), (wrap64 (x16_2 + 1)), (by first | rfl | (simp; done) | (simp [*]; done)), (by first | rfl | (simp; done) | (simp [*]; done)), H', ⟨by have := HJ8.out; have := HK2.out; omega⟩, ⟨by (with_reducible repeat (first | apply Kd.R_alloc | apply Kd.R_drewN | apply Kd.R_drew)); exact HO_13.out⟩, ⟨by repeat (first | (with_reducible first | exact HB.out | apply below_alloc | apply pw_below_drewN | apply below_drew1) | exact HB.out)⟩⟩
        ·rw [if_neg c42] at H
         exact absurd H (by simp)
      ·rw [if_neg c39] at H
       have c39b0 : decide (x16_2 < (t621.length : Int)) = false := decide_eq_false c39
       clear c39
       replace H := Option.bind_eq_some_iff.mp H
       obtain ⟨t628, A440, H⟩ := H
       replace H : (if t628 = (wrap64 ((wrap64 (t624 + t625)) - t626)) then (some (x15_2 == ((wrap64 ((wrap64 (t624 + t625)) - t626)) != 0))) else (some false)) = some r := H
       have A44 := Aside0.mk A440
       clear A440
       by_cases c45 : t628 = (wrap64 ((wrap64 (t624 + t625)) - t626))
       ·rw [if_pos c45] at H
        have c45b0 : (t628 == (wrap64 ((wrap64 (t624 + t625)) - t626))) = true := beq_iff_eq.mpr c45
        have c45b1 : (t628 != (wrap64 ((wrap64 (t624 + t625)) - t626))) = false := bne_eq_false_iff_eq.mpr c45
        clear c45
        obtain rfl := Option.some.inj H
        obtain ⟨Ao46, co46, eo46⟩ := Kd.R_slice HO_13.out
        subst eo46
        go_wp2_with (first | ((with_reducible refine gate_callee (f := 42) rfl ?_); refine goesL_ (some 92) rfl rfl Try.func42 (by kernel_rfl) rfl #[.slice Ao46 t621.length co46, .string a3] rfl (by (try simp only [List.map_toArray, List.map_cons, List.map_nil]); first | done | rfl | (simp only [List.length_drop, List.length_take]; rfl)) ?_; (with_reducible refine (ctr_Get.calls _ _ t621 a3 t628 _ ?side1 ?side2 A44.out).mono ?_); (case side1 => repeat (first | exact (Kd.R_reads' HO_13.out).2.2 | (with_reducible refine Kd.C_alloc ?_ _) | (with_reducible refine Kd.C_drewN ?_ _) | (with_reducible refine Kd.C_drew ?_))); (case side2 => exact (Kd.R_reads' HO_13.out).2.1); rintro e w47 ⟨rfl, hb⟩; refine ⟨_, rfl, ?_⟩; have n0_ := Aside0.mk (Kd.R_below (by (with_reducible repeat (first | apply Kd.R_alloc | apply Kd.R_drewN | apply Kd.R_drew)); exact HO_13.out) hb); have n1_ := Aside0.mk (below_step (by repeat (first | (with_reducible first | exact HB.out | apply below_alloc | apply pw_below_drewN | apply below_drew1) | exact HB.out)) hb); clear HO_13; clear HB; have HO_13 := n0_; have HB := n1_; clear n0_ n1_; (try clear hb); (try clear hb2); (try clear hk); (try clear hi)))
        go_ret
        exact ⟨by first | rfl | (simp [errW_none, errW_some] <;> rfl) | (simp [*, errW_none, errW_some] <;> rfl), by repeat (first | (with_reducible first | exact HB.out | apply below_alloc | apply pw_below_drewN | apply below_drew1) | exact HB.out)⟩
       ·rw [if_neg c45] at H
        have c45b0 : (t628 == (wrap64 ((wrap64 (t624 + t625)) - t626))) = false := beq_eq_false_iff_ne.mpr c45
        have c45b1 : (t628 != (wrap64 ((wrap64 (t624 + t625)) - t626))) = true := bne_iff_ne.mpr c45
        obtain rfl := Option.some.inj H
        obtain ⟨Ao48, co48, eo48⟩ := Kd.R_slice HO_13.out
        subst eo48
        go_wp2_with (first | ((with_reducible refine gate_callee (f := 42) rfl ?_); refine goesL_ (some 92) rfl rfl Try.func42 (by kernel_rfl) rfl #[.slice Ao48 t621.length co48, .string a3] rfl (by (try simp only [List.map_toArray, List.map_cons, List.map_nil]); first | done | rfl | (simp only [List.length_drop, List.length_take]; rfl)) ?_; (with_reducible refine (ctr_Get.calls _ _ t621 a3 t628 _ ?side1 ?side2 A44.out).mono ?_); (case side1 => repeat (first | exact (Kd.R_reads' HO_13.out).2.2 | (with_reducible refine Kd.C_alloc ?_ _) | (with_reducible refine Kd.C_drewN ?_ _) | (with_reducible refine Kd.C_drew ?_))); (case side2 => exact (Kd.R_reads' HO_13.out).2.1); rintro e w49 ⟨rfl, hb⟩; refine ⟨_, rfl, ?_⟩; have n0_ := Aside0.mk (Kd.R_below (by (with_reducible repeat (first | apply Kd.R_alloc | apply Kd.R_drewN | apply Kd.R_drew)); exact HO_13.out) hb); have n1_ := Aside0.mk (below_step (by repeat (first | (with_reducible first | exact HB.out | apply below_alloc | apply pw_below_drewN | apply below_drew1) | exact HB.out)) hb); clear HO_13; clear HB; have HO_13 := n0_; have HB := n1_; clear n0_ n1_; (try clear hb); (try clear hb2); (try clear hk); (try clear hi)))
        go_ret
        exact ⟨by first | rfl | (simp [errW_none, errW_some] <;> rfl) | (simp [*, errW_none, errW_some] <;> rfl), by repeat (first | (with_reducible first | exact HB.out | apply below_alloc | apply pw_below_drewN | apply below_drew1) | exact HB.out)⟩

end Go.Proofs.Ytannmdngejdjkaa.L
