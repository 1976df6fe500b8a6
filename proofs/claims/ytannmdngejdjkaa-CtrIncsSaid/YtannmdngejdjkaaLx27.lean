-- PRINTED by print.py (a twelfth state) out of the translation. Not trusted: Lean checks it.
import Derived.Test.YtannmdngejdjkaaLx0
import Derived.Test.YtannmdngejdjkaaLx11
import Derived.Test.YtannmdngejdjkaaLx20
import Derived.Test.YtannmdngejdjkaaLx21
import Derived.Test.YtannmdngejdjkaaLx22
import Derived.Test.YtannmdngejdjkaaLx23
import Derived.Test.YtannmdngejdjkaaLHCtrInc
import Derived.Test.YtannmdngejdjkaaLHCtrGet
namespace Go.Proofs.Ytannmdngejdjkaa.L
open Go.RowKit Go.Proofs.YtannmdngejdjkaaW.PrintWords Go.Proofs.YtannmdngejdjkaaW.PrintLast Go.Proofs.YtannmdngejdjkaaW.PrintMore
attribute [local go_sem] max2_int min2_int max_two min_two max_three min_three max_four min_four   -- for this text's walks alone
set_option linter.unusedVariables false
set_option linter.unusedSimpArgs false

/-! ### law06_CtrIncs: function 9 -/
mutual
def law06_CtrIncs.j0 : Nat → List (S53) → ByteArray → ByteArray → Int → Bool → Bool → Option (Bool)
 | 0, _, _, _, _, _, _ => none
 | k + 1, x0, x1, x2, x3, x9, x46 => if x46 = true then (some x9) else ((ctr_Inc.f x0 x1 x3).bind fun t516 => ((ctr_May.f k t516).bind fun t519 => (if t519 = true then ((ctr_Get.f t516 x1).bind fun t520 => ((ctr_Get.f x0 x1).bind fun t521 => (if t520 = (wrap64 (t521 + x3)) then (if x2.toList = x1.toList then (law06_CtrIncs.j1 k x0 x1 x3 t516 false) else ((ctr_Get.f t516 x2).bind fun t522 => ((ctr_Get.f x0 x2).bind fun t523 => (law06_CtrIncs.j1 k x0 x1 x3 t516 (t522 != t523))))) else (law06_CtrIncs.j1 k x0 x1 x3 t516 true)))) else (law06_CtrIncs.j1 k x0 x1 x3 t516 true))))
def law06_CtrIncs.j1 : Nat → List (S53) → ByteArray → Int → List (S53) → Bool → Option (Bool)
 | 0, _, _, _, _, _ => none
 | k + 1, x0, x1, x3, x12, x79 => if x79 = true then (some false) else ((ctr_Inc.f x12 x1 (wrap64 (-x3))).bind fun t524 => ((ref06_Same.f k t524 x0).bind fun t527 => (some t527)))
end
def law06_CtrIncs.f (k : Nat) (l0 : List (S53)) (a1 : ByteArray) (a2 : ByteArray) (a3 : Int) : Option (Bool) := (law06_awake.f k).bind fun t512 => ((law06_Few.f k l0).bind fun t513 => ((ref05_Key.f k a1).bind fun t514 => (if t512 = true then (if t513 = true then (if t514 = true then ((ctr_May.f k l0).bind fun t515 => (if t515 = true then (if (a2.size : Int) > 100 then (law06_CtrIncs.j0 k l0 a1 a2 a3 t512 true) else (if a3 < (-1099511627776) then (law06_CtrIncs.j0 k l0 a1 a2 a3 t512 true) else (law06_CtrIncs.j0 k l0 a1 a2 a3 t512 (decide (a3 > 1099511627776))))) else (law06_CtrIncs.j0 k l0 a1 a2 a3 t512 true))) else (law06_CtrIncs.j0 k l0 a1 a2 a3 t512 true)) else (law06_CtrIncs.j0 k l0 a1 a2 a3 t512 true)) else (law06_CtrIncs.j0 k l0 a1 a2 a3 t512 true))))
theorem law06_CtrIncs.mono_l : ∀ k, (∀ y0 y1 y2 y3 y4 y5, LeO (law06_CtrIncs.j0 k y0 y1 y2 y3 y4 y5) (law06_CtrIncs.j0 (k + 1) y0 y1 y2 y3 y4 y5)) ∧ (∀ y0 y1 y2 y3 y4, LeO (law06_CtrIncs.j1 k y0 y1 y2 y3 y4) (law06_CtrIncs.j1 (k + 1) y0 y1 y2 y3 y4))
 | 0 => ⟨fun _ _ _ _ _ _ r h => by simp [law06_CtrIncs.j0] at h, fun _ _ _ _ _ r h => by simp [law06_CtrIncs.j1] at h⟩
 | k + 1 => by
  obtain ⟨ih0, ih1⟩ := law06_CtrIncs.mono_l k
  refine ⟨?_, ?_⟩
  ·intro y0 y1 y2 y3 y4 y5
   unfold law06_CtrIncs.j0
   repeat' first
   | (with_reducible exact ih0 _ _ _ _ _ _)
   | (with_reducible exact ih1 _ _ _ _ _)
   | (with_reducible exact ctr_May.mono _ _)
   | (with_reducible exact law06_Few.mono _ _)
   | (with_reducible exact law06_awake.mono _)
   | (with_reducible exact ref05_Key.mono _ _)
   | (with_reducible exact ref06_Same.mono _ _ _)
   | (with_reducible exact LeO.refl _)
   | (with_reducible exact LeO.none _)
   | (with_reducible refine LeO.ite ?_ ?_)
   | (with_reducible refine LeO.bind ?_ (fun _ => ?_))
   | exact ih0 _ _ _ _ _ _
   | exact ih1 _ _ _ _ _
   | exact ctr_May.mono _ _
   | exact law06_Few.mono _ _
   | exact law06_awake.mono _
   | exact ref05_Key.mono _ _
   | exact ref06_Same.mono _ _ _
   | exact LeO.none _
   | refine LeO.ite ?_ ?_
   | refine LeO.bind ?_ (fun _ => ?_)
  ·intro y0 y1 y2 y3 y4
   unfold law06_CtrIncs.j1
   repeat' first
   | (with_reducible exact ih0 _ _ _ _ _ _)
   | (with_reducible exact ih1 _ _ _ _ _)
   | (with_reducible exact ctr_May.mono _ _)
   | (with_reducible exact law06_Few.mono _ _)
   | (with_reducible exact law06_awake.mono _)
   | (with_reducible exact ref05_Key.mono _ _)
   | (with_reducible exact ref06_Same.mono _ _ _)
   | (with_reducible exact LeO.refl _)
   | (with_reducible exact LeO.none _)
   | (with_reducible refine LeO.ite ?_ ?_)
   | (with_reducible refine LeO.bind ?_ (fun _ => ?_))
   | exact ih0 _ _ _ _ _ _
   | exact ih1 _ _ _ _ _
   | exact ctr_May.mono _ _
   | exact law06_Few.mono _ _
   | exact law06_awake.mono _
   | exact ref05_Key.mono _ _
   | exact ref06_Same.mono _ _ _
   | exact LeO.none _
   | refine LeO.ite ?_ ?_
   | refine LeO.bind ?_ (fun _ => ?_)
theorem law06_CtrIncs.mono : ∀ a0 a1 a2 a3 k, LeO (law06_CtrIncs.f k a0 a1 a2 a3) (law06_CtrIncs.f (k + 1) a0 a1 a2 a3) := by
 intro a0 a1 a2 a3 k
 obtain ⟨ih0, ih1⟩ := law06_CtrIncs.mono_l k
 unfold law06_CtrIncs.f
 repeat' first
   | (with_reducible exact ih0 _ _ _ _ _ _)
   | (with_reducible exact ih1 _ _ _ _ _)
   | (with_reducible exact ctr_May.mono _ _)
   | (with_reducible exact law06_Few.mono _ _)
   | (with_reducible exact law06_awake.mono _)
   | (with_reducible exact ref05_Key.mono _ _)
   | (with_reducible exact ref06_Same.mono _ _ _)
   | (with_reducible exact LeO.refl _)
   | (with_reducible exact LeO.none _)
   | (with_reducible refine LeO.ite ?_ ?_)
   | (with_reducible refine LeO.bind ?_ (fun _ => ?_))
   | exact ih0 _ _ _ _ _ _
   | exact ih1 _ _ _ _ _
   | exact ctr_May.mono _ _
   | exact law06_Few.mono _ _
   | exact law06_awake.mono _
   | exact ref05_Key.mono _ _
   | exact ref06_Same.mono _ _ _
   | exact LeO.none _
   | refine LeO.ite ?_ ?_
   | refine LeO.bind ?_ (fun _ => ?_)
set_option maxHeartbeats 8000000 in
set_option maxRecDepth 100000 in
theorem law06_CtrIncs.calls (k : Nat) (A0 : Option Addr) (c0 : Nat) (l0 : List (S53)) (a1 : ByteArray) (a2 : ByteArray) (a3 : Int) (r : Bool) (w : World) (hr0 : Kd.C k53 w A0 l0.length l0) (hc0 : l0.length ≤ c0) (h : law06_CtrIncs.f k l0 a1 a2 a3 = some r) :
  Calls Try.prog 9 #[.slice A0 l0.length c0, .string a1, .string a2, .int .i64 a3] w fun e w' => e = .returned (.bool r) ∧ Below w.heap.size w w' := by
 have HR0 := Aside0.mk hr0
 have HC0 := Aside0.mk hc0
 clear hr0 hc0
 have HB := Aside0.mk (Below.refl w.heap.size w)
 have H : ((law06_awake.f k).bind fun t512 => ((law06_Few.f k l0).bind fun t513 => ((ref05_Key.f k a1).bind fun t514 => (if t512 = true then (if t513 = true then (if t514 = true then ((ctr_May.f k l0).bind fun t515 => (if t515 = true then (if (a2.size : Int) > 100 then (law06_CtrIncs.j0 k l0 a1 a2 a3 t512 true) else (if a3 < (-1099511627776) then (law06_CtrIncs.j0 k l0 a1 a2 a3 t512 true) else (law06_CtrIncs.j0 k l0 a1 a2 a3 t512 (decide (a3 > 1099511627776))))) else (law06_CtrIncs.j0 k l0 a1 a2 a3 t512 true))) else (law06_CtrIncs.j0 k l0 a1 a2 a3 t512 true)) else (law06_CtrIncs.j0 k l0 a1 a2 a3 t512 true)) else (law06_CtrIncs.j0 k l0 a1 a2 a3 t512 true))))) = some r := h
 clear h
 replace H := Option.bind_eq_some_iff.mp H
 obtain ⟨t512, A50, H⟩ := H
 replace H : ((law06_Few.f k l0).bind fun t513 => ((ref05_Key.f k a1).bind fun t514 => (if t512 = true then (if t513 = true then (if t514 = true then ((ctr_May.f k l0).bind fun t515 => (if t515 = true then (if (a2.size : Int) > 100 then (law06_CtrIncs.j0 k l0 a1 a2 a3 t512 true) else (if a3 < (-1099511627776) then (law06_CtrIncs.j0 k l0 a1 a2 a3 t512 true) else (law06_CtrIncs.j0 k l0 a1 a2 a3 t512 (decide (a3 > 1099511627776))))) else (law06_CtrIncs.j0 k l0 a1 a2 a3 t512 true))) else (law06_CtrIncs.j0 k l0 a1 a2 a3 t512 true)) else (law06_CtrIncs.j0 k l0 a1 a2 a3 t512 true)) else (law06_CtrIncs.j0 k l0 a1 a2 a3 t512 true)))) = some r := H
 have A5 := Aside0.mk A50
 clear A50
 replace H := Option.bind_eq_some_iff.mp H
 obtain ⟨t513, A60, H⟩ := H
 replace H : ((ref05_Key.f k a1).bind fun t514 => (if t512 = true then (if t513 = true then (if t514 = true then ((ctr_May.f k l0).bind fun t515 => (if t515 = true then (if (a2.size : Int) > 100 then (law06_CtrIncs.j0 k l0 a1 a2 a3 t512 true) else (if a3 < (-1099511627776) then (law06_CtrIncs.j0 k l0 a1 a2 a3 t512 true) else (law06_CtrIncs.j0 k l0 a1 a2 a3 t512 (decide (a3 > 1099511627776))))) else (law06_CtrIncs.j0 k l0 a1 a2 a3 t512 true))) else (law06_CtrIncs.j0 k l0 a1 a2 a3 t512 true)) else (law06_CtrIncs.j0 k l0 a1 a2 a3 t512 true)) else (law06_CtrIncs.j0 k l0 a1 a2 a3 t512 true))) = some r := H
 have A6 := Aside0.mk A60
 clear A60
 replace H := Option.bind_eq_some_iff.mp H
 obtain ⟨t514, A70, H⟩ := H
 replace H : (if t512 = true then (if t513 = true then (if t514 = true then ((ctr_May.f k l0).bind fun t515 => (if t515 = true then (if (a2.size : Int) > 100 then (law06_CtrIncs.j0 k l0 a1 a2 a3 t512 true) else (if a3 < (-1099511627776) then (law06_CtrIncs.j0 k l0 a1 a2 a3 t512 true) else (law06_CtrIncs.j0 k l0 a1 a2 a3 t512 (decide (a3 > 1099511627776))))) else (law06_CtrIncs.j0 k l0 a1 a2 a3 t512 true))) else (law06_CtrIncs.j0 k l0 a1 a2 a3 t512 true)) else (law06_CtrIncs.j0 k l0 a1 a2 a3 t512 true)) else (law06_CtrIncs.j0 k l0 a1 a2 a3 t512 true)) = some r := H
 have A7 := Aside0.mk A70
 clear A70
 have HC8 := Aside0.mk H
 clear H
 go_enter Try.func9, Try.ntmps9
 go_upto_region 4 with (first | ((with_reducible refine gate_callee (f := 33) rfl ?_); refine goesL_ (some 14) rfl rfl Try.func33 (by kernel_rfl) rfl #[] rfl (by (try simp only [List.map_toArray, List.map_cons, List.map_nil]); first | done | rfl | (simp only [List.length_drop, List.length_take]; rfl)) ?_; (with_reducible refine (law06_awake.calls k  t512 _ A5.out).mono ?_); rintro e w9 ⟨rfl, hb⟩; refine ⟨_, rfl, ?_⟩; have n0_ := Aside0.mk (below_step (by repeat (first | (with_reducible first | exact HB.out | apply below_alloc | apply pw_below_drewN | apply below_drew1) | exact HB.out)) hb); clear HB; have HB := n0_; clear n0_; (try clear hb); (try clear hb2); (try clear hk); (try clear hi)) | ((with_reducible refine gate_callee (f := 34) rfl ?_); refine goesL_ (some 16) rfl rfl Try.func34 (by kernel_rfl) rfl #[.slice A0 l0.length c0] rfl (by (try simp only [List.map_toArray, List.map_cons, List.map_nil]); first | done | rfl | (simp only [List.length_drop, List.length_take]; rfl)) ?_; (with_reducible refine (law06_Few.calls k _ _ l0 t513 _ ?side1 ?side2 A6.out).mono ?_); (case side1 => repeat (first | exact (Kd.C_below HR0.out HB.out) | (with_reducible refine Kd.C_alloc ?_ _) | (with_reducible refine Kd.C_drewN ?_ _) | (with_reducible refine Kd.C_drew ?_))); (case side2 => exact HC0.out); rintro e w' ⟨rfl, ⟨nd, rfl⟩⟩; refine ⟨_, rfl, ?_⟩) | ((with_reducible refine gate_callee (f := 44) rfl ?_); refine goesL_ (some 18) rfl rfl Try.func44 (by kernel_rfl) rfl #[.string a1] rfl (by (try simp only [List.map_toArray, List.map_cons, List.map_nil]); first | done | rfl | (simp only [List.length_drop, List.length_take]; rfl)) ?_; (with_reducible refine (ref05_Key.calls k a1 t514 _ A7.out).mono ?_); rintro e w' ⟨rfl, ⟨nd, rfl⟩⟩; refine ⟨_, rfl, ?_⟩))
 (try simp only [Act.put, List.setIfInBounds_toArray, List.set_cons_zero, List.set_cons_succ])
 go_cut [46] (fun v46 wc => ∃ (kq : Nat) (x46_7 : Bool), v46 = .bool x46_7 ∧ Aside0 (law06_CtrIncs.j0 kq l0 a1 a2 a3 t512 x46_7 = some r) ∧ Aside0 (kq ≤ k) ∧ Aside0 (Below w.heap.size w wc))
 case first =>
  have H := HC8.out
  clear HC8
  by_cases c10 : t512 = true
  ·subst c10
   have H1 : (if t513 = true then (if t514 = true then ((ctr_May.f k l0).bind fun t515 => (if t515 = true then (if (a2.size : Int) > 100 then (law06_CtrIncs.j0 k l0 a1 a2 a3 true true) else (if a3 < (-1099511627776) then (law06_CtrIncs.j0 k l0 a1 a2 a3 true true) else (law06_CtrIncs.j0 k l0 a1 a2 a3 true (decide (a3 > 1099511627776))))) else (law06_CtrIncs.j0 k l0 a1 a2 a3 true true))) else (law06_CtrIncs.j0 k l0 a1 a2 a3 true true)) else (law06_CtrIncs.j0 k l0 a1 a2 a3 true true)) = some r := by rw [if_pos rfl] at H; exact H
   clear H
   have H := H1
   clear H1
   by_cases c11 : t513 = true
   ·subst c11
    have H1 : (if t514 = true then ((ctr_May.f k l0).bind fun t515 => (if t515 = true then (if (a2.size : Int) > 100 then (law06_CtrIncs.j0 k l0 a1 a2 a3 true true) else (if a3 < (-1099511627776) then (law06_CtrIncs.j0 k l0 a1 a2 a3 true true) else (law06_CtrIncs.j0 k l0 a1 a2 a3 true (decide (a3 > 1099511627776))))) else (law06_CtrIncs.j0 k l0 a1 a2 a3 true true))) else (law06_CtrIncs.j0 k l0 a1 a2 a3 true true)) = some r := by rw [if_pos rfl] at H; exact H
    clear H
    have H := H1
    clear H1
    by_cases c12 : t514 = true
    ·subst c12
     have H1 : ((ctr_May.f k l0).bind fun t515 => (if t515 = true then (if (a2.size : Int) > 100 then (law06_CtrIncs.j0 k l0 a1 a2 a3 true true) else (if a3 < (-1099511627776) then (law06_CtrIncs.j0 k l0 a1 a2 a3 true true) else (law06_CtrIncs.j0 k l0 a1 a2 a3 true (decide (a3 > 1099511627776))))) else (law06_CtrIncs.j0 k l0 a1 a2 a3 true true))) = some r := by rw [if_pos rfl] at H; exact H
     clear H
     have H := H1
     clear H1
     replace H := Option.bind_eq_some_iff.mp H
     obtain ⟨t515, A130, H⟩ := H
     replace H : (if t515 = true then (if (a2.size : Int) > 100 then (law06_CtrIncs.j0 k l0 a1 a2 a3 true true) else (if a3 < (-1099511627776) then (law06_CtrIncs.j0 k l0 a1 a2 a3 true true) else (law06_CtrIncs.j0 k l0 a1 a2 a3 true (decide (a3 > 1099511627776))))) else (law06_CtrIncs.j0 k l0 a1 a2 a3 true true)) = some r := H
     have A13 := Aside0.mk A130
     clear A130
     by_cases c14 : t515 = true
     ·subst c14
      have H1 : (if (a2.size : Int) > 100 then (law06_CtrIncs.j0 k l0 a1 a2 a3 true true) else (if a3 < (-1099511627776) then (law06_CtrIncs.j0 k l0 a1 a2 a3 true true) else (law06_CtrIncs.j0 k l0 a1 a2 a3 true (decide (a3 > 1099511627776))))) = some r := by rw [if_pos rfl] at H; exact H
      clear H
      have H := H1
      clear H1
      by_cases c15 : (a2.size : Int) > 100
      ·rw [if_pos c15] at H
       have c15b0 : decide (100 < (a2.size : Int)) = true := decide_eq_true c15
       have c15b1 : decide (100 < a2.size) = true := decide_eq_true (by omega)
       clear c15
       (first | rw [c15b0] | (simp only [i64_w, i32_w]; rw [c15b0]) | skip)
       have H' := Aside0.mk H
       clear H
       go_wp2_with (first | (go_at_call 41; (with_reducible refine (ctr_May.calls k _ _ l0 true _ ?side1 ?side2 A13.out).mono ?_); (case side1 => repeat (first | exact (Kd.C_below HR0.out HB.out) | (with_reducible refine Kd.C_alloc ?_ _) | (with_reducible refine Kd.C_drewN ?_ _) | (with_reducible refine Kd.C_drew ?_))); (case side2 => exact HC0.out); rintro e w16 ⟨rfl, hb⟩; have n0_ := Aside0.mk (below_step (by repeat (first | (with_reducible first | exact HB.out | apply below_alloc | apply pw_below_drewN | apply below_drew1) | exact HB.out)) hb); clear HB; have HB := n0_; clear n0_; (try clear hb); (try clear hb2); (try clear hk); (try clear hi)))
       go_meet
       case rel => exact ⟨_, (true), (by first | rfl | (simp; done) | (simp [*]; done)), H', ⟨by first | omega | exact Nat.le_refl _⟩, ⟨by repeat (first | (with_reducible first | exact HB.out | apply below_alloc | apply pw_below_drewN | apply below_drew1) | exact HB.out)⟩⟩
      ·rw [if_neg c15] at H
       have c15b0 : decide (100 < (a2.size : Int)) = false := decide_eq_false c15
       have c15b1 : decide (100 < a2.size) = false := decide_eq_false (by omega)
       clear c15
       (first | rw [c15b0] | (simp only [i64_w, i32_w]; rw [c15b0]) | skip)
       by_cases c17 : a3 < (-1099511627776)
       ·rw [if_pos c17] at H
        have c17b0 : decide (a3 < (-1099511627776)) = true := decide_eq_true c17
        clear c17
        have H' := Aside0.mk H
        clear H
        go_wp2_with (first | (go_at_call 41; (with_reducible refine (ctr_May.calls k _ _ l0 true _ ?side1 ?side2 A13.out).mono ?_); (case side1 => repeat (first | exact (Kd.C_below HR0.out HB.out) | (with_reducible refine Kd.C_alloc ?_ _) | (with_reducible refine Kd.C_drewN ?_ _) | (with_reducible refine Kd.C_drew ?_))); (case side2 => exact HC0.out); rintro e w18 ⟨rfl, hb⟩; have n0_ := Aside0.mk (below_step (by repeat (first | (with_reducible first | exact HB.out | apply below_alloc | apply pw_below_drewN | apply below_drew1) | exact HB.out)) hb); clear HB; have HB := n0_; clear n0_; (try clear hb); (try clear hb2); (try clear hk); (try clear hi)))
        go_meet
        case rel => exact ⟨_, (true), (by first | rfl | (simp; done) | (simp [*]; done)), H', ⟨by first | omega | exact Nat.le_refl _⟩, ⟨by repeat (first | (with_reducible first | exact HB.out | apply below_alloc | apply pw_below_drewN | apply below_drew1) | exact HB.out)⟩⟩
       ·rw [if_neg c17] at H
        have c17b0 : decide (a3 < (-1099511627776)) = false := decide_eq_false c17
        clear c17
        have H' := Aside0.mk H
        clear H
        go_wp2_with (first | (go_at_call 41; (with_reducible refine (ctr_May.calls k _ _ l0 true _ ?side1 ?side2 A13.out).mono ?_); (case side1 => repeat (first | exact (Kd.C_below HR0.out HB.out) | (with_reducible refine Kd.C_alloc ?_ _) | (with_reducible refine Kd.C_drewN ?_ _) | (with_reducible refine Kd.C_drew ?_))); (case side2 => exact HC0.out); rintro e w19 ⟨rfl, hb⟩; have n0_ := Aside0.mk (below_step (by repeat (first | (with_reducible first | exact HB.out | apply below_alloc | apply pw_below_drewN | apply below_drew1) | exact HB.out)) hb); clear HB; have HB := n0_; clear n0_; (try clear hb); (try clear hb2); (try clear hk); (try clear hi)))
        go_meet
        case rel => exact ⟨_, (decide (a3 > 1099511627776)), (by first | rfl | (simp; done) | (simp [*]; done)), H', ⟨by first | omega | exact Nat.le_refl _⟩, ⟨by repeat (first | (with_reducible first | exact HB.out | apply below_alloc | apply pw_below_drewN | apply below_drew1) | exact HB.out)⟩⟩
     ·replace c14 := Bool.eq_false_iff.mpr c14
      subst c14
      have H1 : (law06_CtrIncs.j0 k l0 a1 a2 a3 true true) = some r := by rw [if_neg (show ¬ (false = true) by decide)] at H; exact H
      clear H
      have H := H1
      clear H1
      have H' := Aside0.mk H
      clear H
      go_wp2_with (first | (go_at_call 41; (with_reducible refine (ctr_May.calls k _ _ l0 false _ ?side1 ?side2 A13.out).mono ?_); (case side1 => repeat (first | exact (Kd.C_below HR0.out HB.out) | (with_reducible refine Kd.C_alloc ?_ _) | (with_reducible refine Kd.C_drewN ?_ _) | (with_reducible refine Kd.C_drew ?_))); (case side2 => exact HC0.out); rintro e w20 ⟨rfl, hb⟩; have n0_ := Aside0.mk (below_step (by repeat (first | (with_reducible first | exact HB.out | apply below_alloc | apply pw_below_drewN | apply below_drew1) | exact HB.out)) hb); clear HB; have HB := n0_; clear n0_; (try clear hb); (try clear hb2); (try clear hk); (try clear hi)))
      go_meet
      case rel => exact ⟨_, (true), (by first | rfl | (simp; done) | (simp [*]; done)), H', ⟨by first | omega | exact Nat.le_refl _⟩, ⟨by repeat (first | (with_reducible first | exact HB.out | apply below_alloc | apply pw_below_drewN | apply below_drew1) | exact HB.out)⟩⟩
    ·replace c12 := Bool.eq_false_iff.mpr c12
     subst c12
     have H1 : (law06_CtrIncs.j0 k l0 a1 a2 a3 true true) = some r := by rw [if_neg (show ¬ (false = true) by decide)] at H; exact H
     clear H
     have H := H1
     clear H1
     have H' := Aside0.mk H
     clear H
     go_wp2
     go_meet
     case rel => exact ⟨_, (true), (by first | rfl | (simp; done) | (simp [*]; done)), H', ⟨by first | omega | exact Nat.le_refl _⟩, ⟨by repeat (first | (with_reducible first | exact HB.out | apply below_alloc | apply pw_below_drewN | apply below_drew1) | exact HB.out)⟩⟩
   ·replace c11 := Bool.eq_false_iff.mpr c11
    subst c11
    have H1 : (law06_CtrIncs.j0 k l0 a1 a2 a3 true true) = some r := by rw [if_neg (show ¬ (false = true) by decide)] at H; exact H
    clear H
    have H := H1
    clear H1
    have H' := Aside0.mk H
    clear H
    go_wp2
    go_meet
    case rel => exact ⟨_, (true), (by first | rfl | (simp; done) | (simp [*]; done)), H', ⟨by first | omega | exact Nat.le_refl _⟩, ⟨by repeat (first | (with_reducible first | exact HB.out | apply below_alloc | apply pw_below_drewN | apply below_drew1) | exact HB.out)⟩⟩
  ·replace c10 := Bool.eq_false_iff.mpr c10
   subst c10
   have H1 : (law06_CtrIncs.j0 k l0 a1 a2 a3 false true) = some r := by rw [if_neg (show ¬ (false = true) by decide)] at H; exact H
   clear H
   have H := H1
   clear H1
   have H' := Aside0.mk H
   clear H
   go_wp2
   go_meet
   case rel => exact ⟨_, (true), (by first | rfl | (simp; done) | (simp [*]; done)), H', ⟨by first | omega | exact Nat.le_refl _⟩, ⟨by repeat (first | (with_reducible first | exact HB.out | apply below_alloc | apply pw_below_drewN | apply below_drew1) | exact HB.out)⟩⟩
 case rest =>
  clear HC8
  try clear c1
  try clear p2
  try clear c3
  try clear c4
  try clear c9
  try clear c10
  try clear c11
  try clear c12
  try clear c14
  try clear c15
  try clear c15b0
  try clear c15b1
  try clear c17
  try clear c17b0
  obtain ⟨kq, x46_7, rfl, HA, HJ7, HB⟩ := hcut
  cases kq with
  | zero => exact absurd HA.out (by simp [law06_CtrIncs.j0])
  | succ kj7 =>
   have H := HA.out
   clear HA
   simp only [law06_CtrIncs.j0] at H
   by_cases c21 : x46_7 = true
   ·subst c21
    have H1 : (some t512) = some r := by rw [if_pos rfl] at H; exact H
    clear H
    have H := H1
    clear H1
    obtain rfl := Option.some.inj H
    go_wp2
    go_ret
    exact ⟨by first | rfl | (simp [errW_none, errW_some] <;> rfl) | (simp [*, errW_none, errW_some] <;> rfl), by repeat (first | (with_reducible first | exact HB.out | apply below_alloc | apply pw_below_drewN | apply below_drew1) | exact HB.out)⟩
   ·replace c21 := Bool.eq_false_iff.mpr c21
    subst c21
    have H1 : ((ctr_Inc.f l0 a1 a3).bind fun t516 => ((ctr_May.f kj7 t516).bind fun t519 => (if t519 = true then ((ctr_Get.f t516 a1).bind fun t520 => ((ctr_Get.f l0 a1).bind fun t521 => (if t520 = (wrap64 (t521 + a3)) then (if a2.toList = a1.toList then (law06_CtrIncs.j1 kj7 l0 a1 a3 t516 false) else ((ctr_Get.f t516 a2).bind fun t522 => ((ctr_Get.f l0 a2).bind fun t523 => (law06_CtrIncs.j1 kj7 l0 a1 a3 t516 (t522 != t523))))) else (law06_CtrIncs.j1 kj7 l0 a1 a3 t516 true)))) else (law06_CtrIncs.j1 kj7 l0 a1 a3 t516 true)))) = some r := by rw [if_neg (show ¬ (false = true) by decide)] at H; exact H
    clear H
    have H := H1
    clear H1
    replace H := Option.bind_eq_some_iff.mp H
    obtain ⟨t516, A220, H⟩ := H
    replace H : ((ctr_May.f kj7 t516).bind fun t519 => (if t519 = true then ((ctr_Get.f t516 a1).bind fun t520 => ((ctr_Get.f l0 a1).bind fun t521 => (if t520 = (wrap64 (t521 + a3)) then (if a2.toList = a1.toList then (law06_CtrIncs.j1 kj7 l0 a1 a3 t516 false) else ((ctr_Get.f t516 a2).bind fun t522 => ((ctr_Get.f l0 a2).bind fun t523 => (law06_CtrIncs.j1 kj7 l0 a1 a3 t516 (t522 != t523))))) else (law06_CtrIncs.j1 kj7 l0 a1 a3 t516 true)))) else (law06_CtrIncs.j1 kj7 l0 a1 a3 t516 true))) = some r := H
    have A22 := Aside0.mk A220
    clear A220
    have HC23 := Aside0.mk H
    clear H
    go_upto_region 7 with (first | ((with_reducible refine gate_callee (f := 37) rfl ?_); refine goesL_ (some 51) rfl rfl Try.func37 (by kernel_rfl) rfl #[.slice A0 l0.length c0, .string a1, .int .i64 a3] rfl (by (try simp only [List.map_toArray, List.map_cons, List.map_nil]); first | done | rfl | (simp only [List.length_drop, List.length_take]; rfl)) ?_; (with_reducible refine (ctr_Inc.calls _ _ l0 a1 a3 t516 _ ?side1 ?side2 A22.out).mono ?_); (case side1 => repeat (first | exact (Kd.C_below HR0.out HB.out) | (with_reducible refine Kd.C_alloc ?_ _) | (with_reducible refine Kd.C_drewN ?_ _) | (with_reducible refine Kd.C_drew ?_))); (case side2 => exact HC0.out); rintro e w24 ⟨v517, rfl, ho0, hb⟩; refine ⟨_, rfl, ?_⟩; have n0_ := Aside0.mk (Kd.R_lower ho0 (below_size (by repeat (first | (with_reducible first | exact HB.out | apply below_alloc | apply pw_below_drewN | apply below_drew1) | exact HB.out)))); have n1_ := Aside0.mk (below_step (by repeat (first | (with_reducible first | exact HB.out | apply below_alloc | apply pw_below_drewN | apply below_drew1) | exact HB.out)) hb); clear HB; have HO518 := n0_; have HB := n1_; clear n0_ n1_; (try clear hb); (try clear hb2); (try clear hk); (try clear hi); (try clear ho0)))
    (try simp only [Act.put, List.setIfInBounds_toArray, List.set_cons_zero, List.set_cons_succ])
    go_cut [79] (fun v79 wc => ∃ (kq : Nat) (x79_22 : Bool), v79 = .bool x79_22 ∧ Aside0 (law06_CtrIncs.j1 kq l0 a1 a3 t516 x79_22 = some r) ∧ Aside0 (kq ≤ kj7) ∧ Aside0 (Kd.R k53 53 wc w.heap.size (fun _ => True) v517 t516) ∧ Aside0 (Below w.heap.size w wc))
    case first =>
     have H := HC23.out
     clear HC23
     replace H := Option.bind_eq_some_iff.mp H
     obtain ⟨t519, A250, H⟩ := H
     replace H : (if t519 = true then ((ctr_Get.f t516 a1).bind fun t520 => ((ctr_Get.f l0 a1).bind fun t521 => (if t520 = (wrap64 (t521 + a3)) then (if a2.toList = a1.toList then (law06_CtrIncs.j1 kj7 l0 a1 a3 t516 false) else ((ctr_Get.f t516 a2).bind fun t522 => ((ctr_Get.f l0 a2).bind fun t523 => (law06_CtrIncs.j1 kj7 l0 a1 a3 t516 (t522 != t523))))) else (law06_CtrIncs.j1 kj7 l0 a1 a3 t516 true)))) else (law06_CtrIncs.j1 kj7 l0 a1 a3 t516 true)) = some r := H
     have A25 := Aside0.mk A250
     clear A250
     by_cases c26 : t519 = true
     ·subst c26
      have H1 : ((ctr_Get.f t516 a1).bind fun t520 => ((ctr_Get.f l0 a1).bind fun t521 => (if t520 = (wrap64 (t521 + a3)) then (if a2.toList = a1.toList then (law06_CtrIncs.j1 kj7 l0 a1 a3 t516 false) else ((ctr_Get.f t516 a2).bind fun t522 => ((ctr_Get.f l0 a2).bind fun t523 => (law06_CtrIncs.j1 kj7 l0 a1 a3 t516 (t522 != t523))))) else (law06_CtrIncs.j1 kj7 l0 a1 a3 t516 true)))) = some r := by rw [if_pos rfl] at H; exact H
      clear H
      have H := H1
      clear H1
      replace H := Option.bind_eq_some_iff.mp H
      obtain ⟨t520, A270, H⟩ := H
      replace H : ((ctr_Get.f l0 a1).bind fun t521 => (if t520 = (wrap64 (t521 + a3)) then (if a2.toList = a1.toList then (law06_CtrIncs.j1 kj7 l0 a1 a3 t516 false) else ((ctr_Get.f t516 a2).bind fun t522 => ((ctr_Get.f l0 a2).bind fun t523 => (law06_CtrIncs.j1 kj7 l0 a1 a3 t516 (t522 != t523))))) else (law06_CtrIncs.j1 kj7 l0 a1 a3 t516 true))) = some r := H
      have A27 := Aside0.mk A270
      clear A270
      replace H := Option.bind_eq_some_iff.mp H
      obtain ⟨t521, A280, H⟩ := H
      replace H : (if t520 = (wrap64 (t521 + a3)) then (if a2.toList = a1.toList then (law06_CtrIncs.j1 kj7 l0 a1 a3 t516 false) else ((ctr_Get.f t516 a2).bind fun t522 => ((ctr_Get.f l0 a2).bind fun t523 => (law06_CtrIncs.j1 kj7 l0 a1 a3 t516 (t522 != t523))))) else (law06_CtrIncs.j1 kj7 l0 a1 a3 t516 true)) = some r := H
      have A28 := Aside0.mk A280
      clear A280
      by_cases c29 : t520 = (wrap64 (t521 + a3))
      ·rw [if_pos c29] at H
       have c29b0 : (t520 == (wrap64 (t521 + a3))) = true := beq_iff_eq.mpr c29
       have c29b1 : (t520 != (wrap64 (t521 + a3))) = false := bne_eq_false_iff_eq.mpr c29
       clear c29
       (first | rw [c29b0] | (simp only [i64_w, i32_w]; rw [c29b0]) | skip)
       by_cases c30 : a2.toList = a1.toList
       ·rw [if_pos c30] at H
        have c30b0 : (a2.toList == a1.toList) = true := beq_iff_eq.mpr c30
        have c30b1 : (a2.toList != a1.toList) = false := bne_eq_false_iff_eq.mpr c30
        clear c30
        have H' := Aside0.mk H
        clear H
        obtain ⟨Ao31, co31, eo31⟩ := Kd.R_slice HO518.out
        subst eo31
        go_wp2_with (first | ((with_reducible refine gate_callee (f := 41) rfl ?_); refine goesL_ (some 53) rfl rfl Try.func41 (by kernel_rfl) rfl #[.slice Ao31 t516.length co31] rfl (by (try simp only [List.map_toArray, List.map_cons, List.map_nil]); first | done | rfl | (simp only [List.length_drop, List.length_take]; rfl)) ?_; (with_reducible refine (ctr_May.calls kj7 _ _ t516 true _ ?side1 ?side2 A25.out).mono ?_); (case side1 => repeat (first | exact (Kd.R_reads' HO518.out).2.2 | (with_reducible refine Kd.C_alloc ?_ _) | (with_reducible refine Kd.C_drewN ?_ _) | (with_reducible refine Kd.C_drew ?_))); (case side2 => exact (Kd.R_reads' HO518.out).2.1); rintro e w32 ⟨rfl, hb⟩; refine ⟨_, rfl, ?_⟩; have n0_ := Aside0.mk (Kd.R_below (by (with_reducible repeat (first | apply Kd.R_alloc | apply Kd.R_drewN | apply Kd.R_drew)); exact HO518.out) hb); have n1_ := Aside0.mk (below_step (by repeat (first | (with_reducible first | exact HB.out | apply below_alloc | apply pw_below_drewN | apply below_drew1) | exact HB.out)) hb); clear HO518; clear HB; have HO518 := n0_; have HB := n1_; clear n0_ n1_; (try clear hb); (try clear hb2); (try clear hk); (try clear hi)) | (go_at_call 42; (with_reducible refine (ctr_Get.calls _ _ t516 a1 t520 _ ?side1 ?side2 A27.out).mono ?_); (case side1 => repeat (first | exact (Kd.R_reads' HO518.out).2.2 | (with_reducible refine Kd.C_alloc ?_ _) | (with_reducible refine Kd.C_drewN ?_ _) | (with_reducible refine Kd.C_drew ?_))); (case side2 => exact (Kd.R_reads' HO518.out).2.1); rintro e w33 ⟨rfl, hb⟩; have n0_ := Aside0.mk (Kd.R_below (by (with_reducible repeat (first | apply Kd.R_alloc | apply Kd.R_drewN | apply Kd.R_drew)); exact HO518.out) hb); have n1_ := Aside0.mk (below_step (by repeat (first | (with_reducible first | exact HB.out | apply below_alloc | apply pw_below_drewN | apply below_drew1) | exact HB.out)) hb); clear HO518; clear HB; have HO518 := n0_; have HB := n1_; clear n0_ n1_; (try clear hb); (try clear hb2); (try clear hk); (try clear hi)) | (go_at_call 42; (with_reducible refine (ctr_Get.calls _ _ l0 a1 t521 _ ?side1 ?side2 A28.out).mono ?_); (case side1 => repeat (first | exact (Kd.C_below HR0.out HB.out) | (with_reducible refine Kd.C_alloc ?_ _) | (with_reducible refine Kd.C_drewN ?_ _) | (with_reducible refine Kd.C_drew ?_))); (case side2 => exact HC0.out); rintro e w34 ⟨rfl, hb⟩; have n0_ := Aside0.mk (Kd.R_below (by (with_reducible repeat (first | apply Kd.R_alloc | apply Kd.R_drewN | apply Kd.R_drew)); exact HO518.out) hb); have n1_ := Aside0.mk (below_step (by repeat (first | (with_reducible first | exact HB.out | apply below_alloc | apply pw_below_drewN | apply below_drew1) | exact HB.out)) hb); clear HO518; clear HB; have HO518 := n0_; have HB := n1_; clear n0_ n1_; (try clear hb); (try clear hb2); (try clear hk); (try clear hi)))
        go_meet
        case rel => exact ⟨_, (false), (by first | rfl | (simp; done) | (simp [*]; done)), H', ⟨by have := HJ7.out; first | omega | exact Nat.le_refl _⟩, ⟨by (with_reducible repeat (first | apply Kd.R_alloc | apply Kd.R_drewN | apply Kd.R_drew)); exact HO518.out⟩, ⟨by repeat (first | (with_reducible first | exact HB.out | apply below_alloc | apply pw_below_drewN | apply below_drew1) | exact HB.out)⟩⟩
       ·rw [if_neg c30] at H
        have c30b0 : (a2.toList == a1.toList) = false := beq_eq_false_iff_ne.mpr c30
        have c30b1 : (a2.toList != a1.toList) = true := bne_iff_ne.mpr c30
        replace H := Option.bind_eq_some_iff.mp H
        obtain ⟨t522, A350, H⟩ := H
        replace H : ((ctr_Get.f l0 a2).bind fun t523 => (law06_CtrIncs.j1 kj7 l0 a1 a3 t516 (t522 != t523))) = some r := H
        have A35 := Aside0.mk A350
        clear A350
        replace H := Option.bind_eq_some_iff.mp H
        obtain ⟨t523, A360, H⟩ := H
        replace H : (law06_CtrIncs.j1 kj7 l0 a1 a3 t516 (t522 != t523)) = some r := H
        have A36 := Aside0.mk A360
        clear A360
        have H' := Aside0.mk H
        clear H
        obtain ⟨Ao37, co37, eo37⟩ := Kd.R_slice HO518.out
        subst eo37
        go_wp2_with (first | ((with_reducible refine gate_callee (f := 41) rfl ?_); refine goesL_ (some 53) rfl rfl Try.func41 (by kernel_rfl) rfl #[.slice Ao37 t516.length co37] rfl (by (try simp only [List.map_toArray, List.map_cons, List.map_nil]); first | done | rfl | (simp only [List.length_drop, List.length_take]; rfl)) ?_; (with_reducible refine (ctr_May.calls kj7 _ _ t516 true _ ?side1 ?side2 A25.out).mono ?_); (case side1 => repeat (first | exact (Kd.R_reads' HO518.out).2.2 | (with_reducible refine Kd.C_alloc ?_ _) | (with_reducible refine Kd.C_drewN ?_ _) | (with_reducible refine Kd.C_drew ?_))); (case side2 => exact (Kd.R_reads' HO518.out).2.1); rintro e w38 ⟨rfl, hb⟩; refine ⟨_, rfl, ?_⟩; have n0_ := Aside0.mk (Kd.R_below (by (with_reducible repeat (first | apply Kd.R_alloc | apply Kd.R_drewN | apply Kd.R_drew)); exact HO518.out) hb); have n1_ := Aside0.mk (below_step (by repeat (first | (with_reducible first | exact HB.out | apply below_alloc | apply pw_below_drewN | apply below_drew1) | exact HB.out)) hb); clear HO518; clear HB; have HO518 := n0_; have HB := n1_; clear n0_ n1_; (try clear hb); (try clear hb2); (try clear hk); (try clear hi)) | (go_at_call 42; (with_reducible refine (ctr_Get.calls _ _ t516 a1 t520 _ ?side1 ?side2 A27.out).mono ?_); (case side1 => repeat (first | exact (Kd.R_reads' HO518.out).2.2 | (with_reducible refine Kd.C_alloc ?_ _) | (with_reducible refine Kd.C_drewN ?_ _) | (with_reducible refine Kd.C_drew ?_))); (case side2 => exact (Kd.R_reads' HO518.out).2.1); rintro e w39 ⟨rfl, hb⟩; have n0_ := Aside0.mk (Kd.R_below (by (with_reducible repeat (first | apply Kd.R_alloc | apply Kd.R_drewN | apply Kd.R_drew)); exact HO518.out) hb); have n1_ := Aside0.mk (below_step (by repeat (first | (with_reducible first | exact HB.out | apply below_alloc | apply pw_below_drewN | apply below_drew1) | exact HB.out)) hb); clear HO518; clear HB; have HO518 := n0_; have HB := n1_; clear n0_ n1_; (try clear hb); (try clear hb2); (try clear hk); (try clear hi)) | (go_at_call 42; (with_reducible refine (ctr_Get.calls _ _ l0 a1 t521 _ ?side1 ?side2 A28.out).mono ?_); (case side1 => repeat (first | exact (Kd.C_below HR0.out HB.out) | (with_reducible refine Kd.C_alloc ?_ _) | (with_reducible refine Kd.C_drewN ?_ _) | (with_reducible refine Kd.C_drew ?_))); (case side2 => exact HC0.out); rintro e w40 ⟨rfl, hb⟩; have n0_ := Aside0.mk (Kd.R_below (by (with_reducible repeat (first | apply Kd.R_alloc | apply Kd.R_drewN | apply Kd.R_drew)); exact HO518.out) hb); have n1_ := Aside0.mk (below_step (by repeat (first | (with_reducible first | exact HB.out | apply below_alloc | apply pw_below_drewN | apply below_drew1) | exact HB.out)) hb); clear HO518; clear HB; have HO518 := n0_; have HB := n1_; clear n0_ n1_; (try clear hb); (try clear hb2); (try clear hk); (try clear hi)) | (go_at_call 42; (with_reducible refine (ctr_Get.calls _ _ t516 a2 t522 _ ?side1 ?side2 A35.out).mono ?_); (case side1 => repeat (first | exact (Kd.R_reads' HO518.out).2.2 | (with_reducible refine Kd.C_alloc ?_ _) | (with_reducible refine Kd.C_drewN ?_ _) | (with_reducible refine Kd.C_drew ?_))); (case side2 => exact (Kd.R_reads' HO518.out).2.1); rintro e w41 ⟨rfl, hb⟩; have n0_ := Aside0.mk (Kd.R_below (by (with_reducible repeat (first | apply Kd.R_alloc | apply Kd.R_drewN | apply Kd.R_drew)); exact HO518.out) hb); have n1_ := Aside0.mk (below_step (by repeat (first | (with_reducible first | exact HB.out | apply below_alloc | apply pw_below_drewN | apply below_drew1) | exact HB.out)) hb); clear HO518; clear HB; have HO518 := n0_; have HB := n1_; clear n0_ n1_; (try clear hb); (try clear hb2); (try clear hk); (try clear hi)) | (go_at_call 42; (with_reducible refine (ctr_Get.calls _ _ l0 a2 t523 _ ?side1 ?side2 A36.out).mono ?_); (case side1 => repeat (first | exact (Kd.C_below HR0.out HB.out) | (with_reducible refine Kd.C_alloc ?_ _) | (with_reducible refine Kd.C_drewN ?_ _) | (with_reducible refine Kd.C_drew ?_))); (case side2 => exact HC0.out); rintro e w42 ⟨rfl, hb⟩; have n0_ := Aside0.mk (Kd.R_below (by (with_reducible repeat (first | apply Kd.R_alloc | apply Kd.R_drewN | apply Kd.R_drew)); exact HO518.out) hb); have n1_ := Aside0.mk (below_step (by repeat (first | (with_reducible first | exact HB.out | apply below_alloc | apply pw_below_drewN | apply below_drew1) | exact HB.out)) hb); clear HO518; clear HB; have HO518 := n0_; have HB := n1_; clear n0_ n1_; (try clear hb); (try clear hb2); (try clear hk); (try clear hi)))
        go_meet
        case rel => exact ⟨_, ((t522 != t523)), (by first | rfl | (simp; done) | (simp [*]; done)), H', ⟨by have := HJ7.out; first | omega | exact Nat.le_refl _⟩, ⟨by (with_reducible repeat (first | apply Kd.R_alloc | apply Kd.R_drewN | apply Kd.R_drew)); exact HO518.out⟩, ⟨by repeat (first | (with_reducible first | exact HB.out | apply below_alloc | apply pw_below_drewN | apply below_drew1) | exact HB.out)⟩⟩
      ·rw [if_neg c29] at H
       have c29b0 : (t520 == (wrap64 (t521 + a3))) = false := beq_eq_false_iff_ne.mpr c29
       have c29b1 : (t520 != (wrap64 (t521 + a3))) = true := bne_iff_ne.mpr c29
       (first | rw [c29b0] | (simp only [i64_w, i32_w]; rw [c29b0]) | skip)
       have H' := Aside0.mk H
       clear H
       obtain ⟨Ao43, co43, eo43⟩ := Kd.R_slice HO518.out
       subst eo43
       go_wp2_with (first | ((with_reducible refine gate_callee (f := 41) rfl ?_); refine goesL_ (some 53) rfl rfl Try.func41 (by kernel_rfl) rfl #[.slice Ao43 t516.length co43] rfl (by (try simp only [List.map_toArray, List.map_cons, List.map_nil]); first | done | rfl | (simp only [List.length_drop, List.length_take]; rfl)) ?_; (with_reducible refine (ctr_May.calls kj7 _ _ t516 true _ ?side1 ?side2 A25.out).mono ?_); (case side1 => repeat (first | exact (Kd.R_reads' HO518.out).2.2 | (with_reducible refine Kd.C_alloc ?_ _) | (with_reducible refine Kd.C_drewN ?_ _) | (with_reducible refine Kd.C_drew ?_))); (case side2 => exact (Kd.R_reads' HO518.out).2.1); rintro e w44 ⟨rfl, hb⟩; refine ⟨_, rfl, ?_⟩; have n0_ := Aside0.mk (Kd.R_below (by (with_reducible repeat (first | apply Kd.R_alloc | apply Kd.R_drewN | apply Kd.R_drew)); exact HO518.out) hb); have n1_ := Aside0.mk (below_step (by repeat (first | (with_reducible first | exact HB.out | apply below_alloc | apply pw_below_drewN | apply below_drew1) | exact HB.out)) hb); clear HO518; clear HB; have HO518 := n0_; have HB := n1_; clear n0_ n1_; (try clear hb); (try clear hb2); (try clear hk); (try clear hi)) | (go_at_call 42; (with_reducible refine (ctr_Get.calls _ _ t516 a1 t520 _ ?side1 ?side2 A27.out).mono ?_); (case side1 => repeat (first | exact (Kd.R_reads' HO518.out).2.2 | (with_reducible refine Kd.C_alloc ?_ _) | (with_reducible refine Kd.C_drewN ?_ _) | (with_reducible refine Kd.C_drew ?_))); (case side2 => exact (Kd.R_reads' HO518.out).2.1); rintro e w45 ⟨rfl, hb⟩; have n0_ := Aside0.mk (Kd.R_below (by (with_reducible repeat (first | apply Kd.R_alloc | apply Kd.R_drewN | apply Kd.R_drew)); exact HO518.out) hb); have n1_ := Aside0.mk (below_step (by repeat (first | (with_reducible first | exact HB.out | apply below_alloc | apply pw_below_drewN | apply below_drew1) | exact HB.out)) hb); clear HO518; clear HB; have HO518 := n0_; have HB := n1_; clear n0_ n1_; (try clear hb); (try clear hb2); (try clear hk); (try clear hi)) | (go_at_call 42; (with_reducible refine (ctr_Get.calls _ _ l0 a1 t521 _ ?side1 ?side2 A28.out).mono ?_); (case side1 => repeat (first | exact (Kd.C_below HR0.out HB.out) | (with_reducible refine Kd.C_alloc ?_ _) | (with_reducible refine Kd.C_drewN ?_ _) | (with_reducible refine Kd.C_drew ?_))); (case side2 => exact HC0.out); rintro e w46 ⟨rfl, hb⟩; have n0_ := Aside0.mk (Kd.R_below (by (with_reducible repeat (first | apply Kd.R_alloc | apply Kd.R_drewN | apply Kd.R_drew)); exact HO518.out) hb); have n1_ := Aside0.mk (below_step (by repeat (first | (with_reducible first | exact HB.out | apply below_alloc | apply pw_below_drewN | apply below_drew1) | exact HB.out)) hb); clear HO518; clear HB; have HO518 := n0_; have HB := n1_; clear n0_ n1_; (try clear hb); (try clear hb2); (try clear hk); (try clear hi)))
       go_meet
       case rel => exact ⟨_, (true), (by first | rfl | (simp; done) | (simp [*]; done)), H', ⟨by have := HJ7.out; first | omega | exact Nat.le_refl _⟩, ⟨by (with_reducible repeat (first | apply Kd.R_alloc | apply Kd.R_drewN | apply Kd.R_drew)); exact HO518.out⟩, ⟨by repeat (first | (with_reducible first | exact HB.out | apply below_alloc | apply pw_below_drewN | apply below_drew1) | exact HB.out)⟩⟩
     ·replace c26 := Bool.eq_false_iff.mpr c26
      subst c26
      have H1 : (law06_CtrIncs.j1 kj7 l0 a1 a3 t516 true) = some r := by rw [if_neg (show ¬ (false = true) by decide)] at H; exact H
      clear H
      have H := H1
      clear H1
      have H' := Aside0.mk H
      clear H
      obtain ⟨Ao47, co47, eo47⟩ := Kd.R_slice HO518.out
      subst eo47
      go_wp2_with (first | ((with_reducible refine gate_callee (f := 41) rfl ?_); refine goesL_ (some 53) rfl rfl Try.func41 (by kernel_rfl) rfl #[.slice Ao47 t516.length co47] rfl (by (try simp only [List.map_toArray, List.map_cons, List.map_nil]); first | done | rfl | (simp only [List.length_drop, List.length_take]; rfl)) ?_; (with_reducible refine (ctr_May.calls kj7 _ _ t516 false _ ?side1 ?side2 A25.out).mono ?_); (case side1 => repeat (first | exact (Kd.R_reads' HO518.out).2.2 | (with_reducible refine Kd.C_alloc ?_ _) | (with_reducible refine Kd.C_drewN ?_ _) | (with_reducible refine Kd.C_drew ?_))); (case side2 => exact (Kd.R_reads' HO518.out).2.1); rintro e w48 ⟨rfl, hb⟩; refine ⟨_, rfl, ?_⟩; have n0_ := Aside0.mk (Kd.R_below (by (with_reducible repeat (first | apply Kd.R_alloc | apply Kd.R_drewN | apply Kd.R_drew)); exact HO518.out) hb); have n1_ := Aside0.mk (below_step (by repeat (first | (with_reducible first | exact HB.out | apply below_alloc | apply pw_below_drewN | apply below_drew1) | exact HB.out)) hb); clear HO518; clear HB; have HO518 := n0_; have HB := n1_; clear n0_ n1_; (try clear hb); (try clear hb2); (try clear hk); (try clear hi)))
      go_meet
      case rel => exact ⟨_, (true), (by first | rfl | (simp; done) | (simp [*]; done)), H', ⟨by have := HJ7.out; first | omega | exact Nat.le_refl _⟩, ⟨by (with_reducible repeat (first | apply Kd.R_alloc | apply Kd.R_drewN | apply Kd.R_drew)); exact HO518.out⟩, ⟨by repeat (first | (with_reducible first | exact HB.out | apply below_alloc | apply pw_below_drewN | apply below_drew1) | exact HB.out)⟩⟩
    case rest =>
     clear HC23
     try clear c1
     try clear c2
     try clear p2
     try clear c3
     try clear c4
     try clear p6
     try clear c9
     try clear c10
     try clear c11
     try clear c12
     try clear c14
     try clear c15
     try clear c15b0
     try clear c15b1
     try clear c17
     try clear c17b0
     try clear c21
     try clear c26
     try clear c29
     try clear c29b0
     try clear c29b1
     try clear c30
     try clear c30b0
     try clear c30b1
     try clear c33
     try clear c34
     try clear c37
     try clear c41
     try clear c44
     try clear p2
     obtain ⟨kq, x79_22, rfl, HA, HJ22, HO_12, HB⟩ := hcut
     cases kq with
     | zero => exact absurd HA.out (by simp [law06_CtrIncs.j1])
     | succ kj22 =>
      have H := HA.out
      clear HA
      simp only [law06_CtrIncs.j1] at H
      by_cases c49 : x79_22 = true
      ·subst c49
       have H1 : (some false) = some r := by rw [if_pos rfl] at H; exact H
       clear H
       have H := H1
       clear H1
       obtain rfl := Option.some.inj H
       go_wp2
       go_ret
       exact ⟨by first | rfl | (simp [errW_none, errW_some] <;> rfl) | (simp [*, errW_none, errW_some] <;> rfl), by repeat (first | (with_reducible first | exact HB.out | apply below_alloc | apply pw_below_drewN | apply below_drew1) | exact HB.out)⟩
      ·replace c49 := Bool.eq_false_iff.mpr c49
       subst c49
       have H1 : ((ctr_Inc.f t516 a1 (wrap64 (-a3))).bind fun t524 => ((ref06_Same.f kj22 t524 l0).bind fun t527 => (some t527))) = some r := by rw [if_neg (show ¬ (false = true) by decide)] at H; exact H
       clear H
       have H := H1
       clear H1
       replace H := Option.bind_eq_some_iff.mp H
       obtain ⟨t524, A500, H⟩ := H
       replace H : ((ref06_Same.f kj22 t524 l0).bind fun t527 => (some t527)) = some r := H
       have A50 := Aside0.mk A500
       clear A500
       replace H := Option.bind_eq_some_iff.mp H
       obtain ⟨t527, A510, H⟩ := H
       replace H : (some t527) = some r := H
       have A51 := Aside0.mk A510
       clear A510
       obtain rfl := Option.some.inj H
       obtain ⟨Ao52, co52, eo52⟩ := Kd.R_slice HO_12.out
       subst eo52
       go_wp2_with (first | ((with_reducible refine gate_callee (f := 37) rfl ?_); refine goesL_ (some 84) rfl rfl Try.func37 (by kernel_rfl) rfl #[.slice Ao52 t516.length co52, .string a1, .int .i64 (wrap64 (-a3))] rfl (by (try simp only [List.map_toArray, List.map_cons, List.map_nil]); first | done | rfl | (simp only [List.length_drop, List.length_take]; rfl)) ?_; (with_reducible refine (ctr_Inc.calls _ _ t516 a1 (wrap64 (-a3)) t524 _ ?side1 ?side2 A50.out).mono ?_); (case side1 => repeat (first | exact (Kd.R_reads' HO_12.out).2.2 | (with_reducible refine Kd.C_alloc ?_ _) | (with_reducible refine Kd.C_drewN ?_ _) | (with_reducible refine Kd.C_drew ?_))); (case side2 => exact (Kd.R_reads' HO_12.out).2.1); rintro e w53 ⟨v525, rfl, ho0, hb⟩; refine ⟨_, rfl, ?_⟩; have n0_ := Aside0.mk (Kd.R_elder' (by (with_reducible repeat (first | apply Kd.R_alloc | apply Kd.R_drewN | apply Kd.R_drew)); exact HO_12.out) (Kd.R_base ho0) hb); have n1_ := Aside0.mk (Kd.R_lower (Kd.R_new' ho0 (Kd.R_lt (by (with_reducible repeat (first | apply Kd.R_alloc | apply Kd.R_drewN | apply Kd.R_drew)); exact HO_12.out))) (below_size (by repeat (first | (with_reducible first | exact HB.out | apply below_alloc | apply pw_below_drewN | apply below_drew1) | exact HB.out)))); have n2_ := Aside0.mk (below_step (by repeat (first | (with_reducible first | exact HB.out | apply below_alloc | apply pw_below_drewN | apply below_drew1) | exact HB.out)) hb); clear HO_12; clear HB; have HO_12 := n0_; have HO526 := n1_; have HB := n2_; clear n0_ n1_ n2_; (try clear hb); (try clear hb2); (try clear hk); (try clear hi); (try clear ho0); obtain ⟨Ao54, co54, eo54⟩ := Kd.R_slice HO526.out; subst eo54) | ((with_reducible refine gate_callee (f := 36) rfl ?_); refine goesL_ (some 86) rfl rfl Try.func36 (by kernel_rfl) rfl #[.slice Ao54 t524.length co54, .slice A0 l0.length c0] rfl (by (try simp only [List.map_toArray, List.map_cons, List.map_nil]); first | done | rfl | (simp only [List.length_drop, List.length_take]; rfl)) ?_; (with_reducible refine (ref06_Same.calls kj22 _ _ t524 _ _ l0 t527 _ ?side1 ?side2 ?side3 ?side4 A51.out).mono ?_); (case side1 => repeat (first | exact (Kd.R_reads' HO526.out).2.2 | (with_reducible refine Kd.C_alloc ?_ _) | (with_reducible refine Kd.C_drewN ?_ _) | (with_reducible refine Kd.C_drew ?_))); (case side2 => exact (Kd.R_reads' HO526.out).2.1); (case side3 => repeat (first | exact (Kd.C_below HR0.out HB.out) | (with_reducible refine Kd.C_alloc ?_ _) | (with_reducible refine Kd.C_drewN ?_ _) | (with_reducible refine Kd.C_drew ?_))); (case side4 => exact HC0.out); rintro e w' ⟨rfl, ⟨nd, rfl⟩⟩; refine ⟨_, rfl, ?_⟩))
       go_ret
       exact ⟨by first | rfl | (simp [errW_none, errW_some] <;> rfl) | (simp [*, errW_none, errW_some] <;> rfl), by repeat (first | (with_reducible first | exact HB.out | apply below_alloc | apply pw_below_drewN | apply below_drew1) | exact HB.out)⟩

end Go.Proofs.Ytannmdngejdjkaa.L
