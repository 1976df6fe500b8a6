-- PRINTED by print.py (a twelfth state) out of the translation. Not trusted: Lean checks it.
import Derived.Test.YtannmdngejdjkaaLx0
import Derived.Test.YtannmdngejdjkaaLx20
import Derived.Test.YtannmdngejdjkaaLx21
import Derived.Test.YtannmdngejdjkaaLx22
import Derived.Test.YtannmdngejdjkaaLx23
import Derived.Test.YtannmdngejdjkaaLHCtrMerge
namespace Go.Proofs.Ytannmdngejdjkaa.L
open Go.RowKit Go.Proofs.YtannmdngejdjkaaW.PrintWords Go.Proofs.YtannmdngejdjkaaW.PrintLast Go.Proofs.YtannmdngejdjkaaW.PrintMore
attribute [local go_sem] max2_int min2_int max_two min_two max_three min_three max_four min_four   -- for this text's walks alone
set_option linter.unusedVariables false
set_option linter.unusedSimpArgs false

/-! ### law06_CtrBase: function 11 -/
def law06_CtrBase.j0 : Nat → List (S53) → List (S53) → List (S53) → List (S53) → Bool → Bool → Option (Bool)
 | 0, _, _, _, _, _, _ => none
 | k + 1, x0, x1, x2, x3, x9, x63 => if x63 = true then (some x9) else ((ctr_Merge.f x0 x1 x2).bind fun t577 => ((ctr_Merge.f x0 t577 x3).bind fun t580 => ((ctr_Merge.f x0 x2 x3).bind fun t583 => ((ctr_Merge.f x0 x1 t583).bind fun t586 => ((ref06_Same.f k t580 t586).bind fun t589 => (some t589))))))
def law06_CtrBase.f (k : Nat) (l0 : List (S53)) (l1 : List (S53)) (l2 : List (S53)) (l3 : List (S53)) : Option (Bool) := (law06_awake.f k).bind fun t568 => ((law06_Few.f k l0).bind fun t569 => ((law06_Few.f k l1).bind fun t570 => ((law06_Few.f k l2).bind fun t571 => ((law06_Few.f k l3).bind fun t572 => (if t568 = true then (if t569 = true then (if t570 = true then (if t571 = true then (if t572 = true then ((ctr_May.f k l0).bind fun t573 => (if t573 = true then ((ctr_May.f k l1).bind fun t574 => (if t574 = true then ((ctr_May.f k l2).bind fun t575 => (if t575 = true then ((ctr_May.f k l3).bind fun t576 => (law06_CtrBase.j0 k l0 l1 l2 l3 t568 (!t576))) else (law06_CtrBase.j0 k l0 l1 l2 l3 t568 true))) else (law06_CtrBase.j0 k l0 l1 l2 l3 t568 true))) else (law06_CtrBase.j0 k l0 l1 l2 l3 t568 true))) else (law06_CtrBase.j0 k l0 l1 l2 l3 t568 true)) else (law06_CtrBase.j0 k l0 l1 l2 l3 t568 true)) else (law06_CtrBase.j0 k l0 l1 l2 l3 t568 true)) else (law06_CtrBase.j0 k l0 l1 l2 l3 t568 true)) else (law06_CtrBase.j0 k l0 l1 l2 l3 t568 true))))))
theorem law06_CtrBase.mono_l : ∀ k, (∀ y0 y1 y2 y3 y4 y5, LeO (law06_CtrBase.j0 k y0 y1 y2 y3 y4 y5) (law06_CtrBase.j0 (k + 1) y0 y1 y2 y3 y4 y5))
 | 0 => fun _ _ _ _ _ _ r h => by simp [law06_CtrBase.j0] at h
 | k + 1 => by
  have ih0 := law06_CtrBase.mono_l k
  ·intro y0 y1 y2 y3 y4 y5
   unfold law06_CtrBase.j0
   repeat' first
   | (with_reducible exact ih0 _ _ _ _ _ _)
   | (with_reducible exact ctr_May.mono _ _)
   | (with_reducible exact law06_Few.mono _ _)
   | (with_reducible exact law06_awake.mono _)
   | (with_reducible exact ref06_Same.mono _ _ _)
   | (with_reducible exact LeO.refl _)
   | (with_reducible exact LeO.none _)
   | (with_reducible refine LeO.ite ?_ ?_)
   | (with_reducible refine LeO.bind ?_ (fun _ => ?_))
   | exact ih0 _ _ _ _ _ _
   | exact ctr_May.mono _ _
   | exact law06_Few.mono _ _
   | exact law06_awake.mono _
   | exact ref06_Same.mono _ _ _
   | exact LeO.none _
   | refine LeO.ite ?_ ?_
   | refine LeO.bind ?_ (fun _ => ?_)
theorem law06_CtrBase.mono : ∀ a0 a1 a2 a3 k, LeO (law06_CtrBase.f k a0 a1 a2 a3) (law06_CtrBase.f (k + 1) a0 a1 a2 a3) := by
 intro a0 a1 a2 a3 k
 have ih0 := law06_CtrBase.mono_l k
 unfold law06_CtrBase.f
 repeat' first
   | (with_reducible exact ih0 _ _ _ _ _ _)
   | (with_reducible exact ctr_May.mono _ _)
   | (with_reducible exact law06_Few.mono _ _)
   | (with_reducible exact law06_awake.mono _)
   | (with_reducible exact ref06_Same.mono _ _ _)
   | (with_reducible exact LeO.refl _)
   | (with_reducible exact LeO.none _)
   | (with_reducible refine LeO.ite ?_ ?_)
   | (with_reducible refine LeO.bind ?_ (fun _ => ?_))
   | exact ih0 _ _ _ _ _ _
   | exact ctr_May.mono _ _
   | exact law06_Few.mono _ _
   | exact law06_awake.mono _
   | exact ref06_Same.mono _ _ _
   | exact LeO.none _
   | refine LeO.ite ?_ ?_
   | refine LeO.bind ?_ (fun _ => ?_)
set_option maxHeartbeats 8000000 in
set_option maxRecDepth 100000 in
theorem law06_CtrBase.calls (k : Nat) (A0 : Option Addr) (c0 : Nat) (l0 : List (S53)) (A1 : Option Addr) (c1 : Nat) (l1 : List (S53)) (A2 : Option Addr) (c2 : Nat) (l2 : List (S53)) (A3 : Option Addr) (c3 : Nat) (l3 : List (S53)) (r : Bool) (w : World) (hr0 : Kd.C k53 w A0 l0.length l0) (hc0 : l0.length ≤ c0) (hr1 : Kd.C k53 w A1 l1.length l1) (hc1 : l1.length ≤ c1) (hr2 : Kd.C k53 w A2 l2.length l2) (hc2 : l2.length ≤ c2) (hr3 : Kd.C k53 w A3 l3.length l3) (hc3 : l3.length ≤ c3) (h : law06_CtrBase.f k l0 l1 l2 l3 = some r) :
  Calls Try.prog 11 #[.slice A0 l0.length c0, .slice A1 l1.length c1, .slice A2 l2.length c2, .slice A3 l3.length c3] w fun e w' => e = .returned (.bool r) ∧ Below w.heap.size w w' := by
 have HR0 := Aside0.mk hr0
 have HC0 := Aside0.mk hc0
 clear hr0 hc0
 have HR1 := Aside0.mk hr1
 have HC1 := Aside0.mk hc1
 clear hr1 hc1
 have HR2 := Aside0.mk hr2
 have HC2 := Aside0.mk hc2
 clear hr2 hc2
 have HR3 := Aside0.mk hr3
 have HC3 := Aside0.mk hc3
 clear hr3 hc3
 have HB := Aside0.mk (Below.refl w.heap.size w)
 have H : ((law06_awake.f k).bind fun t568 => ((law06_Few.f k l0).bind fun t569 => ((law06_Few.f k l1).bind fun t570 => ((law06_Few.f k l2).bind fun t571 => ((law06_Few.f k l3).bind fun t572 => (if t568 = true then (if t569 = true then (if t570 = true then (if t571 = true then (if t572 = true then ((ctr_May.f k l0).bind fun t573 => (if t573 = true then ((ctr_May.f k l1).bind fun t574 => (if t574 = true then ((ctr_May.f k l2).bind fun t575 => (if t575 = true then ((ctr_May.f k l3).bind fun t576 => (law06_CtrBase.j0 k l0 l1 l2 l3 t568 (!t576))) else (law06_CtrBase.j0 k l0 l1 l2 l3 t568 true))) else (law06_CtrBase.j0 k l0 l1 l2 l3 t568 true))) else (law06_CtrBase.j0 k l0 l1 l2 l3 t568 true))) else (law06_CtrBase.j0 k l0 l1 l2 l3 t568 true)) else (law06_CtrBase.j0 k l0 l1 l2 l3 t568 true)) else (law06_CtrBase.j0 k l0 l1 l2 l3 t568 true)) else (law06_CtrBase.j0 k l0 l1 l2 l3 t568 true)) else (law06_CtrBase.j0 k l0 l1 l2 l3 t568 true))))))) = some r := h
 clear h
 replace H := Option.bind_eq_some_iff.mp H
 obtain ⟨t568, A50, H⟩ := H
 replace H : ((law06_Few.f k l0).bind fun t569 => ((law06_Few.f k l1).bind fun t570 => ((law06_Few.f k l2).bind fun t571 => ((law06_Few.f k l3).bind fun t572 => (if t568 = true then (if t569 = true then (if t570 = true then (if t571 = true then (if t572 = true then ((ctr_May.f k l0).bind fun t573 => (if t573 = true then ((ctr_May.f k l1).bind fun t574 => (if t574 = true then ((ctr_May.f k l2).bind fun t575 => (if t575 = true then ((ctr_May.f k l3).bind fun t576 => (law06_CtrBase.j0 k l0 l1 l2 l3 t568 (!t576))) else (law06_CtrBase.j0 k l0 l1 l2 l3 t568 true))) else (law06_CtrBase.j0 k l0 l1 l2 l3 t568 true))) else (law06_CtrBase.j0 k l0 l1 l2 l3 t568 true))) else (law06_CtrBase.j0 k l0 l1 l2 l3 t568 true)) else (law06_CtrBase.j0 k l0 l1 l2 l3 t568 true)) else (law06_CtrBase.j0 k l0 l1 l2 l3 t568 true)) else (law06_CtrBase.j0 k l0 l1 l2 l3 t568 true)) else (law06_CtrBase.j0 k l0 l1 l2 l3 t568 true)))))) = some r := H
 have A5 := Aside0.mk A50
 clear A50
 replace H := Option.bind_eq_some_iff.mp H
 obtain ⟨t569, A60, H⟩ := H
 replace H : ((law06_Few.f k l1).bind fun t570 => ((law06_Few.f k l2).bind fun t571 => ((law06_Few.f k l3).bind fun t572 => (if t568 = true then (if t569 = true then (if t570 = true then (if t571 = true then (if t572 = true then ((ctr_May.f k l0).bind fun t573 => (if t573 = true then ((ctr_May.f k l1).bind fun t574 => (if t574 = true then ((ctr_May.f k l2).bind fun t575 => (if t575 = true then ((ctr_May.f k l3).bind fun t576 => (law06_CtrBase.j0 k l0 l1 l2 l3 t568 (!t576))) else (law06_CtrBase.j0 k l0 l1 l2 l3 t568 true))) else (law06_CtrBase.j0 k l0 l1 l2 l3 t568 true))) else (law06_CtrBase.j0 k l0 l1 l2 l3 t568 true))) else (law06_CtrBase.j0 k l0 l1 l2 l3 t568 true)) else (law06_CtrBase.j0 k l0 l1 l2 l3 t568 true)) else (law06_CtrBase.j0 k l0 l1 l2 l3 t568 true)) else (law06_CtrBase.j0 k l0 l1 l2 l3 t568 true)) else (law06_CtrBase.j0 k l0 l1 l2 l3 t568 true))))) = some r := H
 have A6 := Aside0.mk A60
 clear A60
 replace H := Option.bind_eq_some_iff.mp H
 obtain ⟨t570, A70, H⟩ := H
 replace H : ((law06_Few.f k l2).bind fun t571 => ((law06_Few.f k l3).bind fun t572 => (if t568 = true then (if t569 = true then (if t570 = true then (if t571 = true then (if t572 = true then ((ctr_May.f k l0).bind fun t573 => (if t573 = true then ((ctr_May.f k l1).bind fun t574 => (if t574 = true then ((ctr_May.f k l2).bind fun t575 => (if t575 = true then ((ctr_May.f k l3).bind fun t576 => (law06_CtrBase.j0 k l0 l1 l2 l3 t568 (!t576))) else (law06_CtrBase.j0 k l0 l1 l2 l3 t568 true))) else (law06_CtrBase.j0 k l0 l1 l2 l3 t568 true))) else (law06_CtrBase.j0 k l0 l1 l2 l3 t568 true))) else (law06_CtrBase.j0 k l0 l1 l2 l3 t568 true)) else (law06_CtrBase.j0 k l0 l1 l2 l3 t568 true)) else (law06_CtrBase.j0 k l0 l1 l2 l3 t568 true)) else (law06_CtrBase.j0 k l0 l1 l2 l3 t568 true)) else (law06_CtrBase.j0 k l0 l1 l2 l3 t568 true)))) = some r := H
 have A7 := Aside0.mk A70
 clear A70
 replace H := Option.bind_eq_some_iff.mp H
 obtain ⟨t571, A80, H⟩ := H
 replace H : ((law06_Few.f k l3).bind fun t572 => (if t568 = true then (if t569 = true then (if t570 = true then (if t571 = true then (if t572 = true then ((ctr_May.f k l0).bind fun t573 => (if t573 = true then ((ctr_May.f k l1).bind fun t574 => (if t574 = true then ((ctr_May.f k l2).bind fun t575 => (if t575 = true then ((ctr_May.f k l3).bind fun t576 => (law06_CtrBase.j0 k l0 l1 l2 l3 t568 (!t576))) else (law06_CtrBase.j0 k l0 l1 l2 l3 t568 true))) else (law06_CtrBase.j0 k l0 l1 l2 l3 t568 true))) else (law06_CtrBase.j0 k l0 l1 l2 l3 t568 true))) else (law06_CtrBase.j0 k l0 l1 l2 l3 t568 true)) else (law06_CtrBase.j0 k l0 l1 l2 l3 t568 true)) else (law06_CtrBase.j0 k l0 l1 l2 l3 t568 true)) else (law06_CtrBase.j0 k l0 l1 l2 l3 t568 true)) else (law06_CtrBase.j0 k l0 l1 l2 l3 t568 true))) = some r := H
 have A8 := Aside0.mk A80
 clear A80
 replace H := Option.bind_eq_some_iff.mp H
 obtain ⟨t572, A90, H⟩ := H
 replace H : (if t568 = true then (if t569 = true then (if t570 = true then (if t571 = true then (if t572 = true then ((ctr_May.f k l0).bind fun t573 => (if t573 = true then ((ctr_May.f k l1).bind fun t574 => (if t574 = true then ((ctr_May.f k l2).bind fun t575 => (if t575 = true then ((ctr_May.f k l3).bind fun t576 => (law06_CtrBase.j0 k l0 l1 l2 l3 t568 (!t576))) else (law06_CtrBase.j0 k l0 l1 l2 l3 t568 true))) else (law06_CtrBase.j0 k l0 l1 l2 l3 t568 true))) else (law06_CtrBase.j0 k l0 l1 l2 l3 t568 true))) else (law06_CtrBase.j0 k l0 l1 l2 l3 t568 true)) else (law06_CtrBase.j0 k l0 l1 l2 l3 t568 true)) else (law06_CtrBase.j0 k l0 l1 l2 l3 t568 true)) else (law06_CtrBase.j0 k l0 l1 l2 l3 t568 true)) else (law06_CtrBase.j0 k l0 l1 l2 l3 t568 true)) = some r := H
 have A9 := Aside0.mk A90
 clear A90
 have HC10 := Aside0.mk H
 clear H
 go_enter Try.func11, Try.ntmps11
 go_upto_region 6 with (first | ((with_reducible refine gate_callee (f := 33) rfl ?_); refine goesL_ (some 17) rfl rfl Try.func33 (by kernel_rfl) rfl #[] rfl (by (try simp only [List.map_toArray, List.map_cons, List.map_nil]); first | done | rfl | (simp only [List.length_drop, List.length_take]; rfl)) ?_; (with_reducible refine (law06_awake.calls k  t568 _ A5.out).mono ?_); rintro e w11 ⟨rfl, hb⟩; refine ⟨_, rfl, ?_⟩; have n0_ := Aside0.mk (below_step (by repeat (first | (with_reducible first | exact HB.out | apply below_alloc | apply pw_below_drewN | apply below_drew1) | exact HB.out)) hb); clear HB; have HB := n0_; clear n0_; (try clear hb); (try clear hb2); (try clear hk); (try clear hi)) | ((with_reducible refine gate_callee (f := 34) rfl ?_); refine goesL_ (some 19) rfl rfl Try.func34 (by kernel_rfl) rfl #[.slice A0 l0.length c0] rfl (by (try simp only [List.map_toArray, List.map_cons, List.map_nil]); first | done | rfl | (simp only [List.length_drop, List.length_take]; rfl)) ?_; (with_reducible refine (law06_Few.calls k _ _ l0 t569 _ ?side1 ?side2 A6.out).mono ?_); (case side1 => repeat (first | exact (Kd.C_below HR0.out HB.out) | (with_reducible refine Kd.C_alloc ?_ _) | (with_reducible refine Kd.C_drewN ?_ _) | (with_reducible refine Kd.C_drew ?_))); (case side2 => exact HC0.out); rintro e w' ⟨rfl, ⟨nd, rfl⟩⟩; refine ⟨_, rfl, ?_⟩) | ((with_reducible refine gate_callee (f := 34) rfl ?_); refine goesL_ (some 21) rfl rfl Try.func34 (by kernel_rfl) rfl #[.slice A1 l1.length c1] rfl (by (try simp only [List.map_toArray, List.map_cons, List.map_nil]); first | done | rfl | (simp only [List.length_drop, List.length_take]; rfl)) ?_; (with_reducible refine (law06_Few.calls k _ _ l1 t570 _ ?side1 ?side2 A7.out).mono ?_); (case side1 => repeat (first | exact (Kd.C_below HR1.out (by repeat (first | (with_reducible first | exact HB.out | apply below_alloc | apply pw_below_drewN | apply below_drew1) | exact HB.out))) | (with_reducible refine Kd.C_alloc ?_ _) | (with_reducible refine Kd.C_drewN ?_ _) | (with_reducible refine Kd.C_drew ?_))); (case side2 => exact HC1.out); rintro e w' ⟨rfl, ⟨nd, rfl⟩⟩; refine ⟨_, rfl, ?_⟩) | ((with_reducible refine gate_callee (f := 34) rfl ?_); refine goesL_ (some 23) rfl rfl Try.func34 (by kernel_rfl) rfl #[.slice A2 l2.length c2] rfl (by (try simp only [List.map_toArray, List.map_cons, List.map_nil]); first | done | rfl | (simp only [List.length_drop, List.length_take]; rfl)) ?_; (with_reducible refine (law06_Few.calls k _ _ l2 t571 _ ?side1 ?side2 A8.out).mono ?_); (case side1 => repeat (first | exact (Kd.C_below HR2.out (by repeat (first | (with_reducible first | exact HB.out | apply below_alloc | apply pw_below_drewN | apply below_drew1) | exact HB.out))) | (with_reducible refine Kd.C_alloc ?_ _) | (with_reducible refine Kd.C_drewN ?_ _) | (with_reducible refine Kd.C_drew ?_))); (case side2 => exact HC2.out); rintro e w' ⟨rfl, ⟨nd, rfl⟩⟩; refine ⟨_, rfl, ?_⟩) | ((with_reducible refine gate_callee (f := 34) rfl ?_); refine goesL_ (some 25) rfl rfl Try.func34 (by kernel_rfl) rfl #[.slice A3 l3.length c3] rfl (by (try simp only [List.map_toArray, List.map_cons, List.map_nil]); first | done | rfl | (simp only [List.length_drop, List.length_take]; rfl)) ?_; (with_reducible refine (law06_Few.calls k _ _ l3 t572 _ ?side1 ?side2 A9.out).mono ?_); (case side1 => repeat (first | exact (Kd.C_below HR3.out (by repeat (first | (with_reducible first | exact HB.out | apply below_alloc | apply pw_below_drewN | apply below_drew1) | exact HB.out))) | (with_reducible refine Kd.C_alloc ?_ _) | (with_reducible refine Kd.C_drewN ?_ _) | (with_reducible refine Kd.C_drew ?_))); (case side2 => exact HC3.out); rintro e w' ⟨rfl, ⟨nd, rfl⟩⟩; refine ⟨_, rfl, ?_⟩))
 (try simp only [Act.put, List.setIfInBounds_toArray, List.set_cons_zero, List.set_cons_succ])
 go_cut [63] (fun v63 wc => ∃ (kq : Nat) (x63_9 : Bool), v63 = .bool x63_9 ∧ Aside0 (law06_CtrBase.j0 kq l0 l1 l2 l3 t568 x63_9 = some r) ∧ Aside0 (kq ≤ k) ∧ Aside0 (Below w.heap.size w wc))
 case first =>
  have H := HC10.out
  clear HC10
  by_cases c12 : t568 = true
  ·subst c12
   have H1 : (if t569 = true then (if t570 = true then (if t571 = true then (if t572 = true then ((ctr_May.f k l0).bind fun t573 => (if t573 = true then ((ctr_May.f k l1).bind fun t574 => (if t574 = true then ((ctr_May.f k l2).bind fun t575 => (if t575 = true then ((ctr_May.f k l3).bind fun t576 => (law06_CtrBase.j0 k l0 l1 l2 l3 true (!t576))) else (law06_CtrBase.j0 k l0 l1 l2 l3 true true))) else (law06_CtrBase.j0 k l0 l1 l2 l3 true true))) else (law06_CtrBase.j0 k l0 l1 l2 l3 true true))) else (law06_CtrBase.j0 k l0 l1 l2 l3 true true)) else (law06_CtrBase.j0 k l0 l1 l2 l3 true true)) else (law06_CtrBase.j0 k l0 l1 l2 l3 true true)) else (law06_CtrBase.j0 k l0 l1 l2 l3 true true)) = some r := by rw [if_pos rfl] at H; exact H
   clear H
   have H := H1
   clear H1
   by_cases c13 : t569 = true
   ·subst c13
    have H1 : (if t570 = true then (if t571 = true then (if t572 = true then ((ctr_May.f k l0).bind fun t573 => (if t573 = true then ((ctr_May.f k l1).bind fun t574 => (if t574 = true then ((ctr_May.f k l2).bind fun t575 => (if t575 = true then ((ctr_May.f k l3).bind fun t576 => (law06_CtrBase.j0 k l0 l1 l2 l3 true (!t576))) else (law06_CtrBase.j0 k l0 l1 l2 l3 true true))) else (law06_CtrBase.j0 k l0 l1 l2 l3 true true))) else (law06_CtrBase.j0 k l0 l1 l2 l3 true true))) else (law06_CtrBase.j0 k l0 l1 l2 l3 true true)) else (law06_CtrBase.j0 k l0 l1 l2 l3 true true)) else (law06_CtrBase.j0 k l0 l1 l2 l3 true true)) = some r := by rw [if_pos rfl] at H; exact H
    clear H
    have H := H1
    clear H1
    by_cases c14 : t570 = true
    ·subst c14
     have H1 : (if t571 = true then (if t572 = true then ((ctr_May.f k l0).bind fun t573 => (if t573 = true then ((ctr_May.f k l1).bind fun t574 => (if t574 = true then ((ctr_May.f k l2).bind fun t575 => (if t575 = true then ((ctr_May.f k l3).bind fun t576 => (law06_CtrBase.j0 k l0 l1 l2 l3 true (!t576))) else (law06_CtrBase.j0 k l0 l1 l2 l3 true true))) else (law06_CtrBase.j0 k l0 l1 l2 l3 true true))) else (law06_CtrBase.j0 k l0 l1 l2 l3 true true))) else (law06_CtrBase.j0 k l0 l1 l2 l3 true true)) else (law06_CtrBase.j0 k l0 l1 l2 l3 true true)) = some r := by rw [if_pos rfl] at H; exact H
     clear H
     have H := H1
     clear H1
     by_cases c15 : t571 = true
     ·subst c15
      have H1 : (if t572 = true then ((ctr_May.f k l0).bind fun t573 => (if t573 = true then ((ctr_May.f k l1).bind fun t574 => (if t574 = true then ((ctr_May.f k l2).bind fun t575 => (if t575 = true then ((ctr_May.f k l3).bind fun t576 => (law06_CtrBase.j0 k l0 l1 l2 l3 true (!t576))) else (law06_CtrBase.j0 k l0 l1 l2 l3 true true))) else (law06_CtrBase.j0 k l0 l1 l2 l3 true true))) else (law06_CtrBase.j0 k l0 l1 l2 l3 true true))) else (law06_CtrBase.j0 k l0 l1 l2 l3 true true)) = some r := by rw [if_pos rfl] at H; exact H
      clear H
      have H := H1
      clear H1
      by_cases c16 : t572 = true
      ·subst c16
       have H1 : ((ctr_May.f k l0).bind fun t573 => (if t573 = true then ((ctr_May.f k l1).bind fun t574 => (if t574 = true then ((ctr_May.f k l2).bind fun t575 => (if t575 = true then ((ctr_May.f k l3).bind fun t576 => (law06_CtrBase.j0 k l0 l1 l2 l3 true (!t576))) else (law06_CtrBase.j0 k l0 l1 l2 l3 true true))) else (law06_CtrBase.j0 k l0 l1 l2 l3 true true))) else (law06_CtrBase.j0 k l0 l1 l2 l3 true true))) = some r := by rw [if_pos rfl] at H; exact H
       clear H
       have H := H1
       clear H1
       replace H := Option.bind_eq_some_iff.mp H
       obtain ⟨t573, A170, H⟩ := H
       replace H : (if t573 = true then ((ctr_May.f k l1).bind fun t574 => (if t574 = true then ((ctr_May.f k l2).bind fun t575 => (if t575 = true then ((ctr_May.f k l3).bind fun t576 => (law06_CtrBase.j0 k l0 l1 l2 l3 true (!t576))) else (law06_CtrBase.j0 k l0 l1 l2 l3 true true))) else (law06_CtrBase.j0 k l0 l1 l2 l3 true true))) else (law06_CtrBase.j0 k l0 l1 l2 l3 true true)) = some r := H
       have A17 := Aside0.mk A170
       clear A170
       by_cases c18 : t573 = true
       ·subst c18
        have H1 : ((ctr_May.f k l1).bind fun t574 => (if t574 = true then ((ctr_May.f k l2).bind fun t575 => (if t575 = true then ((ctr_May.f k l3).bind fun t576 => (law06_CtrBase.j0 k l0 l1 l2 l3 true (!t576))) else (law06_CtrBase.j0 k l0 l1 l2 l3 true true))) else (law06_CtrBase.j0 k l0 l1 l2 l3 true true))) = some r := by rw [if_pos rfl] at H; exact H
        clear H
        have H := H1
        clear H1
        replace H := Option.bind_eq_some_iff.mp H
        obtain ⟨t574, A190, H⟩ := H
        replace H : (if t574 = true then ((ctr_May.f k l2).bind fun t575 => (if t575 = true then ((ctr_May.f k l3).bind fun t576 => (law06_CtrBase.j0 k l0 l1 l2 l3 true (!t576))) else (law06_CtrBase.j0 k l0 l1 l2 l3 true true))) else (law06_CtrBase.j0 k l0 l1 l2 l3 true true)) = some r := H
        have A19 := Aside0.mk A190
        clear A190
        by_cases c20 : t574 = true
        ·subst c20
         have H1 : ((ctr_May.f k l2).bind fun t575 => (if t575 = true then ((ctr_May.f k l3).bind fun t576 => (law06_CtrBase.j0 k l0 l1 l2 l3 true (!t576))) else (law06_CtrBase.j0 k l0 l1 l2 l3 true true))) = some r := by rw [if_pos rfl] at H; exact H
         clear H
         have H := H1
         clear H1
         replace H := Option.bind_eq_some_iff.mp H
         obtain ⟨t575, A210, H⟩ := H
         replace H : (if t575 = true then ((ctr_May.f k l3).bind fun t576 => (law06_CtrBase.j0 k l0 l1 l2 l3 true (!t576))) else (law06_CtrBase.j0 k l0 l1 l2 l3 true true)) = some r := H
         have A21 := Aside0.mk A210
         clear A210
         by_cases c22 : t575 = true
         ·subst c22
          have H1 : ((ctr_May.f k l3).bind fun t576 => (law06_CtrBase.j0 k l0 l1 l2 l3 true (!t576))) = some r := by rw [if_pos rfl] at H; exact H
          clear H
          have H := H1
          clear H1
          replace H := Option.bind_eq_some_iff.mp H
          obtain ⟨t576, A230, H⟩ := H
          replace H : (law06_CtrBase.j0 k l0 l1 l2 l3 true (!t576)) = some r := H
          have A23 := Aside0.mk A230
          clear A230
          have H' := Aside0.mk H
          clear H
          go_wp2_with (first | (go_at_call 41; (with_reducible refine (ctr_May.calls k _ _ l0 true _ ?side1 ?side2 A17.out).mono ?_); (case side1 => repeat (first | exact (Kd.C_below HR0.out HB.out) | (with_reducible refine Kd.C_alloc ?_ _) | (with_reducible refine Kd.C_drewN ?_ _) | (with_reducible refine Kd.C_drew ?_))); (case side2 => exact HC0.out); rintro e w24 ⟨rfl, hb⟩; have n0_ := Aside0.mk (below_step (by repeat (first | (with_reducible first | exact HB.out | apply below_alloc | apply pw_below_drewN | apply below_drew1) | exact HB.out)) hb); clear HB; have HB := n0_; clear n0_; (try clear hb); (try clear hb2); (try clear hk); (try clear hi)) | (go_at_call 41; (with_reducible refine (ctr_May.calls k _ _ l1 true _ ?side1 ?side2 A19.out).mono ?_); (case side1 => repeat (first | exact (Kd.C_below HR1.out HB.out) | (with_reducible refine Kd.C_alloc ?_ _) | (with_reducible refine Kd.C_drewN ?_ _) | (with_reducible refine Kd.C_drew ?_))); (case side2 => exact HC1.out); rintro e w25 ⟨rfl, hb⟩; have n0_ := Aside0.mk (below_step (by repeat (first | (with_reducible first | exact HB.out | apply below_alloc | apply pw_below_drewN | apply below_drew1) | exact HB.out)) hb); clear HB; have HB := n0_; clear n0_; (try clear hb); (try clear hb2); (try clear hk); (try clear hi)) | (go_at_call 41; (with_reducible refine (ctr_May.calls k _ _ l2 true _ ?side1 ?side2 A21.out).mono ?_); (case side1 => repeat (first | exact (Kd.C_below HR2.out HB.out) | (with_reducible refine Kd.C_alloc ?_ _) | (with_reducible refine Kd.C_drewN ?_ _) | (with_reducible refine Kd.C_drew ?_))); (case side2 => exact HC2.out); rintro e w26 ⟨rfl, hb⟩; have n0_ := Aside0.mk (below_step (by repeat (first | (with_reducible first | exact HB.out | apply below_alloc | apply pw_below_drewN | apply below_drew1) | exact HB.out)) hb); clear HB; have HB := n0_; clear n0_; (try clear hb); (try clear hb2); (try clear hk); (try clear hi)) | (go_at_call 41; (with_reducible refine (ctr_May.calls k _ _ l3 t576 _ ?side1 ?side2 A23.out).mono ?_); (case side1 => repeat (first | exact (Kd.C_below HR3.out HB.out) | (with_reducible refine Kd.C_alloc ?_ _) | (with_reducible refine Kd.C_drewN ?_ _) | (with_reducible refine Kd.C_drew ?_))); (case side2 => exact HC3.out); rintro e w27 ⟨rfl, hb⟩; have n0_ := Aside0.mk (below_step (by repeat (first | (with_reducible first | exact HB.out | apply below_alloc | apply pw_below_drewN | apply below_drew1) | exact HB.out)) hb); clear HB; have HB := n0_; clear n0_; (try clear hb); (try clear hb2); (try clear hk); (try clear hi)))
          go_meet
          case rel => exact ⟨_, (!t576), (by first | rfl | (simp; done) | (simp [*]; done)), H', ⟨by first | omega | exact Nat.le_refl _⟩, ⟨by repeat (first | (with_reducible first | exact HB.out | apply below_alloc | apply pw_below_drewN | apply below_drew1) | exact HB.out)⟩⟩
         ·replace c22 := Bool.eq_false_iff.mpr c22
          subst c22
          have H1 : (law06_CtrBase.j0 k l0 l1 l2 l3 true true) = some r := by rw [if_neg (show ¬ (false = true) by decide)] at H; exact H
          clear H
          have H := H1
          clear H1
          have H' := Aside0.mk H
          clear H
          go_wp2_with (first | (go_at_call 41; (with_reducible refine (ctr_May.calls k _ _ l0 true _ ?side1 ?side2 A17.out).mono ?_); (case side1 => repeat (first | exact (Kd.C_below HR0.out HB.out) | (with_reducible refine Kd.C_alloc ?_ _) | (with_reducible refine Kd.C_drewN ?_ _) | (with_reducible refine Kd.C_drew ?_))); (case side2 => exact HC0.out); rintro e w28 ⟨rfl, hb⟩; have n0_ := Aside0.mk (below_step (by repeat (first | (with_reducible first | exact HB.out | apply below_alloc | apply pw_below_drewN | apply below_drew1) | exact HB.out)) hb); clear HB; have HB := n0_; clear n0_; (try clear hb); (try clear hb2); (try clear hk); (try clear hi)) | (go_at_call 41; (with_reducible refine (ctr_May.calls k _ _ l1 true _ ?side1 ?side2 A19.out).mono ?_); (case side1 => repeat (first | exact (Kd.C_below HR1.out HB.out) | (with_reducible refine Kd.C_alloc ?_ _) | (with_reducible refine Kd.C_drewN ?_ _) | (with_reducible refine Kd.C_drew ?_))); (case side2 => exact HC1.out); rintro e w29 ⟨rfl, hb⟩; have n0_ := Aside0.mk (below_step (by repeat (first | (with_reducible first | exact HB.out | apply below_alloc | apply pw_below_drewN | apply below_drew1) | exact HB.out)) hb); clear HB; have HB := n0_; clear n0_; (try clear hb); (try clear hb2); (try clear hk); (try clear hi)) | (go_at_call 41; (with_reducible refine (ctr_May.calls k _ _ l2 false _ ?side1 ?side2 A21.out).mono ?_); (case side1 => repeat (first | exact (Kd.C_below HR2.out HB.out) | (with_reducible refine Kd.C_alloc ?_ _) | (with_reducible refine Kd.C_drewN ?_ _) | (with_reducible refine Kd.C_drew ?_))); (case side2 => exact HC2.out); rintro e w30 ⟨rfl, hb⟩; have n0_ := Aside0.mk (below_step (by repeat (first | (with_reducible first | exact HB.out | apply below_alloc | apply pw_below_drewN | apply below_drew1) | exact HB.out)) hb); clear HB; have HB := n0_; clear n0_; (try clear hb); (try clear hb2); (try clear hk); (try clear hi)))
          go_meet
          case rel => exact ⟨_, (true), (by first | rfl | (simp; done) | (simp [*]; done)), H', ⟨by first | omega | exact Nat.le_refl _⟩, ⟨by repeat (first | (with_reducible first | exact HB.out | apply below_alloc | apply pw_below_drewN | apply below_drew1) | exact HB.out)⟩⟩
        ·replace c20 := Bool.eq_false_iff.mpr c20
         subst c20
         have H1 : (law06_CtrBase.j0 k l0 l1 l2 l3 true true) = some r := by rw [if_neg (show ¬ (false = true) by decide)] at H; exact H
         clear H
         have H := H1
         clear H1
         have H' := Aside0.mk H
         clear H
         go_wp2_with (first | (go_at_call 41; (with_reducible refine (ctr_May.calls k _ _ l0 true _ ?side1 ?side2 A17.out).mono ?_); (case side1 => repeat (first | exact (Kd.C_below HR0.out HB.out) | (with_reducible refine Kd.C_alloc ?_ _) | (with_reducible refine Kd.C_drewN ?_ _) | (with_reducible refine Kd.C_drew ?_))); (case side2 => exact HC0.out); rintro e w31 ⟨rfl, hb⟩; have n0_ := Aside0.mk (below_step (by repeat (first | (with_reducible first | exact HB.out | apply below_alloc | apply pw_below_drewN | apply below_drew1) | exact HB.out)) hb); clear HB; have HB := n0_; clear n0_; (try clear hb); (try clear hb2); (try clear hk); (try clear hi)) | (go_at_call 41; (with_reducible refine (ctr_May.calls k _ _ l1 false _ ?side1 ?side2 A19.out).mono ?_); (case side1 => repeat (first | exact (Kd.C_below HR1.out HB.out) | (with_reducible refine Kd.C_alloc ?_ _) | (with_reducible refine Kd.C_drewN ?_ _) | (with_reducible refine Kd.C_drew ?_))); (case side2 => exact HC1.out); rintro e w32 ⟨rfl, hb⟩; have n0_ := Aside0.mk (below_step (by repeat (first | (with_reducible first | exact HB.out | apply below_alloc | apply pw_below_drewN | apply below_drew1) | exact HB.out)) hb); clear HB; have HB := n0_; clear n0_; (try clear hb); (try clear hb2); (try clear hk); (try clear hi)))
         go_meet
         case rel => exact ⟨_, (true), (by first | rfl | (simp; done) | (simp [*]; done)), H', ⟨by first | omega | exact Nat.le_refl _⟩, ⟨by repeat (first | (with_reducible first | exact HB.out | apply below_alloc | apply pw_below_drewN | apply below_drew1) | exact HB.out)⟩⟩
       ·replace c18 := Bool.eq_false_iff.mpr c18
        subst c18
        have H1 : (law06_CtrBase.j0 k l0 l1 l2 l3 true true) = some r := by rw [if_neg (show ¬ (false = true) by decide)] at H; exact H
        clear H
        have H := H1
        clear H1
        have H' := Aside0.mk H
        clear H
        go_wp2_with (first | (go_at_call 41; (with_reducible refine (ctr_May.calls k _ _ l0 false _ ?side1 ?side2 A17.out).mono ?_); (case side1 => repeat (first | exact (Kd.C_below HR0.out HB.out) | (with_reducible refine Kd.C_alloc ?_ _) | (with_reducible refine Kd.C_drewN ?_ _) | (with_reducible refine Kd.C_drew ?_))); (case side2 => exact HC0.out); rintro e w33 ⟨rfl, hb⟩; have n0_ := Aside0.mk (below_step (by repeat (first | (with_reducible first | exact HB.out | apply below_alloc | apply pw_below_drewN | apply below_drew1) | exact HB.out)) hb); clear HB; have HB := n0_; clear n0_; (try clear hb); (try clear hb2); (try clear hk); (try clear hi)))
        go_meet
        case rel => exact ⟨_, (true), (by first | rfl | (simp; done) | (simp [*]; done)), H', ⟨by first | omega | exact Nat.le_refl _⟩, ⟨by repeat (first | (with_reducible first | exact HB.out | apply below_alloc | apply pw_below_drewN | apply below_drew1) | exact HB.out)⟩⟩
      ·replace c16 := Bool.eq_false_iff.mpr c16
       subst c16
       have H1 : (law06_CtrBase.j0 k l0 l1 l2 l3 true true) = some r := by rw [if_neg (show ¬ (false = true) by decide)] at H; exact H
       clear H
       have H := H1
       clear H1
       have H' := Aside0.mk H
       clear H
       go_wp2
       go_meet
       case rel => exact ⟨_, (true), (by first | rfl | (simp; done) | (simp [*]; done)), H', ⟨by first | omega | exact Nat.le_refl _⟩, ⟨by repeat (first | (with_reducible first | exact HB.out | apply below_alloc | apply pw_below_drewN | apply below_drew1) | exact HB.out)⟩⟩
     ·replace c15 := Bool.eq_false_iff.mpr c15
      subst c15
      have H1 : (law06_CtrBase.j0 k l0 l1 l2 l3 true true) = some r := by rw [if_neg (show ¬ (false = true) by decide)] at H; exact H
      clear H
      have H := H1
      clear H1
      have H' := Aside0.mk H
      clear H
      go_wp2
      go_meet
      case rel => exact ⟨_, (true), (by first | rfl | (simp; done) | (simp [*]; done)), H', ⟨by first | omega | exact Nat.le_refl _⟩, ⟨by repeat (first | (with_reducible first | exact HB.out | apply below_alloc | apply pw_below_drewN | apply below_drew1) | exact HB.out)⟩⟩
    ·replace c14 := Bool.eq_false_iff.mpr c14
     subst c14
     have H1 : (law06_CtrBase.j0 k l0 l1 l2 l3 true true) = some r := by rw [if_neg (show ¬ (false = true) by decide)] at H; exact H
     clear H
     have H := H1
     clear H1
     have H' := Aside0.mk H
     clear H
     go_wp2
     go_meet
     case rel => exact ⟨_, (true), (by first | rfl | (simp; done) | (simp [*]; done)), H', ⟨by first | omega | exact Nat.le_refl _⟩, ⟨by repeat (first | (with_reducible first | exact HB.out | apply below_alloc | apply pw_below_drewN | apply below_drew1) | exact HB.out)⟩⟩
   ·replace c13 := Bool.eq_false_iff.mpr c13
    subst c13
    have H1 : (law06_CtrBase.j0 k l0 l1 l2 l3 true true) = some r := by rw [if_neg (show ¬ (false = true) by decide)] at H; exact H
    clear H
    have H := H1
    clear H1
    have H' := Aside0.mk H
    clear H
    go_wp2
    go_meet
    case rel => exact ⟨_, (true), (by first | rfl | (simp; done) | (simp [*]; done)), H', ⟨by first | omega | exact Nat.le_refl _⟩, ⟨by repeat (first | (with_reducible first | exact HB.out | apply below_alloc | apply pw_below_drewN | apply below_drew1) | exact HB.out)⟩⟩
  ·replace c12 := Bool.eq_false_iff.mpr c12
   subst c12
   have H1 : (law06_CtrBase.j0 k l0 l1 l2 l3 false true) = some r := by rw [if_neg (show ¬ (false = true) by decide)] at H; exact H
   clear H
   have H := H1
   clear H1
   have H' := Aside0.mk H
   clear H
   go_wp2
   go_meet
   case rel => exact ⟨_, (true), (by first | rfl | (simp; done) | (simp [*]; done)), H', ⟨by first | omega | exact Nat.le_refl _⟩, ⟨by repeat (first | (with_reducible first | exact HB.out | apply below_alloc | apply pw_below_drewN | apply below_drew1) | exact HB.out)⟩⟩
 case rest =>
  clear HC10
  try clear c1
  try clear c2
  try clear p2
  try clear c3
  try clear c11
  try clear c12
  try clear c13
  try clear c14
  try clear c15
  try clear c16
  try clear c18
  try clear c20
  try clear c22
  try clear c33
  obtain ⟨kq, x63_9, rfl, HA, HJ9, HB⟩ := hcut
  cases kq with
  | zero => exact absurd HA.out (by simp [law06_CtrBase.j0])
  | succ kj9 =>
   have H := HA.out
   clear HA
   simp only [law06_CtrBase.j0] at H
   by_cases c34 : x63_9 = true
   ·subst c34
    have H1 : (some t568) = some r := by rw [if_pos rfl] at H; exact H
    clear H
    have H := H1
    clear H1
    obtain rfl := Option.some.inj H
    go_wp2
    go_ret
    exact ⟨by first | rfl | (simp [errW_none, errW_some] <;> rfl) | (simp [*, errW_none, errW_some] <;> rfl), by repeat (first | (with_reducible first | exact HB.out | apply below_alloc | apply pw_below_drewN | apply below_drew1) | exact HB.out)⟩
   ·replace c34 := Bool.eq_false_iff.mpr c34
    subst c34
    have H1 : ((ctr_Merge.f l0 l1 l2).bind fun t577 => ((ctr_Merge.f l0 t577 l3).bind fun t580 => ((ctr_Merge.f l0 l2 l3).bind fun t583 => ((ctr_Merge.f l0 l1 t583).bind fun t586 => ((ref06_Same.f kj9 t580 t586).bind fun t589 => (some t589)))))) = some r := by rw [if_neg (show ¬ (false = true) by decide)] at H; exact H
    clear H
    have H := H1
    clear H1
    replace H := Option.bind_eq_some_iff.mp H
    obtain ⟨t577, A350, H⟩ := H
    replace H : ((ctr_Merge.f l0 t577 l3).bind fun t580 => ((ctr_Merge.f l0 l2 l3).bind fun t583 => ((ctr_Merge.f l0 l1 t583).bind fun t586 => ((ref06_Same.f kj9 t580 t586).bind fun t589 => (some t589))))) = some r := H
    have A35 := Aside0.mk A350
    clear A350
    replace H := Option.bind_eq_some_iff.mp H
    obtain ⟨t580, A360, H⟩ := H
    replace H : ((ctr_Merge.f l0 l2 l3).bind fun t583 => ((ctr_Merge.f l0 l1 t583).bind fun t586 => ((ref06_Same.f kj9 t580 t586).bind fun t589 => (some t589)))) = some r := H
    have A36 := Aside0.mk A360
    clear A360
    replace H := Option.bind_eq_some_iff.mp H
    obtain ⟨t583, A370, H⟩ := H
    replace H : ((ctr_Merge.f l0 l1 t583).bind fun t586 => ((ref06_Same.f kj9 t580 t586).bind fun t589 => (some t589))) = some r := H
    have A37 := Aside0.mk A370
    clear A370
    replace H := Option.bind_eq_some_iff.mp H
    obtain ⟨t586, A380, H⟩ := H
    replace H : ((ref06_Same.f kj9 t580 t586).bind fun t589 => (some t589)) = some r := H
    have A38 := Aside0.mk A380
    clear A380
    replace H := Option.bind_eq_some_iff.mp H
    obtain ⟨t589, A390, H⟩ := H
    replace H : (some t589) = some r := H
    have A39 := Aside0.mk A390
    clear A390
    obtain rfl := Option.some.inj H
    go_wp2_with (first | ((with_reducible refine gate_callee (f := 39) rfl ?_); refine goesL_ (some 69) rfl rfl Try.func39 (by kernel_rfl) rfl #[.slice A0 l0.length c0, .slice A1 l1.length c1, .slice A2 l2.length c2] rfl (by (try simp only [List.map_toArray, List.map_cons, List.map_nil]); first | done | rfl | (simp only [List.length_drop, List.length_take]; rfl)) ?_; (with_reducible refine (ctr_Merge.calls _ _ l0 _ _ l1 _ _ l2 t577 _ ?side1 ?side2 ?side3 ?side4 ?side5 ?side6 A35.out).mono ?_); (case side1 => repeat (first | exact (Kd.C_below HR0.out HB.out) | (with_reducible refine Kd.C_alloc ?_ _) | (with_reducible refine Kd.C_drewN ?_ _) | (with_reducible refine Kd.C_drew ?_))); (case side2 => exact HC0.out); (case side3 => repeat (first | exact (Kd.C_below HR1.out HB.out) | (with_reducible refine Kd.C_alloc ?_ _) | (with_reducible refine Kd.C_drewN ?_ _) | (with_reducible refine Kd.C_drew ?_))); (case side4 => exact HC1.out); (case side5 => repeat (first | exact (Kd.C_below HR2.out HB.out) | (with_reducible refine Kd.C_alloc ?_ _) | (with_reducible refine Kd.C_drewN ?_ _) | (with_reducible refine Kd.C_drew ?_))); (case side6 => exact HC2.out); rintro e w40 ⟨v578, rfl, ho0, hb⟩; refine ⟨_, rfl, ?_⟩; have n0_ := Aside0.mk (Kd.R_lower ho0 (below_size (by repeat (first | (with_reducible first | exact HB.out | apply below_alloc | apply pw_below_drewN | apply below_drew1) | exact HB.out)))); have n1_ := Aside0.mk (below_step (by repeat (first | (with_reducible first | exact HB.out | apply below_alloc | apply pw_below_drewN | apply below_drew1) | exact HB.out)) hb); clear HB; have HO579 := n0_; have HB := n1_; clear n0_ n1_; (try clear hb); (try clear hb2); (try clear hk); (try clear hi); (try clear ho0); obtain ⟨Ao41, co41, eo41⟩ := Kd.R_slice HO579.out; subst eo41) | ((with_reducible refine gate_callee (f := 39) rfl ?_); refine goesL_ (some 71) rfl rfl Try.func39 (by kernel_rfl) rfl #[.slice A0 l0.length c0, .slice Ao41 t577.length co41, .slice A3 l3.length c3] rfl (by (try simp only [List.map_toArray, List.map_cons, List.map_nil]); first | done | rfl | (simp only [List.length_drop, List.length_take]; rfl)) ?_; (with_reducible refine (ctr_Merge.calls _ _ l0 _ _ t577 _ _ l3 t580 _ ?side1 ?side2 ?side3 ?side4 ?side5 ?side6 A36.out).mono ?_); (case side1 => repeat (first | exact (Kd.C_below HR0.out HB.out) | (with_reducible refine Kd.C_alloc ?_ _) | (with_reducible refine Kd.C_drewN ?_ _) | (with_reducible refine Kd.C_drew ?_))); (case side2 => exact HC0.out); (case side3 => repeat (first | exact (Kd.R_reads' HO579.out).2.2 | (with_reducible refine Kd.C_alloc ?_ _) | (with_reducible refine Kd.C_drewN ?_ _) | (with_reducible refine Kd.C_drew ?_))); (case side4 => exact (Kd.R_reads' HO579.out).2.1); (case side5 => repeat (first | exact (Kd.C_below HR3.out HB.out) | (with_reducible refine Kd.C_alloc ?_ _) | (with_reducible refine Kd.C_drewN ?_ _) | (with_reducible refine Kd.C_drew ?_))); (case side6 => exact HC3.out); rintro e w42 ⟨v581, rfl, ho0, hb⟩; refine ⟨_, rfl, ?_⟩; have n0_ := Aside0.mk (Kd.R_elder' (by (with_reducible repeat (first | apply Kd.R_alloc | apply Kd.R_drewN | apply Kd.R_drew)); exact HO579.out) (Kd.R_base ho0) hb); have n1_ := Aside0.mk (Kd.R_lower (Kd.R_new' ho0 (Kd.R_lt (by (with_reducible repeat (first | apply Kd.R_alloc | apply Kd.R_drewN | apply Kd.R_drew)); exact HO579.out))) (below_size (by repeat (first | (with_reducible first | exact HB.out | apply below_alloc | apply pw_below_drewN | apply below_drew1) | exact HB.out)))); have n2_ := Aside0.mk (below_step (by repeat (first | (with_reducible first | exact HB.out | apply below_alloc | apply pw_below_drewN | apply below_drew1) | exact HB.out)) hb); clear HO579; clear HB; have HO579 := n0_; have HO582 := n1_; have HB := n2_; clear n0_ n1_ n2_; (try clear hb); (try clear hb2); (try clear hk); (try clear hi); (try clear ho0)) | ((with_reducible refine gate_callee (f := 39) rfl ?_); refine goesL_ (some 77) rfl rfl Try.func39 (by kernel_rfl) rfl #[.slice A0 l0.length c0, .slice A2 l2.length c2, .slice A3 l3.length c3] rfl (by (try simp only [List.map_toArray, List.map_cons, List.map_nil]); first | done | rfl | (simp only [List.length_drop, List.length_take]; rfl)) ?_; (with_reducible refine (ctr_Merge.calls _ _ l0 _ _ l2 _ _ l3 t583 _ ?side1 ?side2 ?side3 ?side4 ?side5 ?side6 A37.out).mono ?_); (case side1 => repeat (first | exact (Kd.C_below HR0.out HB.out) | (with_reducible refine Kd.C_alloc ?_ _) | (with_reducible refine Kd.C_drewN ?_ _) | (with_reducible refine Kd.C_drew ?_))); (case side2 => exact HC0.out); (case side3 => repeat (first | exact (Kd.C_below HR2.out HB.out) | (with_reducible refine Kd.C_alloc ?_ _) | (with_reducible refine Kd.C_drewN ?_ _) | (with_reducible refine Kd.C_drew ?_))); (case side4 => exact HC2.out); (case side5 => repeat (first | exact (Kd.C_below HR3.out HB.out) | (with_reducible refine Kd.C_alloc ?_ _) | (with_reducible refine Kd.C_drewN ?_ _) | (with_reducible refine Kd.C_drew ?_))); (case side6 => exact HC3.out); rintro e w43 ⟨v584, rfl, ho0, hb⟩; refine ⟨_, rfl, ?_⟩; have n0_ := Aside0.mk (Kd.R_elder' (by (with_reducible repeat (first | apply Kd.R_alloc | apply Kd.R_drewN | apply Kd.R_drew)); exact HO579.out) (Kd.R_base ho0) hb); have n1_ := Aside0.mk (Kd.R_elder' (by (with_reducible repeat (first | apply Kd.R_alloc | apply Kd.R_drewN | apply Kd.R_drew)); exact HO582.out) (Kd.R_base ho0) hb); have n2_ := Aside0.mk (Kd.R_lower (Kd.R_new' (Kd.R_new' ho0 (Kd.R_lt (by (with_reducible repeat (first | apply Kd.R_alloc | apply Kd.R_drewN | apply Kd.R_drew)); exact HO579.out))) (Kd.R_lt (by (with_reducible repeat (first | apply Kd.R_alloc | apply Kd.R_drewN | apply Kd.R_drew)); exact HO582.out))) (below_size (by repeat (first | (with_reducible first | exact HB.out | apply below_alloc | apply pw_below_drewN | apply below_drew1) | exact HB.out)))); have n3_ := Aside0.mk (below_step (by repeat (first | (with_reducible first | exact HB.out | apply below_alloc | apply pw_below_drewN | apply below_drew1) | exact HB.out)) hb); clear HO579; clear HO582; clear HB; have HO579 := n0_; have HO582 := n1_; have HO585 := n2_; have HB := n3_; clear n0_ n1_ n2_ n3_; (try clear hb); (try clear hb2); (try clear hk); (try clear hi); (try clear ho0); obtain ⟨Ao44, co44, eo44⟩ := Kd.R_slice HO585.out; subst eo44) | ((with_reducible refine gate_callee (f := 39) rfl ?_); refine goesL_ (some 78) rfl rfl Try.func39 (by kernel_rfl) rfl #[.slice A0 l0.length c0, .slice A1 l1.length c1, .slice Ao44 t583.length co44] rfl (by (try simp only [List.map_toArray, List.map_cons, List.map_nil]); first | done | rfl | (simp only [List.length_drop, List.length_take]; rfl)) ?_; (with_reducible refine (ctr_Merge.calls _ _ l0 _ _ l1 _ _ t583 t586 _ ?side1 ?side2 ?side3 ?side4 ?side5 ?side6 A38.out).mono ?_); (case side1 => repeat (first | exact (Kd.C_below HR0.out HB.out) | (with_reducible refine Kd.C_alloc ?_ _) | (with_reducible refine Kd.C_drewN ?_ _) | (with_reducible refine Kd.C_drew ?_))); (case side2 => exact HC0.out); (case side3 => repeat (first | exact (Kd.C_below HR1.out HB.out) | (with_reducible refine Kd.C_alloc ?_ _) | (with_reducible refine Kd.C_drewN ?_ _) | (with_reducible refine Kd.C_drew ?_))); (case side4 => exact HC1.out); (case side5 => repeat (first | exact (Kd.R_reads' HO585.out).2.2 | (with_reducible refine Kd.C_alloc ?_ _) | (with_reducible refine Kd.C_drewN ?_ _) | (with_reducible refine Kd.C_drew ?_))); (case side6 => exact (Kd.R_reads' HO585.out).2.1); rintro e w45 ⟨v587, rfl, ho0, hb⟩; refine ⟨_, rfl, ?_⟩; have n0_ := Aside0.mk (Kd.R_elder' (by (with_reducible repeat (first | apply Kd.R_alloc | apply Kd.R_drewN | apply Kd.R_drew)); exact HO579.out) (Kd.R_base ho0) hb); have n1_ := Aside0.mk (Kd.R_elder' (by (with_reducible repeat (first | apply Kd.R_alloc | apply Kd.R_drewN | apply Kd.R_drew)); exact HO582.out) (Kd.R_base ho0) hb); have n2_ := Aside0.mk (Kd.R_elder' (by (with_reducible repeat (first | apply Kd.R_alloc | apply Kd.R_drewN | apply Kd.R_drew)); exact HO585.out) (Kd.R_base ho0) hb); have n3_ := Aside0.mk (Kd.R_lower (Kd.R_new' (Kd.R_new' (Kd.R_new' ho0 (Kd.R_lt (by (with_reducible repeat (first | apply Kd.R_alloc | apply Kd.R_drewN | apply Kd.R_drew)); exact HO579.out))) (Kd.R_lt (by (with_reducible repeat (first | apply Kd.R_alloc | apply Kd.R_drewN | apply Kd.R_drew)); exact HO582.out))) (Kd.R_lt (by (with_reducible repeat (first | apply Kd.R_alloc | apply Kd.R_drewN | apply Kd.R_drew)); exact HO585.out))) (below_size (by repeat (first | (with_reducible first | exact HB.out | apply below_alloc | apply pw_below_drewN | apply below_drew1) | exact HB.out)))); have n4_ := Aside0.mk (below_step (by repeat (first | (with_reducible first | exact HB.out | apply below_alloc | apply pw_below_drewN | apply below_drew1) | exact HB.out)) hb); clear HO579; clear HO582; clear HO585; clear HB; have HO579 := n0_; have HO582 := n1_; have HO585 := n2_; have HO588 := n3_; have HB := n4_; clear n0_ n1_ n2_ n3_ n4_; (try clear hb); (try clear hb2); (try clear hk); (try clear hi); (try clear ho0); obtain ⟨Ao46, co46, eo46⟩ := Kd.R_slice HO582.out; subst eo46; obtain ⟨Ao47, co47, eo47⟩ := Kd.R_slice HO588.out; subst eo47) | ((with_reducible refine gate_callee (f := 36) rfl ?_); refine goesL_ (some 81) rfl rfl Try.func36 (by kernel_rfl) rfl #[.slice Ao46 t580.length co46, .slice Ao47 t586.length co47] rfl (by (try simp only [List.map_toArray, List.map_cons, List.map_nil]); first | done | rfl | (simp only [List.length_drop, List.length_take]; rfl)) ?_; (with_reducible refine (ref06_Same.calls kj9 _ _ t580 _ _ t586 t589 _ ?side1 ?side2 ?side3 ?side4 A39.out).mono ?_); (case side1 => repeat (first | exact (Kd.R_reads' HO582.out).2.2 | (with_reducible refine Kd.C_alloc ?_ _) | (with_reducible refine Kd.C_drewN ?_ _) | (with_reducible refine Kd.C_drew ?_))); (case side2 => exact (Kd.R_reads' HO582.out).2.1); (case side3 => repeat (first | exact (Kd.R_reads' HO588.out).2.2 | (with_reducible refine Kd.C_alloc ?_ _) | (with_reducible refine Kd.C_drewN ?_ _) | (with_reducible refine Kd.C_drew ?_))); (case side4 => exact (Kd.R_reads' HO588.out).2.1); rintro e w' ⟨rfl, ⟨nd, rfl⟩⟩; refine ⟨_, rfl, ?_⟩))
    go_ret
    exact ⟨by first | rfl | (simp [errW_none, errW_some] <;> rfl) | (simp [*, errW_none, errW_some] <;> rfl), by repeat (first | (with_reducible first | exact HB.out | apply below_alloc | apply pw_below_drewN | apply below_drew1) | exact HB.out)⟩

end Go.Proofs.Ytannmdngejdjkaa.L
