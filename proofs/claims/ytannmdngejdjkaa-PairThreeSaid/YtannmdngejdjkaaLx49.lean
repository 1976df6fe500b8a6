-- PRINTED by print.py (a twelfth state) out of the translation. Not trusted: Lean checks it.
import Derived.Test.YtannmdngejdjkaaLx0
import Derived.Test.YtannmdngejdjkaaLx33
import Derived.Test.YtannmdngejdjkaaLx34
import Derived.Test.YtannmdngejdjkaaLx35
import Derived.Test.YtannmdngejdjkaaLx38
import Derived.Test.YtannmdngejdjkaaLHPairMerge
namespace Go.Proofs.Ytannmdngejdjkaa.L
open Go.RowKit Go.Proofs.YtannmdngejdjkaaW.PrintWords Go.Proofs.YtannmdngejdjkaaW.PrintLast Go.Proofs.YtannmdngejdjkaaW.PrintMore
attribute [local go_sem] max2_int min2_int max_two min_two max_three min_three max_four min_four   -- for this text's walks alone
set_option linter.unusedVariables false
set_option linter.unusedSimpArgs false

/-! ### law08_PairThree: function 19 -/
def law08_PairThree.j0 : Nat → List (S57) → List (S57) → List (S57) → List (S57) → Bool → Bool → Option (Bool)
 | 0, _, _, _, _, _, _ => none
 | k + 1, x0, x1, x2, x3, x9, x61 => if x61 = true then (some x9) else ((pair_Merge.f x0 x1 x2).bind fun t976 => ((pair_Merge.f x0 t976 x3).bind fun t979 => ((pair_Merge.f x0 x2 x3).bind fun t982 => ((pair_Merge.f x0 x1 t982).bind fun t985 => ((ref08_Same.f k t979 t985).bind fun t988 => (some t988))))))
def law08_PairThree.f (k : Nat) (l0 : List (S57)) (l1 : List (S57)) (l2 : List (S57)) (l3 : List (S57)) : Option (Bool) := (law08_awake.f k).bind fun t967 => ((law08_Few.f k l0).bind fun t968 => ((law08_Few.f k l1).bind fun t969 => ((law08_Few.f k l2).bind fun t970 => ((law08_Few.f k l3).bind fun t971 => (if t967 = true then (if t968 = true then (if t969 = true then (if t970 = true then (if t971 = true then ((pair_May.f k l0).bind fun t972 => (if t972 = true then ((pair_May.f k l1).bind fun t973 => (if t973 = true then ((pair_May.f k l2).bind fun t974 => (if t974 = true then ((pair_May.f k l3).bind fun t975 => (law08_PairThree.j0 k l0 l1 l2 l3 t967 (!t975))) else (law08_PairThree.j0 k l0 l1 l2 l3 t967 true))) else (law08_PairThree.j0 k l0 l1 l2 l3 t967 true))) else (law08_PairThree.j0 k l0 l1 l2 l3 t967 true))) else (law08_PairThree.j0 k l0 l1 l2 l3 t967 true)) else (law08_PairThree.j0 k l0 l1 l2 l3 t967 true)) else (law08_PairThree.j0 k l0 l1 l2 l3 t967 true)) else (law08_PairThree.j0 k l0 l1 l2 l3 t967 true)) else (law08_PairThree.j0 k l0 l1 l2 l3 t967 true))))))
theorem law08_PairThree.mono_l : ∀ k, (∀ y0 y1 y2 y3 y4 y5, LeO (law08_PairThree.j0 k y0 y1 y2 y3 y4 y5) (law08_PairThree.j0 (k + 1) y0 y1 y2 y3 y4 y5))
 | 0 => fun _ _ _ _ _ _ r h => by simp [law08_PairThree.j0] at h
 | k + 1 => by
  have ih0 := law08_PairThree.mono_l k
  ·intro y0 y1 y2 y3 y4 y5
   unfold law08_PairThree.j0
   repeat' first
   | (with_reducible exact ih0 _ _ _ _ _ _)
   | (with_reducible exact law08_Few.mono _ _)
   | (with_reducible exact law08_awake.mono _)
   | (with_reducible exact pair_May.mono _ _)
   | (with_reducible exact ref08_Same.mono _ _ _)
   | (with_reducible exact LeO.refl _)
   | (with_reducible exact LeO.none _)
   | (with_reducible refine LeO.ite ?_ ?_)
   | (with_reducible refine LeO.bind ?_ (fun _ => ?_))
   | exact ih0 _ _ _ _ _ _
   | exact law08_Few.mono _ _
   | exact law08_awake.mono _
   | exact pair_May.mono _ _
   | exact ref08_Same.mono _ _ _
   | exact LeO.none _
   | refine LeO.ite ?_ ?_
   | refine LeO.bind ?_ (fun _ => ?_)
theorem law08_PairThree.mono : ∀ a0 a1 a2 a3 k, LeO (law08_PairThree.f k a0 a1 a2 a3) (law08_PairThree.f (k + 1) a0 a1 a2 a3) := by
 intro a0 a1 a2 a3 k
 have ih0 := law08_PairThree.mono_l k
 unfold law08_PairThree.f
 repeat' first
   | (with_reducible exact ih0 _ _ _ _ _ _)
   | (with_reducible exact law08_Few.mono _ _)
   | (with_reducible exact law08_awake.mono _)
   | (with_reducible exact pair_May.mono _ _)
   | (with_reducible exact ref08_Same.mono _ _ _)
   | (with_reducible exact LeO.refl _)
   | (with_reducible exact LeO.none _)
   | (with_reducible refine LeO.ite ?_ ?_)
   | (with_reducible refine LeO.bind ?_ (fun _ => ?_))
   | exact ih0 _ _ _ _ _ _
   | exact law08_Few.mono _ _
   | exact law08_awake.mono _
   | exact pair_May.mono _ _
   | exact ref08_Same.mono _ _ _
   | exact LeO.none _
   | refine LeO.ite ?_ ?_
   | refine LeO.bind ?_ (fun _ => ?_)
set_option maxHeartbeats 8000000 in
set_option maxRecDepth 100000 in
theorem law08_PairThree.calls (k : Nat) (A0 : Option Addr) (c0 : Nat) (l0 : List (S57)) (A1 : Option Addr) (c1 : Nat) (l1 : List (S57)) (A2 : Option Addr) (c2 : Nat) (l2 : List (S57)) (A3 : Option Addr) (c3 : Nat) (l3 : List (S57)) (r : Bool) (w : World) (hr0 : Kd.C k57 w A0 l0.length l0) (hc0 : l0.length ≤ c0) (hr1 : Kd.C k57 w A1 l1.length l1) (hc1 : l1.length ≤ c1) (hr2 : Kd.C k57 w A2 l2.length l2) (hc2 : l2.length ≤ c2) (hr3 : Kd.C k57 w A3 l3.length l3) (hc3 : l3.length ≤ c3) (h : law08_PairThree.f k l0 l1 l2 l3 = some r) :
  Calls Try.prog 19 #[.slice A0 l0.length c0, .slice A1 l1.length c1, .slice A2 l2.length c2, .slice A3 l3.length c3] w fun e w' => e = .returned (.bool r) ∧ Below w.heap.size w w' := by
 have HR0 := Aside0.mk hr0
 have HC0 := Aside0.mk hc0
 clear hr0 hc0
 have HR1 := Aside0.mk hr1
 have HC1 := Aside0.mk hc1
 clear hr1 hc1
 have HR2 := Aside0.mk hr2
 have HC2 := Aside0.mk hc2
 clear hr2 hc2
 have HR3 := Aside0.mk hr3
 have HC3 := Aside0.mk hc3
 clear hr3 hc3
 have HB := Aside0.mk (Below.refl w.heap.size w)
 have H : ((law08_awake.f k).bind fun t967 => ((law08_Few.f k l0).bind fun t968 => ((law08_Few.f k l1).bind fun t969 => ((law08_Few.f k l2).bind fun t970 => ((law08_Few.f k l3).bind fun t971 => (if t967 = true then (if t968 = true then (if t969 = true then (if t970 = true then (if t971 = true then ((pair_May.f k l0).bind fun t972 => (if t972 = true then ((pair_May.f k l1).bind fun t973 => (if t973 = true then ((pair_May.f k l2).bind fun t974 => (if t974 = true then ((pair_May.f k l3).bind fun t975 => (law08_PairThree.j0 k l0 l1 l2 l3 t967 (!t975))) else (law08_PairThree.j0 k l0 l1 l2 l3 t967 true))) else (law08_PairThree.j0 k l0 l1 l2 l3 t967 true))) else (law08_PairThree.j0 k l0 l1 l2 l3 t967 true))) else (law08_PairThree.j0 k l0 l1 l2 l3 t967 true)) else (law08_PairThree.j0 k l0 l1 l2 l3 t967 true)) else (law08_PairThree.j0 k l0 l1 l2 l3 t967 true)) else (law08_PairThree.j0 k l0 l1 l2 l3 t967 true)) else (law08_PairThree.j0 k l0 l1 l2 l3 t967 true))))))) = some r := h
 clear h
 replace H := Option.bind_eq_some_iff.mp H
 obtain ⟨t967, A50, H⟩ := H
 replace H : ((law08_Few.f k l0).bind fun t968 => ((law08_Few.f k l1).bind fun t969 => ((law08_Few.f k l2).bind fun t970 => ((law08_Few.f k l3).bind fun t971 => (if t967 = true then (if t968 = true then (if t969 = true then (if t970 = true then (if t971 = true then ((pair_May.f k l0).bind fun t972 => (if t972 = true then ((pair_May.f k l1).bind fun t973 => (if t973 = true then ((pair_May.f k l2).bind fun t974 => (if t974 = true then ((pair_May.f k l3).bind fun t975 => (law08_PairThree.j0 k l0 l1 l2 l3 t967 (!t975))) else (law08_PairThree.j0 k l0 l1 l2 l3 t967 true))) else (law08_PairThree.j0 k l0 l1 l2 l3 t967 true))) else (law08_PairThree.j0 k l0 l1 l2 l3 t967 true))) else (law08_PairThree.j0 k l0 l1 l2 l3 t967 true)) else (law08_PairThree.j0 k l0 l1 l2 l3 t967 true)) else (law08_PairThree.j0 k l0 l1 l2 l3 t967 true)) else (law08_PairThree.j0 k l0 l1 l2 l3 t967 true)) else (law08_PairThree.j0 k l0 l1 l2 l3 t967 true)))))) = some r := H
 have A5 := Aside0.mk A50
 clear A50
 replace H := Option.bind_eq_some_iff.mp H
 obtain ⟨t968, A60, H⟩ := H
 replace H : ((law08_Few.f k l1).bind fun t969 => ((law08_Few.f k l2).bind fun t970 => ((law08_Few.f k l3).bind fun t971 => (if t967 = true then (if t968 = true then (if t969 = true then (if t970 = true then (if t971 = true then ((pair_May.f k l0).bind fun t972 => (if t972 = true then ((pair_May.f k l1).bind fun t973 => (if t973 = true then ((pair_May.f k l2).bind fun t974 => (if t974 = true then ((pair_May.f k l3).bind fun t975 => (law08_PairThree.j0 k l0 l1 l2 l3 t967 (!t975))) else (law08_PairThree.j0 k l0 l1 l2 l3 t967 true))) else (law08_PairThree.j0 k l0 l1 l2 l3 t967 true))) else (law08_PairThree.j0 k l0 l1 l2 l3 t967 true))) else (law08_PairThree.j0 k l0 l1 l2 l3 t967 true)) else (law08_PairThree.j0 k l0 l1 l2 l3 t967 true)) else (law08_PairThree.j0 k l0 l1 l2 l3 t967 true)) else (law08_PairThree.j0 k l0 l1 l2 l3 t967 true)) else (law08_PairThree.j0 k l0 l1 l2 l3 t967 true))))) = some r := H
 have A6 := Aside0.mk A60
 clear A60
 replace H := Option.bind_eq_some_iff.mp H
 obtain ⟨t969, A70, H⟩ := H
 replace H : ((law08_Few.f k l2).bind fun t970 => ((law08_Few.f k l3).bind fun t971 => (if t967 = true then (if t968 = true then (if t969 = true then (if t970 = true then (if t971 = true then ((pair_May.f k l0).bind fun t972 => (if t972 = true then ((pair_May.f k l1).bind fun t973 => (if t973 = true then ((pair_May.f k l2).bind fun t974 => (if t974 = true then ((pair_May.f k l3).bind fun t975 => (law08_PairThree.j0 k l0 l1 l2 l3 t967 (!t975))) else (law08_PairThree.j0 k l0 l1 l2 l3 t967 true))) else (law08_PairThree.j0 k l0 l1 l2 l3 t967 true))) else (law08_PairThree.j0 k l0 l1 l2 l3 t967 true))) else (law08_PairThree.j0 k l0 l1 l2 l3 t967 true)) else (law08_PairThree.j0 k l0 l1 l2 l3 t967 true)) else (law08_PairThree.j0 k l0 l1 l2 l3 t967 true)) else (law08_PairThree.j0 k l0 l1 l2 l3 t967 true)) else (law08_PairThree.j0 k l0 l1 l2 l3 t967 true)))) = some r := H
 have A7 := Aside0.mk A70
 clear A70
 replace H := Option.bind_eq_some_iff.mp H
 obtain ⟨t970, A80, H⟩ := H
 replace H : ((law08_Few.f k l3).bind fun t971 => (if t967 = true then (if t968 = true then (if t969 = true then (if t970 = true then (if t971 = true then ((pair_May.f k l0).bind fun t972 => (if t972 = true then ((pair_May.f k l1).bind fun t973 => (if t973 = true then ((pair_May.f k l2).bind fun t974 => (if t974 = true then ((pair_May.f k l3).bind fun t975 => (law08_PairThree.j0 k l0 l1 l2 l3 t967 (!t975))) else (law08_PairThree.j0 k l0 l1 l2 l3 t967 true))) else (law08_PairThree.j0 k l0 l1 l2 l3 t967 true))) else (law08_PairThree.j0 k l0 l1 l2 l3 t967 true))) else (law08_PairThree.j0 k l0 l1 l2 l3 t967 true)) else (law08_PairThree.j0 k l0 l1 l2 l3 t967 true)) else (law08_PairThree.j0 k l0 l1 l2 l3 t967 true)) else (law08_PairThree.j0 k l0 l1 l2 l3 t967 true)) else (law08_PairThree.j0 k l0 l1 l2 l3 t967 true))) = some r := H
 have A8 := Aside0.mk A80
 clear A80
 replace H := Option.bind_eq_some_iff.mp H
 obtain ⟨t971, A90, H⟩ := H
 replace H : (if t967 = true then (if t968 = true then (if t969 = true then (if t970 = true then (if t971 = true then ((pair_May.f k l0).bind fun t972 => (if t972 = true then ((pair_May.f k l1).bind fun t973 => (if t973 = true then ((pair_May.f k l2).bind fun t974 => (if t974 = true then ((pair_May.f k l3).bind fun t975 => (law08_PairThree.j0 k l0 l1 l2 l3 t967 (!t975))) else (law08_PairThree.j0 k l0 l1 l2 l3 t967 true))) else (law08_PairThree.j0 k l0 l1 l2 l3 t967 true))) else (law08_PairThree.j0 k l0 l1 l2 l3 t967 true))) else (law08_PairThree.j0 k l0 l1 l2 l3 t967 true)) else (law08_PairThree.j0 k l0 l1 l2 l3 t967 true)) else (law08_PairThree.j0 k l0 l1 l2 l3 t967 true)) else (law08_PairThree.j0 k l0 l1 l2 l3 t967 true)) else (law08_PairThree.j0 k l0 l1 l2 l3 t967 true)) = some r := H
 have A9 := Aside0.mk A90
 clear A90
 have HC10 := Aside0.mk H
 clear H
 go_enter Try.func19, Try.ntmps19
 go_upto_region 6 with (first | ((with_reducible refine gate_callee (f := 45) rfl ?_); refine goesL_ (some 15) rfl rfl Try.func45 (by kernel_rfl) rfl #[] rfl (by (try simp only [List.map_toArray, List.map_cons, List.map_nil]); first | done | rfl | (simp only [List.length_drop, List.length_take]; rfl)) ?_; (with_reducible refine (law08_awake.calls k  t967 _ A5.out).mono ?_); rintro e w11 ⟨rfl, hb⟩; refine ⟨_, rfl, ?_⟩; have n0_ := Aside0.mk (below_step (by repeat (first | (with_reducible first | exact HB.out | apply below_alloc | apply pw_below_drewN | apply below_drew1) | exact HB.out)) hb); clear HB; have HB := n0_; clear n0_; (try clear hb); (try clear hb2); (try clear hk); (try clear hi)) | ((with_reducible refine gate_callee (f := 46) rfl ?_); refine goesL_ (some 17) rfl rfl Try.func46 (by kernel_rfl) rfl #[.slice A0 l0.length c0] rfl (by (try simp only [List.map_toArray, List.map_cons, List.map_nil]); first | done | rfl | (simp only [List.length_drop, List.length_take]; rfl)) ?_; (with_reducible refine (law08_Few.calls k _ _ l0 t968 _ ?side1 ?side2 A6.out).mono ?_); (case side1 => repeat (first | exact (Kd.C_below HR0.out HB.out) | (with_reducible refine Kd.C_alloc ?_ _) | (with_reducible refine Kd.C_drewN ?_ _) | (with_reducible refine Kd.C_drew ?_))); (case side2 => exact HC0.out); rintro e w' ⟨rfl, ⟨nd, rfl⟩⟩; refine ⟨_, rfl, ?_⟩) | ((with_reducible refine gate_callee (f := 46) rfl ?_); refine goesL_ (some 19) rfl rfl Try.func46 (by kernel_rfl) rfl #[.slice A1 l1.length c1] rfl (by (try simp only [List.map_toArray, List.map_cons, List.map_nil]); first | done | rfl | (simp only [List.length_drop, List.length_take]; rfl)) ?_; (with_reducible refine (law08_Few.calls k _ _ l1 t969 _ ?side1 ?side2 A7.out).mono ?_); (case side1 => repeat (first | exact (Kd.C_below HR1.out (by repeat (first | (with_reducible first | exact HB.out | apply below_alloc | apply pw_below_drewN | apply below_drew1) | exact HB.out))) | (with_reducible refine Kd.C_alloc ?_ _) | (with_reducible refine Kd.C_drewN ?_ _) | (with_reducible refine Kd.C_drew ?_))); (case side2 => exact HC1.out); rintro e w' ⟨rfl, ⟨nd, rfl⟩⟩; refine ⟨_, rfl, ?_⟩) | ((with_reducible refine gate_callee (f := 46) rfl ?_); refine goesL_ (some 21) rfl rfl Try.func46 (by kernel_rfl) rfl #[.slice A2 l2.length c2] rfl (by (try simp only [List.map_toArray, List.map_cons, List.map_nil]); first | done | rfl | (simp only [List.length_drop, List.length_take]; rfl)) ?_; (with_reducible refine (law08_Few.calls k _ _ l2 t970 _ ?side1 ?side2 A8.out).mono ?_); (case side1 => repeat (first | exact (Kd.C_below HR2.out (by repeat (first | (with_reducible first | exact HB.out | apply below_alloc | apply pw_below_drewN | apply below_drew1) | exact HB.out))) | (with_reducible refine Kd.C_alloc ?_ _) | (with_reducible refine Kd.C_drewN ?_ _) | (with_reducible refine Kd.C_drew ?_))); (case side2 => exact HC2.out); rintro e w' ⟨rfl, ⟨nd, rfl⟩⟩; refine ⟨_, rfl, ?_⟩) | ((with_reducible refine gate_callee (f := 46) rfl ?_); refine goesL_ (some 23) rfl rfl Try.func46 (by kernel_rfl) rfl #[.slice A3 l3.length c3] rfl (by (try simp only [List.map_toArray, List.map_cons, List.map_nil]); first | done | rfl | (simp only [List.length_drop, List.length_take]; rfl)) ?_; (with_reducible refine (law08_Few.calls k _ _ l3 t971 _ ?side1 ?side2 A9.out).mono ?_); (case side1 => repeat (first | exact (Kd.C_below HR3.out (by repeat (first | (with_reducible first | exact HB.out | apply below_alloc | apply pw_below_drewN | apply below_drew1) | exact HB.out))) | (with_reducible refine Kd.C_alloc ?_ _) | (with_reducible refine Kd.C_drewN ?_ _) | (with_reducible refine Kd.C_drew ?_))); (case side2 => exact HC3.out); rintro e w' ⟨rfl, ⟨nd, rfl⟩⟩; refine ⟨_, rfl, ?_⟩))
 (try simp only [Act.put, List.setIfInBounds_toArray, List.set_cons_zero, List.set_cons_succ])
 go_cut [61] (fun v61 wc => ∃ (kq : Nat) (x61_9 : Bool), v61 = .bool x61_9 ∧ Aside0 (law08_PairThree.j0 kq l0 l1 l2 l3 t967 x61_9 = some r) ∧ Aside0 (kq ≤ k) ∧ Aside0 (Below w.heap.size w wc))
 case first =>
  have H := HC10.out
  clear HC10
  by_cases c12 : t967 = true
  ·subst c12
   have H1 : (if t968 = true then (if t969 = true then (if t970 = true then (if t971 = true then ((pair_May.f k l0).bind fun t972 => (if t972 = true then ((pair_May.f k l1).bind fun t973 => (if t973 = true then ((pair_May.f k l2).bind fun t974 => (if t974 = true then ((pair_May.f k l3).bind fun t975 => (law08_PairThree.j0 k l0 l1 l2 l3 true (!t975))) else (law08_PairThree.j0 k l0 l1 l2 l3 true true))) else (law08_PairThree.j0 k l0 l1 l2 l3 true true))) else (law08_PairThree.j0 k l0 l1 l2 l3 true true))) else (law08_PairThree.j0 k l0 l1 l2 l3 true true)) else (law08_PairThree.j0 k l0 l1 l2 l3 true true)) else (law08_PairThree.j0 k l0 l1 l2 l3 true true)) else (law08_PairThree.j0 k l0 l1 l2 l3 true true)) = some r := by rw [if_pos rfl] at H; exact H
   clear H
   have H := H1
   clear H1
   by_cases c13 : t968 = true
   ·subst c13
    have H1 : (if t969 = true then (if t970 = true then (if t971 = true then ((pair_May.f k l0).bind fun t972 => (if t972 = true then ((pair_May.f k l1).bind fun t973 => (if t973 = true then ((pair_May.f k l2).bind fun t974 => (if t974 = true then ((pair_May.f k l3).bind fun t975 => (law08_PairThree.j0 k l0 l1 l2 l3 true (!t975))) else (law08_PairThree.j0 k l0 l1 l2 l3 true true))) else (law08_PairThree.j0 k l0 l1 l2 l3 true true))) else (law08_PairThree.j0 k l0 l1 l2 l3 true true))) else (law08_PairThree.j0 k l0 l1 l2 l3 true true)) else (law08_PairThree.j0 k l0 l1 l2 l3 true true)) else (law08_PairThree.j0 k l0 l1 l2 l3 true true)) = some r := by rw [if_pos rfl] at H; exact H
    clear H
    have H := H1
    clear H1
    by_cases c14 : t969 = true
    ·subst c14
     have H1 : (if t970 = true then (if t971 = true then ((pair_May.f k l0).bind fun t972 => (if t972 = true then ((pair_May.f k l1).bind fun t973 => (if t973 = true then ((pair_May.f k l2).bind fun t974 => (if t974 = true then ((pair_May.f k l3).bind fun t975 => (law08_PairThree.j0 k l0 l1 l2 l3 true (!t975))) else (law08_PairThree.j0 k l0 l1 l2 l3 true true))) else (law08_PairThree.j0 k l0 l1 l2 l3 true true))) else (law08_PairThree.j0 k l0 l1 l2 l3 true true))) else (law08_PairThree.j0 k l0 l1 l2 l3 true true)) else (law08_PairThree.j0 k l0 l1 l2 l3 true true)) = some r := by rw [if_pos rfl] at H; exact H
     clear H
     have H := H1
     clear H1
     by_cases c15 : t970 = true
     ·subst c15
      have H1 : (if t971 = true then ((pair_May.f k l0).bind fun t972 => (if t972 = true then ((pair_May.f k l1).bind fun t973 => (if t973 = true then ((pair_May.f k l2).bind fun t974 => (if t974 = true then ((pair_May.f k l3).bind fun t975 => (law08_PairThree.j0 k l0 l1 l2 l3 true (!t975))) else (law08_PairThree.j0 k l0 l1 l2 l3 true true))) else (law08_PairThree.j0 k l0 l1 l2 l3 true true))) else (law08_PairThree.j0 k l0 l1 l2 l3 true true))) else (law08_PairThree.j0 k l0 l1 l2 l3 true true)) = some r := by rw [if_pos rfl] at H; exact H
      clear H
      have H := H1
      clear H1
      by_cases c16 : t971 = true
      ·subst c16
       have H1 : ((pair_May.f k l0).bind fun t972 => (if t972 = true then ((pair_May.f k l1).bind fun t973 => (if t973 = true then ((pair_May.f k l2).bind fun t974 => (if t974 = true then ((pair_May.f k l3).bind fun t975 => (law08_PairThree.j0 k l0 l1 l2 l3 true (!t975))) else (law08_PairThree.j0 k l0 l1 l2 l3 true true))) else (law08_PairThree.j0 k l0 l1 l2 l3 true true))) else (law08_PairThree.j0 k l0 l1 l2 l3 true true))) = some r := by rw [if_pos rfl] at H; exact H
       clear H
       have H := H1
       clear H1
       replace H := Option.bind_eq_some_iff.mp H
       obtain ⟨t972, A170, H⟩ := H
       replace H : (if t972 = true then ((pair_May.f k l1).bind fun t973 => (if t973 = true then ((pair_May.f k l2).bind fun t974 => (if t974 = true then ((pair_May.f k l3).bind fun t975 => (law08_PairThree.j0 k l0 l1 l2 l3 true (!t975))) else (law08_PairThree.j0 k l0 l1 l2 l3 true true))) else (law08_PairThree.j0 k l0 l1 l2 l3 true true))) else (law08_PairThree.j0 k l0 l1 l2 l3 true true)) = some r := H
       have A17 := Aside0.mk A170
       clear A170
       by_cases c18 : t972 = true
       ·subst c18
        have H1 : ((pair_May.f k l1).bind fun t973 => (if t973 = true then ((pair_May.f k l2).bind fun t974 => (if t974 = true then ((pair_May.f k l3).bind fun t975 => (law08_PairThree.j0 k l0 l1 l2 l3 true (!t975))) else (law08_PairThree.j0 k l0 l1 l2 l3 true true))) else (law08_PairThree.j0 k l0 l1 l2 l3 true true))) = some r := by rw [if_pos rfl] at H; exact H
        clear H
        have H := H1
        clear H1
        replace H := Option.bind_eq_some_iff.mp H
        obtain ⟨t973, A190, H⟩ := H
        replace H : (if t973 = true then ((pair_May.f k l2).bind fun t974 => (if t974 = true then ((pair_May.f k l3).bind fun t975 => (law08_PairThree.j0 k l0 l1 l2 l3 true (!t975))) else (law08_PairThree.j0 k l0 l1 l2 l3 true true))) else (law08_PairThree.j0 k l0 l1 l2 l3 true true)) = some r := H
        have A19 := Aside0.mk A190
        clear A190
        by_cases c20 : t973 = true
        ·subst c20
         have H1 : ((pair_May.f k l2).bind fun t974 => (if t974 = true then ((pair_May.f k l3).bind fun t975 => (law08_PairThree.j0 k l0 l1 l2 l3 true (!t975))) else (law08_PairThree.j0 k l0 l1 l2 l3 true true))) = some r := by rw [if_pos rfl] at H; exact H
         clear H
         have H := H1
         clear H1
         replace H := Option.bind_eq_some_iff.mp H
         obtain ⟨t974, A210, H⟩ := H
         replace H : (if t974 = true then ((pair_May.f k l3).bind fun t975 => (law08_PairThree.j0 k l0 l1 l2 l3 true (!t975))) else (law08_PairThree.j0 k l0 l1 l2 l3 true true)) = some r := H
         have A21 := Aside0.mk A210
         clear A210
         by_cases c22 : t974 = true
         ·subst c22
          have H1 : ((pair_May.f k l3).bind fun t975 => (law08_PairThree.j0 k l0 l1 l2 l3 true (!t975))) = some r := by rw [if_pos rfl] at H; exact H
          clear H
          have H := H1
          clear H1
          replace H := Option.bind_eq_some_iff.mp H
          obtain ⟨t975, A230, H⟩ := H
          replace H : (law08_PairThree.j0 k l0 l1 l2 l3 true (!t975)) = some r := H
          have A23 := Aside0.mk A230
          clear A230
          have H' := Aside0.mk H
          clear H
          go_wp2_with (first | (go_at_call 60; (with_reducible refine (pair_May.calls k _ _ l0 true _ ?side1 ?side2 A17.out).mono ?_); (case side1 => repeat (first | exact (Kd.C_below HR0.out HB.out) | (with_reducible refine Kd.C_alloc ?_ _) | (with_reducible refine Kd.C_drewN ?_ _) | (with_reducible refine Kd.C_drew ?_))); (case side2 => exact HC0.out); rintro e w24 ⟨rfl, hb⟩; have n0_ := Aside0.mk (below_step (by repeat (first | (with_reducible first | exact HB.out | apply below_alloc | apply pw_below_drewN | apply below_drew1) | exact HB.out)) hb); clear HB; have HB := n0_; clear n0_; (try clear hb); (try clear hb2); (try clear hk); (try clear hi)) | (go_at_call 60; (with_reducible refine (pair_May.calls k _ _ l1 true _ ?side1 ?side2 A19.out).mono ?_); (case side1 => repeat (first | exact (Kd.C_below HR1.out HB.out) | (with_reducible refine Kd.C_alloc ?_ _) | (with_reducible refine Kd.C_drewN ?_ _) | (with_reducible refine Kd.C_drew ?_))); (case side2 => exact HC1.out); rintro e w25 ⟨rfl, hb⟩; have n0_ := Aside0.mk (below_step (by repeat (first | (with_reducible first | exact HB.out | apply below_alloc | apply pw_below_drewN | apply below_drew1) | exact HB.out)) hb); clear HB; have HB := n0_; clear n0_; (try clear hb); (try clear hb2); (try clear hk); (try clear hi)) | (go_at_call 60; (with_reducible refine (pair_May.calls k _ _ l2 true _ ?side1 ?side2 A21.out).mono ?_); (case side1 => repeat (first | exact (Kd.C_below HR2.out HB.out) | (with_reducible refine Kd.C_alloc ?_ _) | (with_reducible refine Kd.C_drewN ?_ _) | (with_reducible refine Kd.C_drew ?_))); (case side2 => exact HC2.out); rintro e w26 ⟨rfl, hb⟩; have n0_ := Aside0.mk (below_step (by repeat (first | (with_reducible first | exact HB.out | apply below_alloc | apply pw_below_drewN | apply below_drew1) | exact HB.out)) hb); clear HB; have HB := n0_; clear n0_; (try clear hb); (try clear hb2); (try clear hk); (try clear hi)) | (go_at_call 60; (with_reducible refine (pair_May.calls k _ _ l3 t975 _ ?side1 ?side2 A23.out).mono ?_); (case side1 => repeat (first | exact (Kd.C_below HR3.out HB.out) | (with_reducible refine Kd.C_alloc ?_ _) | (with_reducible refine Kd.C_drewN ?_ _) | (with_reducible refine Kd.C_drew ?_))); (case side2 => exact HC3.out); rintro e w27 ⟨rfl, hb⟩; have n0_ := Aside0.mk (below_step (by repeat (first | (with_reducible first | exact HB.out | apply below_alloc | apply pw_below_drewN | apply below_drew1) | exact HB.out)) hb); clear HB; have HB := n0_; clear n0_; (try clear hb); (try clear hb2); (try clear hk); (try clear hi)))
          go_meet
          case rel => exact ⟨_, (!t975), (by first | rfl | (simp; done) | (simp [*]; done)), H', ⟨by first | omega | exact Nat.le_refl _⟩, ⟨by repeat (first | (with_reducible first | exact HB.out | apply below_alloc | apply pw_below_drewN | apply below_drew1) | exact HB.out)⟩⟩
         ·replace c22 := Bool.eq_false_iff.mpr c22
          subst c22
          have H1 : (law08_PairThree.j0 k l0 l1 l2 l3 true true) = some r := by rw [if_neg (show ¬ (false = true) by decide)] at H; exact H
          clear H
          have H := H1
          clear H1
          have H' := Aside0.mk H
          clear H
          go_wp2_with (first | (go_at_call 60; (with_reducible refine (pair_May.calls k _ _ l0 true _ ?side1 ?side2 A17.out).mono ?_); (case side1 => repeat (first | exact (Kd.C_below HR0.out HB.out) | (with_reducible refine Kd.C_alloc ?_ _) | (with_reducible refine Kd.C_drewN ?_ _) | (with_reducible refine Kd.C_drew ?_))); (case side2 => exact HC0.out); rintro e w28 ⟨rfl, hb⟩; have n0_ := Aside0.mk (below_step (by repeat (first | (with_reducible first | exact HB.out | apply below_alloc | apply pw_below_drewN | apply below_drew1) | exact HB.out)) hb); clear HB; have HB := n0_; clear n0_; (try clear hb); (try clear hb2); (try clear hk); (try clear hi)) | (go_at_call 60; (with_reducible refine (pair_May.calls k _ _ l1 true _ ?side1 ?side2 A19.out).mono ?_); (case side1 => repeat (first | exact (Kd.C_below HR1.out HB.out) | (with_reducible refine Kd.C_alloc ?_ _) | (with_reducible refine Kd.C_drewN ?_ _) | (with_reducible refine Kd.C_drew ?_))); (case side2 => exact HC1.out); rintro e w29 ⟨rfl, hb⟩; have n0_ := Aside0.mk (below_step (by repeat (first | (with_reducible first | exact HB.out | apply below_alloc | apply pw_below_drewN | apply below_drew1) | exact HB.out)) hb); clear HB; have HB := n0_; clear n0_; (try clear hb); (try clear hb2); (try clear hk); (try clear hi)) | (go_at_call 60; (with_reducible refine (pair_May.calls k _ _ l2 false _ ?side1 ?side2 A21.out).mono ?_); (case side1 => repeat (first | exact (Kd.C_below HR2.out HB.out) | (with_reducible refine Kd.C_alloc ?_ _) | (with_reducible refine Kd.C_drewN ?_ _) | (with_reducible refine Kd.C_drew ?_))); (case side2 => exact HC2.out); rintro e w30 ⟨rfl, hb⟩; have n0_ := Aside0.mk (below_step (by repeat (first | (with_reducible first | exact HB.out | apply below_alloc | apply pw_below_drewN | apply below_drew1) | exact HB.out)) hb); clear HB; have HB := n0_; clear n0_; (try clear hb); (try clear hb2); (try clear hk); (try clear hi)))
          go_meet
          case rel => exact ⟨_, (true), (by first | rfl | (simp; done) | (simp [*]; done)), H', ⟨by first | omega | exact Nat.le_refl _⟩, ⟨by repeat (first | (with_reducible first | exact HB.out | apply below_alloc | apply pw_below_drewN | apply below_drew1) | exact HB.out)⟩⟩
        ·replace c20 := Bool.eq_false_iff.mpr c20
         subst c20
         have H1 : (law08_PairThree.j0 k l0 l1 l2 l3 true true) = some r := by rw [if_neg (show ¬ (false = true) by decide)] at H; exact H
         clear H
         have H := H1
         clear H1
         have H' := Aside0.mk H
         clear H
         go_wp2_with (first | (go_at_call 60; (with_reducible refine (pair_May.calls k _ _ l0 true _ ?side1 ?side2 A17.out).mono ?_); (case side1 => repeat (first | exact (Kd.C_below HR0.out HB.out) | (with_reducible refine Kd.C_alloc ?_ _) | (with_reducible refine Kd.C_drewN ?_ _) | (with_reducible refine Kd.C_drew ?_))); (case side2 => exact HC0.out); rintro e w31 ⟨rfl, hb⟩; have n0_ := Aside0.mk (below_step (by repeat (first | (with_reducible first | exact HB.out | apply below_alloc | apply pw_below_drewN | apply below_drew1) | exact HB.out)) hb); clear HB; have HB := n0_; clear n0_; (try clear hb); (try clear hb2); (try clear hk); (try clear hi)) | (go_at_call 60; (with_reducible refine (pair_May.calls k _ _ l1 false _ ?side1 ?side2 A19.out).mono ?_); (case side1 => repeat (first | exact (Kd.C_below HR1.out HB.out) | (with_reducible refine Kd.C_alloc ?_ _) | (with_reducible refine Kd.C_drewN ?_ _) | (with_reducible refine Kd.C_drew ?_))); (case side2 => exact HC1.out); rintro e w32 ⟨rfl, hb⟩; have n0_ := Aside0.mk (below_step (by repeat (first | (with_reducible first | exact HB.out | apply below_alloc | apply pw_below_drewN | apply below_drew1) | exact HB.out)) hb); clear HB; have HB := n0_; clear n0_; (try clear hb); (try clear hb2); (try clear hk); (try clear hi)))
         go_meet
         case rel => exact ⟨_, (true), (by first | rfl | (simp; done) | (simp [*]; done)), H', ⟨by first | omega | exact Nat.le_refl _⟩, ⟨by repeat (first | (with_reducible first | exact HB.out | apply below_alloc | apply pw_below_drewN | apply below_drew1) | exact HB.out)⟩⟩
       ·replace c18 := Bool.eq_false_iff.mpr c18
        subst c18
        have H1 : (law08_PairThree.j0 k l0 l1 l2 l3 true true) = some r := by rw [if_neg (show ¬ (false = true) by decide)] at H; exact H
        clear H
        have H := H1
        clear H1
        have H' := Aside0.mk H
        clear H
        go_wp2_with (first | (go_at_call 60; (with_reducible refine (pair_May.calls k _ _ l0 false _ ?side1 ?side2 A17.out).mono ?_); (case side1 => repeat (first | exact (Kd.C_below HR0.out HB.out) | (with_reducible refine Kd.C_alloc ?_ _) | (with_reducible refine Kd.C_drewN ?_ _) | (with_reducible refine Kd.C_drew ?_))); (case side2 => exact HC0.out); rintro e w33 ⟨rfl, hb⟩; have n0_ := Aside0.mk (below_step (by repeat (first | (with_reducible first | exact HB.out | apply below_alloc | apply pw_below_drewN | apply below_drew1) | exact HB.out)) hb); clear HB; have HB := n0_; clear n0_; (try clear hb); (try clear hb2); (try clear hk); (try clear hi)))
        go_meet
        case rel => exact ⟨_, (true), (by first | rfl | (simp; done) | (simp [*]; done)), H', ⟨by first | omega | exact Nat.le_refl _⟩, ⟨by repeat (first | (with_reducible first | exact HB.out | apply below_alloc | apply pw_below_drewN | apply below_drew1) | exact HB.out)⟩⟩
      ·replace c16 := Bool.eq_false_iff.mpr c16
       subst c16
       have H1 : (law08_PairThree.j0 k l0 l1 l2 l3 true true) = some r := by rw [if_neg (show ¬ (false = true) by decide)] at H; exact H
       clear H
       have H := H1
       clear H1
       have H' := Aside0.mk H
       clear H
       go_wp2
       go_meet
       case rel => exact ⟨_, (true), (by first | rfl | (simp; done) | (simp [*]; done)), H', ⟨by first | omega | exact Nat.le_refl _⟩, ⟨by repeat (first | (with_reducible first | exact HB.out | apply below_alloc | apply pw_below_drewN | apply below_drew1) | exact HB.out)⟩⟩
     ·replace c15 := Bool.eq_false_iff.mpr c15
      subst c15
      have H1 : (law08_PairThree.j0 k l0 l1 l2 l3 true true) = some r := by rw [if_neg (show ¬ (false = true) by decide)] at H; exact H
      clear H
      have H := H1
      clear H1
      have H' := Aside0.mk H
      clear H
      go_wp2
      go_meet
      case rel => exact ⟨_, (true), (by first | rfl | (simp; done) | (simp [*]; done)), H', ⟨by first | omega | exact Nat.le_refl _⟩, ⟨by repeat (first | (with_reducible first | exact HB.out | apply below_alloc | apply pw_below_drewN | apply below_drew1) | exact HB.out)⟩⟩
    ·replace c14 := Bool.eq_false_iff.mpr c14
     subst c14
     have H1 : (law08_PairThree.j0 k l0 l1 l2 l3 true true) = some r := by rw [if_neg (show ¬ (false = true) by decide)] at H; exact H
     clear H
     have H := H1
     clear H1
     have H' := Aside0.mk H
     clear H
     go_wp2
     go_meet
     case rel => exact ⟨_, (true), (by first | rfl | (simp; done) | (simp [*]; done)), H', ⟨by first | omega | exact Nat.le_refl _⟩, ⟨by repeat (first | (with_reducible first | exact HB.out | apply below_alloc | apply pw_below_drewN | apply below_drew1) | exact HB.out)⟩⟩
   ·replace c13 := Bool.eq_false_iff.mpr c13
    subst c13
    have H1 : (law08_PairThree.j0 k l0 l1 l2 l3 true true) = some r := by rw [if_neg (show ¬ (false = true) by decide)] at H; exact H
    clear H
    have H := H1
    clear H1
    have H' := Aside0.mk H
    clear H
    go_wp2
    go_meet
    case rel => exact ⟨_, (true), (by first | rfl | (simp; done) | (simp [*]; done)), H', ⟨by first | omega | exact Nat.le_refl _⟩, ⟨by repeat (first | (with_reducible first | exact HB.out | apply below_alloc | apply pw_below_drewN | apply below_drew1) | exact HB.out)⟩⟩
  ·replace c12 := Bool.eq_false_iff.mpr c12
   subst c12
   have H1 : (law08_PairThree.j0 k l0 l1 l2 l3 false true) = some r := by rw [if_neg (show ¬ (false = true) by decide)] at H; exact H
   clear H
   have H := H1
   clear H1
   have H' := Aside0.mk H
   clear H
   go_wp2
   go_meet
   case rel => exact ⟨_, (true), (by first | rfl | (simp; done) | (simp [*]; done)), H', ⟨by first | omega | exact Nat.le_refl _⟩, ⟨by repeat (first | (with_reducible first | exact HB.out | apply below_alloc | apply pw_below_drewN | apply below_drew1) | exact HB.out)⟩⟩
 case rest =>
  clear HC10
  try clear c1
  try clear c2
  try clear p2
  try clear c3
  try clear c4
  try clear c12
  try clear c13
  try clear c14
  try clear c15
  try clear c16
  try clear c18
  try clear c19
  try clear c20
  try clear c22
  obtain ⟨kq, x61_9, rfl, HA, HJ9, HB⟩ := hcut
  cases kq with
  | zero => exact absurd HA.out (by simp [law08_PairThree.j0])
  | succ kj9 =>
   have H := HA.out
   clear HA
   simp only [law08_PairThree.j0] at H
   by_cases c34 : x61_9 = true
   ·subst c34
    have H1 : (some t967) = some r := by rw [if_pos rfl] at H; exact H
    clear H
    have H := H1
    clear H1
    obtain rfl := Option.some.inj H
    go_wp2
    go_ret
    exact ⟨by first | rfl | (simp [errW_none, errW_some] <;> rfl) | (simp [*, errW_none, errW_some] <;> rfl), by repeat (first | (with_reducible first | exact HB.out | apply below_alloc | apply pw_below_drewN | apply below_drew1) | exact HB.out)⟩
   ·replace c34 := Bool.eq_false_iff.mpr c34
    subst c34
    have H1 : ((pair_Merge.f l0 l1 l2).bind fun t976 => ((pair_Merge.f l0 t976 l3).bind fun t979 => ((pair_Merge.f l0 l2 l3).bind fun t982 => ((pair_Merge.f l0 l1 t982).bind fun t985 => ((ref08_Same.f kj9 t979 t985).bind fun t988 => (some t988)))))) = some r := by rw [if_neg (show ¬ (false = true) by decide)] at H; exact H
    clear H
    have H := H1
    clear H1
    replace H := Option.bind_eq_some_iff.mp H
    obtain ⟨t976, A350, H⟩ := H
    replace H : ((pair_Merge.f l0 t976 l3).bind fun t979 => ((pair_Merge.f l0 l2 l3).bind fun t982 => ((pair_Merge.f l0 l1 t982).bind fun t985 => ((ref08_Same.f kj9 t979 t985).bind fun t988 => (some t988))))) = some r := H
    have A35 := Aside0.mk A350
    clear A350
    replace H := Option.bind_eq_some_iff.mp H
    obtain ⟨t979, A360, H⟩ := H
    replace H : ((pair_Merge.f l0 l2 l3).bind fun t982 => ((pair_Merge.f l0 l1 t982).bind fun t985 => ((ref08_Same.f kj9 t979 t985).bind fun t988 => (some t988)))) = some r := H
    have A36 := Aside0.mk A360
    clear A360
    replace H := Option.bind_eq_some_iff.mp H
    obtain ⟨t982, A370, H⟩ := H
    replace H : ((pair_Merge.f l0 l1 t982).bind fun t985 => ((ref08_Same.f kj9 t979 t985).bind fun t988 => (some t988))) = some r := H
    have A37 := Aside0.mk A370
    clear A370
    replace H := Option.bind_eq_some_iff.mp H
    obtain ⟨t985, A380, H⟩ := H
    replace H : ((ref08_Same.f kj9 t979 t985).bind fun t988 => (some t988)) = some r := H
    have A38 := Aside0.mk A380
    clear A380
    replace H := Option.bind_eq_some_iff.mp H
    obtain ⟨t988, A390, H⟩ := H
    replace H : (some t988) = some r := H
    have A39 := Aside0.mk A390
    clear A390
    obtain rfl := Option.some.inj H
    go_wp2_with (first | ((with_reducible refine gate_callee (f := 53) rfl ?_); refine goesL_ (some 67) rfl rfl Try.func53 (by kernel_rfl) rfl #[.slice A0 l0.length c0, .slice A1 l1.length c1, .slice A2 l2.length c2] rfl (by (try simp only [List.map_toArray, List.map_cons, List.map_nil]); first | done | rfl | (simp only [List.length_drop, List.length_take]; rfl)) ?_; (with_reducible refine (pair_Merge.calls _ _ l0 _ _ l1 _ _ l2 t976 _ ?side1 ?side2 ?side3 ?side4 ?side5 ?side6 A35.out).mono ?_); (case side1 => repeat (first | exact (Kd.C_below HR0.out HB.out) | (with_reducible refine Kd.C_alloc ?_ _) | (with_reducible refine Kd.C_drewN ?_ _) | (with_reducible refine Kd.C_drew ?_))); (case side2 => exact HC0.out); (case side3 => repeat (first | exact (Kd.C_below HR1.out HB.out) | (with_reducible refine Kd.C_alloc ?_ _) | (with_reducible refine Kd.C_drewN ?_ _) | (with_reducible refine Kd.C_drew ?_))); (case side4 => exact HC1.out); (case side5 => repeat (first | exact (Kd.C_below HR2.out HB.out) | (with_reducible refine Kd.C_alloc ?_ _) | (with_reducible refine Kd.C_drewN ?_ _) | (with_reducible refine Kd.C_drew ?_))); (case side6 => exact HC2.out); rintro e w40 ⟨v977, rfl, ho0, hb⟩; refine ⟨_, rfl, ?_⟩; have n0_ := Aside0.mk (Kd.R_lower ho0 (below_size (by repeat (first | (with_reducible first | exact HB.out | apply below_alloc | apply pw_below_drewN | apply below_drew1) | exact HB.out)))); have n1_ := Aside0.mk (below_step (by repeat (first | (with_reducible first | exact HB.out | apply below_alloc | apply pw_below_drewN | apply below_drew1) | exact HB.out)) hb); clear HB; have HO978 := n0_; have HB := n1_; clear n0_ n1_; (try clear hb); (try clear hb2); (try clear hk); (try clear hi); (try clear ho0); obtain ⟨Ao41, co41, eo41⟩ := Kd.R_slice HO978.out; subst eo41) | ((with_reducible refine gate_callee (f := 53) rfl ?_); refine goesL_ (some 69) rfl rfl Try.func53 (by kernel_rfl) rfl #[.slice A0 l0.length c0, .slice Ao41 t976.length co41, .slice A3 l3.length c3] rfl (by (try simp only [List.map_toArray, List.map_cons, List.map_nil]); first | done | rfl | (simp only [List.length_drop, List.length_take]; rfl)) ?_; (with_reducible refine (pair_Merge.calls _ _ l0 _ _ t976 _ _ l3 t979 _ ?side1 ?side2 ?side3 ?side4 ?side5 ?side6 A36.out).mono ?_); (case side1 => repeat (first | exact (Kd.C_below HR0.out HB.out) | (with_reducible refine Kd.C_alloc ?_ _) | (with_reducible refine Kd.C_drewN ?_ _) | (with_reducible refine Kd.C_drew ?_))); (case side2 => exact HC0.out); (case side3 => repeat (first | exact (Kd.R_reads' HO978.out).2.2 | (with_reducible refine Kd.C_alloc ?_ _) | (with_reducible refine Kd.C_drewN ?_ _) | (with_reducible refine Kd.C_drew ?_))); (case side4 => exact (Kd.R_reads' HO978.out).2.1); (case side5 => repeat (first | exact (Kd.C_below HR3.out HB.out) | (with_reducible refine Kd.C_alloc ?_ _) | (with_reducible refine Kd.C_drewN ?_ _) | (with_reducible refine Kd.C_drew ?_))); (case side6 => exact HC3.out); rintro e w42 ⟨v980, rfl, ho0, hb⟩; refine ⟨_, rfl, ?_⟩; have n0_ := Aside0.mk (Kd.R_elder' (by (with_reducible repeat (first | apply Kd.R_alloc | apply Kd.R_drewN | apply Kd.R_drew)); exact HO978.out) (Kd.R_base ho0) hb); have n1_ := Aside0.mk (Kd.R_lower (Kd.R_new' ho0 (Kd.R_lt (by (with_reducible repeat (first | apply Kd.R_alloc | apply Kd.R_drewN | apply Kd.R_drew)); exact HO978.out))) (below_size (by repeat (first | (with_reducible first | exact HB.out | apply below_alloc | apply pw_below_drewN | apply below_drew1) | exact HB.out)))); have n2_ := Aside0.mk (below_step (by repeat (first | (with_reducible first | exact HB.out | apply below_alloc | apply pw_below_drewN | apply below_drew1) | exact HB.out)) hb); clear HO978; clear HB; have HO978 := n0_; have HO981 := n1_; have HB := n2_; clear n0_ n1_ n2_; (try clear hb); (try clear hb2); (try clear hk); (try clear hi); (try clear ho0)) | ((with_reducible refine gate_callee (f := 53) rfl ?_); refine goesL_ (some 75) rfl rfl Try.func53 (by kernel_rfl) rfl #[.slice A0 l0.length c0, .slice A2 l2.length c2, .slice A3 l3.length c3] rfl (by (try simp only [List.map_toArray, List.map_cons, List.map_nil]); first | done | rfl | (simp only [List.length_drop, List.length_take]; rfl)) ?_; (with_reducible refine (pair_Merge.calls _ _ l0 _ _ l2 _ _ l3 t982 _ ?side1 ?side2 ?side3 ?side4 ?side5 ?side6 A37.out).mono ?_); (case side1 => repeat (first | exact (Kd.C_below HR0.out HB.out) | (with_reducible refine Kd.C_alloc ?_ _) | (with_reducible refine Kd.C_drewN ?_ _) | (with_reducible refine Kd.C_drew ?_))); (case side2 => exact HC0.out); (case side3 => repeat (first | exact (Kd.C_below HR2.out HB.out) | (with_reducible refine Kd.C_alloc ?_ _) | (with_reducible refine Kd.C_drewN ?_ _) | (with_reducible refine Kd.C_drew ?_))); (case side4 => exact HC2.out); (case side5 => repeat (first | exact (Kd.C_below HR3.out HB.out) | (with_reducible refine Kd.C_alloc ?_ _) | (with_reducible refine Kd.C_drewN ?_ _) | (with_reducible refine Kd.C_drew ?_))); (case side6 => exact HC3.out); rintro e w43 ⟨v983, rfl, ho0, hb⟩; refine ⟨_, rfl, ?_⟩; have n0_ := Aside0.mk (Kd.R_elder' (by (with_reducible repeat (first | apply Kd.R_alloc | apply Kd.R_drewN | apply Kd.R_drew)); exact HO978.out) (Kd.R_base ho0) hb); have n1_ := Aside0.mk (Kd.R_elder' (by (with_reducible repeat (first | apply Kd.R_alloc | apply Kd.R_drewN | apply Kd.R_drew)); exact HO981.out) (Kd.R_base ho0) hb); have n2_ := Aside0.mk (Kd.R_lower (Kd.R_new' (Kd.R_new' ho0 (Kd.R_lt (by (with_reducible repeat (first | apply Kd.R_alloc | apply Kd.R_drewN | apply Kd.R_drew)); exact HO978.out))) (Kd.R_lt (by (with_reducible repeat (first | apply Kd.R_alloc | apply Kd.R_drewN | apply Kd.R_drew)); exact HO981.out))) (below_size (by repeat (first | (with_reducible first | exact HB.out | apply below_alloc | apply pw_below_drewN | apply below_drew1) | exact HB.out)))); have n3_ := Aside0.mk (below_step (by repeat (first | (with_reducible first | exact HB.out | apply below_alloc | apply pw_below_drewN | apply below_drew1) | exact HB.out)) hb); clear HO978; clear HO981; clear HB; have HO978 := n0_; have HO981 := n1_; have HO984 := n2_; have HB := n3_; clear n0_ n1_ n2_ n3_; (try clear hb); (try clear hb2); (try clear hk); (try clear hi); (try clear ho0); obtain ⟨Ao44, co44, eo44⟩ := Kd.R_slice HO984.out; subst eo44) | ((with_reducible refine gate_callee (f := 53) rfl ?_); refine goesL_ (some 76) rfl rfl Try.func53 (by kernel_rfl) rfl #[.slice A0 l0.length c0, .slice A1 l1.length c1, .slice Ao44 t982.length co44] rfl (by (try simp only [List.map_toArray, List.map_cons, List.map_nil]); first | done | rfl | (simp only [List.length_drop, List.length_take]; rfl)) ?_; (with_reducible refine (pair_Merge.calls _ _ l0 _ _ l1 _ _ t982 t985 _ ?side1 ?side2 ?side3 ?side4 ?side5 ?side6 A38.out).mono ?_); (case side1 => repeat (first | exact (Kd.C_below HR0.out HB.out) | (with_reducible refine Kd.C_alloc ?_ _) | (with_reducible refine Kd.C_drewN ?_ _) | (with_reducible refine Kd.C_drew ?_))); (case side2 => exact HC0.out); (case side3 => repeat (first | exact (Kd.C_below HR1.out HB.out) | (with_reducible refine Kd.C_alloc ?_ _) | (with_reducible refine Kd.C_drewN ?_ _) | (with_reducible refine Kd.C_drew ?_))); (case side4 => exact HC1.out); (case side5 => repeat (first | exact (Kd.R_reads' HO984.out).2.2 | (with_reducible refine Kd.C_alloc ?_ _) | (with_reducible refine Kd.C_drewN ?_ _) | (with_reducible refine Kd.C_drew ?_))); (case side6 => exact (Kd.R_reads' HO984.out).2.1); rintro e w45 ⟨v986, rfl, ho0, hb⟩; refine ⟨_, rfl, ?_⟩; have n0_ := Aside0.mk (Kd.R_elder' (by (with_reducible repeat (first | apply Kd.R_alloc | apply Kd.R_drewN | apply Kd.R_drew)); exact HO978.out) (Kd.R_base ho0) hb); have n1_ := Aside0.mk (Kd.R_elder' (by (with_reducible repeat (first | apply Kd.R_alloc | apply Kd.R_drewN | apply Kd.R_drew)); exact HO981.out) (Kd.R_base ho0) hb); have n2_ := Aside0.mk (Kd.R_elder' (by (with_reducible repeat (first | apply Kd.R_alloc | apply Kd.R_drewN | apply Kd.R_drew)); exact HO984.out) (Kd.R_base ho0) hb); have n3_ := Aside0.mk (Kd.R_lower (Kd.R_new' (Kd.R_new' (Kd.R_new' ho0 (Kd.R_lt (by (with_reducible repeat (first | apply Kd.R_alloc | apply Kd.R_drewN | apply Kd.R_drew)); exact HO978.out))) (Kd.R_lt (by (with_reducible repeat (first | apply Kd.R_alloc | apply Kd.R_drewN | apply Kd.R_drew)); exact HO981.out))) (Kd.R_lt (by (with_reducible repeat (first | apply Kd.R_alloc | apply Kd.R_drewN | apply Kd.R_drew)); exact HO984.out))) (below_size (by repeat (first | (with_reducible first | exact HB.out | apply below_alloc | apply pw_below_drewN | apply below_drew1) | exact HB.out)))); have n4_ := Aside0.mk (below_step (by repeat (first | (with_reducible first | exact HB.out | apply below_alloc | apply pw_below_drewN | apply below_drew1) | exact HB.out)) hb); clear HO978; clear HO981; clear HO984; clear HB; have HO978 := n0_; have HO981 := n1_; have HO984 := n2_; have HO987 := n3_; have HB := n4_; clear n0_ n1_ n2_ n3_ n4_; (try clear hb); (try clear hb2); (try clear hk); (try clear hi); (try clear ho0); obtain ⟨Ao46, co46, eo46⟩ := Kd.R_slice HO981.out; subst eo46; obtain ⟨Ao47, co47, eo47⟩ := Kd.R_slice HO987.out; subst eo47) | ((with_reducible refine gate_callee (f := 48) rfl ?_); refine goesL_ (some 77) rfl rfl Try.func48 (by kernel_rfl) rfl #[.slice Ao46 t979.length co46, .slice Ao47 t985.length co47] rfl (by (try simp only [List.map_toArray, List.map_cons, List.map_nil]); first | done | rfl | (simp only [List.length_drop, List.length_take]; rfl)) ?_; (with_reducible refine (ref08_Same.calls kj9 _ _ t979 _ _ t985 t988 _ ?side1 ?side2 ?side3 ?side4 A39.out).mono ?_); (case side1 => repeat (first | exact (Kd.R_reads' HO981.out).2.2 | (with_reducible refine Kd.C_alloc ?_ _) | (with_reducible refine Kd.C_drewN ?_ _) | (with_reducible refine Kd.C_drew ?_))); (case side2 => exact (Kd.R_reads' HO981.out).2.1); (case side3 => repeat (first | exact (Kd.R_reads' HO987.out).2.2 | (with_reducible refine Kd.C_alloc ?_ _) | (with_reducible refine Kd.C_drewN ?_ _) | (with_reducible refine Kd.C_drew ?_))); (case side4 => exact (Kd.R_reads' HO987.out).2.1); rintro e w' ⟨rfl, ⟨nd, rfl⟩⟩; refine ⟨_, rfl, ?_⟩))
    go_ret
    exact ⟨by first | rfl | (simp [errW_none, errW_some] <;> rfl) | (simp [*, errW_none, errW_some] <;> rfl), by repeat (first | (with_reducible first | exact HB.out | apply below_alloc | apply pw_below_drewN | apply below_drew1) | exact HB.out)⟩

end Go.Proofs.Ytannmdngejdjkaa.L
