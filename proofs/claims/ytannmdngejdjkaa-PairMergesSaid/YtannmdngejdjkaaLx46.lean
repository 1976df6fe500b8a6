-- PRINTED by print.py (a twelfth state) out of the translation. Not trusted: Lean checks it.
import Derived.Test.YtannmdngejdjkaaLx0
import Derived.Test.YtannmdngejdjkaaLx3
import Derived.Test.YtannmdngejdjkaaLx33
import Derived.Test.YtannmdngejdjkaaLx34
import Derived.Test.YtannmdngejdjkaaLx35
import Derived.Test.YtannmdngejdjkaaLx38
import Derived.Test.YtannmdngejdjkaaLHPairMerge
namespace Go.Proofs.Ytannmdngejdjkaa.L
open Go.RowKit Go.Proofs.YtannmdngejdjkaaW.PrintWords Go.Proofs.YtannmdngejdjkaaW.PrintLast Go.Proofs.YtannmdngejdjkaaW.PrintMore
attribute [local go_sem] max2_int min2_int max_two min_two max_three min_three max_four min_four   -- for this text's walks alone
set_option linter.unusedVariables false
set_option linter.unusedSimpArgs false

attribute [local go_sem high] eqA57
/-! ### law08_PairMerges: function 16 -/
mutual
def law08_PairMerges.j0 : Nat → List (S57) → List (S57) → List (S57) → Bool → Bool → Option (Bool)
 | 0, _, _, _, _, _ => none
 | k + 1, x0, x1, x2, x7, x54 => if x54 = true then (some x7) else ((pair_Merge.f x0 x1 x2).bind fun t863 => ((pair_Merge.f x0 x2 x1).bind fun t866 => ((ref08_Same.f k t863 t866).bind fun t869 => ((pair_Merge.f x0 x0 x2).bind fun t870 => ((ref08_Same.f k t870 x2).bind fun t873 => ((pair_Merge.f x0 x1 x1).bind fun t874 => ((ref08_Same.f k t874 x1).bind fun t877 => (if t869 = true then (if t873 = true then (if t877 = true then ((pair_May.f k t863).bind fun t878 => (law08_PairMerges.j1 k x1 x2 t863 (!t878))) else (law08_PairMerges.j1 k x1 x2 t863 true)) else (law08_PairMerges.j1 k x1 x2 t863 true)) else (law08_PairMerges.j1 k x1 x2 t863 true)))))))))
def law08_PairMerges.j1 : Nat → List (S57) → List (S57) → List (S57) → Bool → Option (Bool)
 | 0, _, _, _, _ => none
 | k + 1, x1, x2, x11, x92 => if x92 = true then (some false) else (law08_PairMerges.l0 k x1 x2 x11 0)
def law08_PairMerges.l0 : Nat → List (S57) → List (S57) → List (S57) → Int → Option (Bool)
 | 0, _, _, _, _ => none
 | k + 1, x1, x2, x11, x15 => if x15 < (x11.length : Int) then (law08_PairMerges.l1 k x1 x2 x11 x15 false 0) else (some true)
def law08_PairMerges.l1 : Nat → List (S57) → List (S57) → List (S57) → Int → Bool → Int → Option (Bool)
 | 0, _, _, _, _, _, _ => none
 | k + 1, x1, x2, x11, x15, x16, x17 => if x17 < (x1.length : Int) then (if x16 = true then (law08_PairMerges.l1 k x1 x2 x11 x15 true (wrap64 (x17 + 1))) else (if 0 ≤ x17 then (if 0 ≤ x15 then (if x15 < (x11.length : Int) then (law08_PairMerges.l1 k x1 x2 x11 x15 ((((rd_T57 x1 x17).f0).toList) == (((rd_T57 x11 x15).f0).toList) && ((((rd_T57 x1 x17).f1).toList) == (((rd_T57 x11 x15).f1).toList) && ((((rd_T57 x1 x17).f2.f0) == ((rd_T57 x11 x15).f2.f0) && (((rd_T57 x1 x17).f2.f1) == ((rd_T57 x11 x15).f2.f1)))))) (wrap64 (x17 + 1))) else (none)) else (none)) else (none))) else (law08_PairMerges.l2 k x1 x2 x11 x15 x16 0)
def law08_PairMerges.l2 : Nat → List (S57) → List (S57) → List (S57) → Int → Bool → Int → Option (Bool)
 | 0, _, _, _, _, _, _ => none
 | k + 1, x1, x2, x11, x15, x16, x18 => if x18 < (x2.length : Int) then (if x16 = true then (law08_PairMerges.l2 k x1 x2 x11 x15 true (wrap64 (x18 + 1))) else (if 0 ≤ x18 then (if 0 ≤ x15 then (if x15 < (x11.length : Int) then (law08_PairMerges.l2 k x1 x2 x11 x15 ((((rd_T57 x2 x18).f0).toList) == (((rd_T57 x11 x15).f0).toList) && ((((rd_T57 x2 x18).f1).toList) == (((rd_T57 x11 x15).f1).toList) && ((((rd_T57 x2 x18).f2.f0) == ((rd_T57 x11 x15).f2.f0) && (((rd_T57 x2 x18).f2.f1) == ((rd_T57 x11 x15).f2.f1)))))) (wrap64 (x18 + 1))) else (none)) else (none)) else (none))) else (if x16 = true then (law08_PairMerges.l0 k x1 x2 x11 (wrap64 (x15 + 1))) else (some false))
end
def law08_PairMerges.f (k : Nat) (l0 : List (S57)) (l1 : List (S57)) (l2 : List (S57)) : Option (Bool) := (law08_awake.f k).bind fun t856 => ((law08_Few.f k l0).bind fun t857 => ((law08_Few.f k l1).bind fun t858 => ((law08_Few.f k l2).bind fun t859 => (if t856 = true then (if t857 = true then (if t858 = true then (if t859 = true then ((pair_May.f k l0).bind fun t860 => (if t860 = true then ((pair_May.f k l1).bind fun t861 => (if t861 = true then ((pair_May.f k l2).bind fun t862 => (law08_PairMerges.j0 k l0 l1 l2 t856 (!t862))) else (law08_PairMerges.j0 k l0 l1 l2 t856 true))) else (law08_PairMerges.j0 k l0 l1 l2 t856 true))) else (law08_PairMerges.j0 k l0 l1 l2 t856 true)) else (law08_PairMerges.j0 k l0 l1 l2 t856 true)) else (law08_PairMerges.j0 k l0 l1 l2 t856 true)) else (law08_PairMerges.j0 k l0 l1 l2 t856 true)))))
theorem law08_PairMerges.mono_l : ∀ k, (∀ y0 y1 y2 y3 y4, LeO (law08_PairMerges.j0 k y0 y1 y2 y3 y4) (law08_PairMerges.j0 (k + 1) y0 y1 y2 y3 y4)) ∧ (∀ y0 y1 y2 y3, LeO (law08_PairMerges.j1 k y0 y1 y2 y3) (law08_PairMerges.j1 (k + 1) y0 y1 y2 y3)) ∧ (∀ y0 y1 y2 y3, LeO (law08_PairMerges.l0 k y0 y1 y2 y3) (law08_PairMerges.l0 (k + 1) y0 y1 y2 y3)) ∧ (∀ y0 y1 y2 y3 y4 y5, LeO (law08_PairMerges.l1 k y0 y1 y2 y3 y4 y5) (law08_PairMerges.l1 (k + 1) y0 y1 y2 y3 y4 y5)) ∧ (∀ y0 y1 y2 y3 y4 y5, LeO (law08_PairMerges.l2 k y0 y1 y2 y3 y4 y5) (law08_PairMerges.l2 (k + 1) y0 y1 y2 y3 y4 y5))
 | 0 => ⟨fun _ _ _ _ _ r h => by simp [law08_PairMerges.j0] at h, fun _ _ _ _ r h => by simp [law08_PairMerges.j1] at h, fun _ _ _ _ r h => by simp [law08_PairMerges.l0] at h, fun _ _ _ _ _ _ r h => by simp [law08_PairMerges.l1] at h, fun _ _ _ _ _ _ r h => by simp [law08_PairMerges.l2] at h⟩
 | k + 1 => by
  obtain ⟨ih0, ih1, ih2, ih3, ih4⟩ := law08_PairMerges.mono_l k
  refine ⟨?_, ?_, ?_, ?_, ?_⟩
  ·intro y0 y1 y2 y3 y4
   unfold law08_PairMerges.j0
   repeat' first
   | (with_reducible exact ih0 _ _ _ _ _)
   | (with_reducible exact ih1 _ _ _ _)
   | (with_reducible exact ih2 _ _ _ _)
   | (with_reducible exact ih3 _ _ _ _ _ _)
   | (with_reducible exact ih4 _ _ _ _ _ _)
   | (with_reducible exact law08_Few.mono _ _)
   | (with_reducible exact law08_awake.mono _)
   | (with_reducible exact pair_May.mono _ _)
   | (with_reducible exact ref08_Same.mono _ _ _)
   | (with_reducible exact LeO.refl _)
   | (with_reducible exact LeO.none _)
   | (with_reducible refine LeO.ite ?_ ?_)
   | (with_reducible refine LeO.bind ?_ (fun _ => ?_))
   | exact ih0 _ _ _ _ _
   | exact ih1 _ _ _ _
   | exact ih2 _ _ _ _
   | exact ih3 _ _ _ _ _ _
   | exact ih4 _ _ _ _ _ _
   | exact law08_Few.mono _ _
   | exact law08_awake.mono _
   | exact pair_May.mono _ _
   | exact ref08_Same.mono _ _ _
   | exact LeO.none _
   | refine LeO.ite ?_ ?_
   | refine LeO.bind ?_ (fun _ => ?_)
  ·intro y0 y1 y2 y3
   unfold law08_PairMerges.j1
   repeat' first
   | (with_reducible exact ih0 _ _ _ _ _)
   | (with_reducible exact ih1 _ _ _ _)
   | (with_reducible exact ih2 _ _ _ _)
   | (with_reducible exact ih3 _ _ _ _ _ _)
   | (with_reducible exact ih4 _ _ _ _ _ _)
   | (with_reducible exact law08_Few.mono _ _)
   | (with_reducible exact law08_awake.mono _)
   | (with_reducible exact pair_May.mono _ _)
   | (with_reducible exact ref08_Same.mono _ _ _)
   | (with_reducible exact LeO.refl _)
   | (with_reducible exact LeO.none _)
   | (with_reducible refine LeO.ite ?_ ?_)
   | (with_reducible refine LeO.bind ?_ (fun _ => ?_))
   | exact ih0 _ _ _ _ _
   | exact ih1 _ _ _ _
   | exact ih2 _ _ _ _
   | exact ih3 _ _ _ _ _ _
   | exact ih4 _ _ _ _ _ _
   | exact law08_Few.mono _ _
   | exact law08_awake.mono _
   | exact pair_May.mono _ _
   | exact ref08_Same.mono _ _ _
   | exact LeO.none _
   | refine LeO.ite ?_ ?_
   | refine LeO.bind ?_ (fun _ => ?_)
  ·intro y0 y1 y2 y3
   unfold law08_PairMerges.l0
   repeat' first
   | (with_reducible exact ih0 _ _ _ _ _)
   | (with_reducible exact ih1 _ _ _ _)
   | (with_reducible exact ih2 _ _ _ _)
   | (with_reducible exact ih3 _ _ _ _ _ _)
   | (with_reducible exact ih4 _ _ _ _ _ _)
   | (with_reducible exact law08_Few.mono _ _)
   | (with_reducible exact law08_awake.mono _)
   | (with_reducible exact pair_May.mono _ _)
   | (with_reducible exact ref08_Same.mono _ _ _)
   | (with_reducible exact LeO.refl _)
   | (with_reducible exact LeO.none _)
   | (with_reducible refine LeO.ite ?_ ?_)
   | (with_reducible refine LeO.bind ?_ (fun _ => ?_))
   | exact ih0 _ _ _ _ _
   | exact ih1 _ _ _ _
   | exact ih2 _ _ _ _
   | exact ih3 _ _ _ _ _ _
   | exact ih4 _ _ _ _ _ _
   | exact law08_Few.mono _ _
   | exact law08_awake.mono _
   | exact pair_May.mono _ _
   | exact ref08_Same.mono _ _ _
   | exact LeO.none _
   | refine LeO.ite ?_ ?_
   | refine LeO.bind ?_ (fun _ => ?_)
  ·intro y0 y1 y2 y3 y4 y5
   unfold law08_PairMerges.l1
   repeat' first
   | (with_reducible exact ih0 _ _ _ _ _)
   | (with_reducible exact ih1 _ _ _ _)
   | (with_reducible exact ih2 _ _ _ _)
   | (with_reducible exact ih3 _ _ _ _ _ _)
   | (with_reducible exact ih4 _ _ _ _ _ _)
   | (with_reducible exact law08_Few.mono _ _)
   | (with_reducible exact law08_awake.mono _)
   | (with_reducible exact pair_May.mono _ _)
   | (with_reducible exact ref08_Same.mono _ _ _)
   | (with_reducible exact LeO.refl _)
   | (with_reducible exact LeO.none _)
   | (with_reducible refine LeO.ite ?_ ?_)
   | (with_reducible refine LeO.bind ?_ (fun _ => ?_))
   | exact ih0 _ _ _ _ _
   | exact ih1 _ _ _ _
   | exact ih2 _ _ _ _
   | exact ih3 _ _ _ _ _ _
   | exact ih4 _ _ _ _ _ _
   | exact law08_Few.mono _ _
   | exact law08_awake.mono _
   | exact pair_May.mono _ _
   | exact ref08_Same.mono _ _ _
   | exact LeO.none _
   | refine LeO.ite ?_ ?_
   | refine LeO.bind ?_ (fun _ => ?_)
  ·intro y0 y1 y2 y3 y4 y5
   unfold law08_PairMerges.l2
   repeat' first
   | (with_reducible exact ih0 _ _ _ _ _)
   | (with_reducible exact ih1 _ _ _ _)
   | (with_reducible exact ih2 _ _ _ _)
   | (with_reducible exact ih3 _ _ _ _ _ _)
   | (with_reducible exact ih4 _ _ _ _ _ _)
   | (with_reducible exact law08_Few.mono _ _)
   | (with_reducible exact law08_awake.mono _)
   | (with_reducible exact pair_May.mono _ _)
   | (with_reducible exact ref08_Same.mono _ _ _)
   | (with_reducible exact LeO.refl _)
   | (with_reducible exact LeO.none _)
   | (with_reducible refine LeO.ite ?_ ?_)
   | (with_reducible refine LeO.bind ?_ (fun _ => ?_))
   | exact ih0 _ _ _ _ _
   | exact ih1 _ _ _ _
   | exact ih2 _ _ _ _
   | exact ih3 _ _ _ _ _ _
   | exact ih4 _ _ _ _ _ _
   | exact law08_Few.mono _ _
   | exact law08_awake.mono _
   | exact pair_May.mono _ _
   | exact ref08_Same.mono _ _ _
   | exact LeO.none _
   | refine LeO.ite ?_ ?_
   | refine LeO.bind ?_ (fun _ => ?_)
theorem law08_PairMerges.mono : ∀ a0 a1 a2 k, LeO (law08_PairMerges.f k a0 a1 a2) (law08_PairMerges.f (k + 1) a0 a1 a2) := by
 intro a0 a1 a2 k
 obtain ⟨ih0, ih1, ih2, ih3, ih4⟩ := law08_PairMerges.mono_l k
 unfold law08_PairMerges.f
 repeat' first
   | (with_reducible exact ih0 _ _ _ _ _)
   | (with_reducible exact ih1 _ _ _ _)
   | (with_reducible exact ih2 _ _ _ _)
   | (with_reducible exact ih3 _ _ _ _ _ _)
   | (with_reducible exact ih4 _ _ _ _ _ _)
   | (with_reducible exact law08_Few.mono _ _)
   | (with_reducible exact law08_awake.mono _)
   | (with_reducible exact pair_May.mono _ _)
   | (with_reducible exact ref08_Same.mono _ _ _)
   | (with_reducible exact LeO.refl _)
   | (with_reducible exact LeO.none _)
   | (with_reducible refine LeO.ite ?_ ?_)
   | (with_reducible refine LeO.bind ?_ (fun _ => ?_))
   | exact ih0 _ _ _ _ _
   | exact ih1 _ _ _ _
   | exact ih2 _ _ _ _
   | exact ih3 _ _ _ _ _ _
   | exact ih4 _ _ _ _ _ _
   | exact law08_Few.mono _ _
   | exact law08_awake.mono _
   | exact pair_May.mono _ _
   | exact ref08_Same.mono _ _ _
   | exact LeO.none _
   | refine LeO.ite ?_ ?_
   | refine LeO.bind ?_ (fun _ => ?_)
set_option maxHeartbeats 8000000 in
set_option maxRecDepth 100000 in
theorem law08_PairMerges.calls (k : Nat) (A0 : Option Addr) (c0 : Nat) (l0 : List (S57)) (A1 : Option Addr) (c1 : Nat) (l1 : List (S57)) (A2 : Option Addr) (c2 : Nat) (l2 : List (S57)) (r : Bool) (w : World) (hr0 : Kd.C k57 w A0 l0.length l0) (hc0 : l0.length ≤ c0) (hr1 : Kd.C k57 w A1 l1.length l1) (hc1 : l1.length ≤ c1) (hr2 : Kd.C k57 w A2 l2.length l2) (hc2 : l2.length ≤ c2) (h : law08_PairMerges.f k l0 l1 l2 = some r) :
  Calls Try.prog 16 #[.slice A0 l0.length c0, .slice A1 l1.length c1, .slice A2 l2.length c2] w fun e w' => e = .returned (.bool r) ∧ Below w.heap.size w w' := by
 have hu57 := Try.underlying57
 have HR0 := Aside0.mk hr0
 have HC0 := Aside0.mk hc0
 clear hr0 hc0
 have HR1 := Aside0.mk hr1
 have HC1 := Aside0.mk hc1
 clear hr1 hc1
 have HR2 := Aside0.mk hr2
 have HC2 := Aside0.mk hc2
 clear hr2 hc2
 have HB := Aside0.mk (Below.refl w.heap.size w)
 have H : ((law08_awake.f k).bind fun t856 => ((law08_Few.f k l0).bind fun t857 => ((law08_Few.f k l1).bind fun t858 => ((law08_Few.f k l2).bind fun t859 => (if t856 = true then (if t857 = true then (if t858 = true then (if t859 = true then ((pair_May.f k l0).bind fun t860 => (if t860 = true then ((pair_May.f k l1).bind fun t861 => (if t861 = true then ((pair_May.f k l2).bind fun t862 => (law08_PairMerges.j0 k l0 l1 l2 t856 (!t862))) else (law08_PairMerges.j0 k l0 l1 l2 t856 true))) else (law08_PairMerges.j0 k l0 l1 l2 t856 true))) else (law08_PairMerges.j0 k l0 l1 l2 t856 true)) else (law08_PairMerges.j0 k l0 l1 l2 t856 true)) else (law08_PairMerges.j0 k l0 l1 l2 t856 true)) else (law08_PairMerges.j0 k l0 l1 l2 t856 true)))))) = some r := h
 clear h
 replace H := Option.bind_eq_some_iff.mp H
 obtain ⟨t856, A40, H⟩ := H
 replace H : ((law08_Few.f k l0).bind fun t857 => ((law08_Few.f k l1).bind fun t858 => ((law08_Few.f k l2).bind fun t859 => (if t856 = true then (if t857 = true then (if t858 = true then (if t859 = true then ((pair_May.f k l0).bind fun t860 => (if t860 = true then ((pair_May.f k l1).bind fun t861 => (if t861 = true then ((pair_May.f k l2).bind fun t862 => (law08_PairMerges.j0 k l0 l1 l2 t856 (!t862))) else (law08_PairMerges.j0 k l0 l1 l2 t856 true))) else (law08_PairMerges.j0 k l0 l1 l2 t856 true))) else (law08_PairMerges.j0 k l0 l1 l2 t856 true)) else (law08_PairMerges.j0 k l0 l1 l2 t856 true)) else (law08_PairMerges.j0 k l0 l1 l2 t856 true)) else (law08_PairMerges.j0 k l0 l1 l2 t856 true))))) = some r := H
 have A4 := Aside0.mk A40
 clear A40
 replace H := Option.bind_eq_some_iff.mp H
 obtain ⟨t857, A50, H⟩ := H
 replace H : ((law08_Few.f k l1).bind fun t858 => ((law08_Few.f k l2).bind fun t859 => (if t856 = true then (if t857 = true then (if t858 = true then (if t859 = true then ((pair_May.f k l0).bind fun t860 => (if t860 = true then ((pair_May.f k l1).bind fun t861 => (if t861 = true then ((pair_May.f k l2).bind fun t862 => (law08_PairMerges.j0 k l0 l1 l2 t856 (!t862))) else (law08_PairMerges.j0 k l0 l1 l2 t856 true))) else (law08_PairMerges.j0 k l0 l1 l2 t856 true))) else (law08_PairMerges.j0 k l0 l1 l2 t856 true)) else (law08_PairMerges.j0 k l0 l1 l2 t856 true)) else (law08_PairMerges.j0 k l0 l1 l2 t856 true)) else (law08_PairMerges.j0 k l0 l1 l2 t856 true)))) = some r := H
 have A5 := Aside0.mk A50
 clear A50
 replace H := Option.bind_eq_some_iff.mp H
 obtain ⟨t858, A60, H⟩ := H
 replace H : ((law08_Few.f k l2).bind fun t859 => (if t856 = true then (if t857 = true then (if t858 = true then (if t859 = true then ((pair_May.f k l0).bind fun t860 => (if t860 = true then ((pair_May.f k l1).bind fun t861 => (if t861 = true then ((pair_May.f k l2).bind fun t862 => (law08_PairMerges.j0 k l0 l1 l2 t856 (!t862))) else (law08_PairMerges.j0 k l0 l1 l2 t856 true))) else (law08_PairMerges.j0 k l0 l1 l2 t856 true))) else (law08_PairMerges.j0 k l0 l1 l2 t856 true)) else (law08_PairMerges.j0 k l0 l1 l2 t856 true)) else (law08_PairMerges.j0 k l0 l1 l2 t856 true)) else (law08_PairMerges.j0 k l0 l1 l2 t856 true))) = some r := H
 have A6 := Aside0.mk A60
 clear A60
 replace H := Option.bind_eq_some_iff.mp H
 obtain ⟨t859, A70, H⟩ := H
 replace H : (if t856 = true then (if t857 = true then (if t858 = true then (if t859 = true then ((pair_May.f k l0).bind fun t860 => (if t860 = true then ((pair_May.f k l1).bind fun t861 => (if t861 = true then ((pair_May.f k l2).bind fun t862 => (law08_PairMerges.j0 k l0 l1 l2 t856 (!t862))) else (law08_PairMerges.j0 k l0 l1 l2 t856 true))) else (law08_PairMerges.j0 k l0 l1 l2 t856 true))) else (law08_PairMerges.j0 k l0 l1 l2 t856 true)) else (law08_PairMerges.j0 k l0 l1 l2 t856 true)) else (law08_PairMerges.j0 k l0 l1 l2 t856 true)) else (law08_PairMerges.j0 k l0 l1 l2 t856 true)) = some r := H
 have A7 := Aside0.mk A70
 clear A70
 have HC8 := Aside0.mk H
 clear H
 go_enter Try.func16, Try.ntmps16
 go_upto_region 5 with (first | (go_at_call 45; (with_reducible refine (law08_awake.calls k  t856 _ A4.out).mono ?_); rintro e w9 ⟨rfl, hb⟩; have n0_ := Aside0.mk (below_step (by repeat (first | (with_reducible first | exact HB.out | apply below_alloc | apply pw_below_drewN | apply below_drew1) | exact HB.out)) hb); clear HB; have HB := n0_; clear n0_; (try clear hb); (try clear hb2); (try clear hk); (try clear hi)) | (go_at_call 46; (with_reducible refine (law08_Few.calls k _ _ l0 t857 _ ?side1 ?side2 A5.out).mono ?_); (case side1 => repeat (first | exact (Kd.C_below HR0.out HB.out) | (with_reducible refine Kd.C_alloc ?_ _) | (with_reducible refine Kd.C_drewN ?_ _) | (with_reducible refine Kd.C_drew ?_))); (case side2 => exact HC0.out); rintro e w' ⟨rfl, ⟨nd, rfl⟩⟩; (try first | exact ⟨rfl, _, World.drewN_drewN _ _ _⟩ | exact ⟨rfl, _, Eq.trans (World.drewN_drewN _ _ _) (congrArg (World.drewN _) (Nat.add_assoc _ _ _))⟩)) | (go_at_call 46; (with_reducible refine (law08_Few.calls k _ _ l1 t858 _ ?side1 ?side2 A6.out).mono ?_); (case side1 => repeat (first | exact (Kd.C_below HR1.out (by repeat (first | (with_reducible first | exact HB.out | apply below_alloc | apply pw_below_drewN | apply below_drew1) | exact HB.out))) | (with_reducible refine Kd.C_alloc ?_ _) | (with_reducible refine Kd.C_drewN ?_ _) | (with_reducible refine Kd.C_drew ?_))); (case side2 => exact HC1.out); rintro e w' ⟨rfl, ⟨nd, rfl⟩⟩; (try first | exact ⟨rfl, _, World.drewN_drewN _ _ _⟩ | exact ⟨rfl, _, Eq.trans (World.drewN_drewN _ _ _) (congrArg (World.drewN _) (Nat.add_assoc _ _ _))⟩)) | (go_at_call 46; (with_reducible refine (law08_Few.calls k _ _ l2 t859 _ ?side1 ?side2 A7.out).mono ?_); (case side1 => repeat (first | exact (Kd.C_below HR2.out (by repeat (first | (with_reducible first | exact HB.out | apply below_alloc | apply pw_below_drewN | apply below_drew1) | exact HB.out))) | (with_reducible refine Kd.C_alloc ?_ _) | (with_reducible refine Kd.C_drewN ?_ _) | (with_reducible refine Kd.C_drew ?_))); (case side2 => exact HC2.out); rintro e w' ⟨rfl, ⟨nd, rfl⟩⟩; (try first | exact ⟨rfl, _, World.drewN_drewN _ _ _⟩ | exact ⟨rfl, _, Eq.trans (World.drewN_drewN _ _ _) (congrArg (World.drewN _) (Nat.add_assoc _ _ _))⟩)))
 repeat (go_quiet (first | (go_at_call 45; (with_reducible refine (law08_awake.calls k  t856 _ A4.out).mono ?_); rintro e w9 ⟨rfl, hb⟩; have n0_ := Aside0.mk (below_step (by repeat (first | (with_reducible first | exact HB.out | apply below_alloc | apply pw_below_drewN | apply below_drew1) | exact HB.out)) hb); clear HB; have HB := n0_; clear n0_; (try clear hb); (try clear hb2); (try clear hk); (try clear hi)) | (go_at_call 46; (with_reducible refine (law08_Few.calls k _ _ l0 t857 _ ?side1 ?side2 A5.out).mono ?_); (case side1 => repeat (first | exact (Kd.C_below HR0.out HB.out) | (with_reducible refine Kd.C_alloc ?_ _) | (with_reducible refine Kd.C_drewN ?_ _) | (with_reducible refine Kd.C_drew ?_))); (case side2 => exact HC0.out); rintro e w' ⟨rfl, ⟨nd, rfl⟩⟩; (try first | exact ⟨rfl, _, World.drewN_drewN _ _ _⟩ | exact ⟨rfl, _, Eq.trans (World.drewN_drewN _ _ _) (congrArg (World.drewN _) (Nat.add_assoc _ _ _))⟩)) | (go_at_call 46; (with_reducible refine (law08_Few.calls k _ _ l1 t858 _ ?side1 ?side2 A6.out).mono ?_); (case side1 => repeat (first | exact (Kd.C_below HR1.out (by repeat (first | (with_reducible first | exact HB.out | apply below_alloc | apply pw_below_drewN | apply below_drew1) | exact HB.out))) | (with_reducible refine Kd.C_alloc ?_ _) | (with_reducible refine Kd.C_drewN ?_ _) | (with_reducible refine Kd.C_drew ?_))); (case side2 => exact HC1.out); rintro e w' ⟨rfl, ⟨nd, rfl⟩⟩; (try first | exact ⟨rfl, _, World.drewN_drewN _ _ _⟩ | exact ⟨rfl, _, Eq.trans (World.drewN_drewN _ _ _) (congrArg (World.drewN _) (Nat.add_assoc _ _ _))⟩)) | (go_at_call 46; (with_reducible refine (law08_Few.calls k _ _ l2 t859 _ ?side1 ?side2 A7.out).mono ?_); (case side1 => repeat (first | exact (Kd.C_below HR2.out (by repeat (first | (with_reducible first | exact HB.out | apply below_alloc | apply pw_below_drewN | apply below_drew1) | exact HB.out))) | (with_reducible refine Kd.C_alloc ?_ _) | (with_reducible refine Kd.C_drewN ?_ _) | (with_reducible refine Kd.C_drew ?_))); (case side2 => exact HC2.out); rintro e w' ⟨rfl, ⟨nd, rfl⟩⟩; (try first | exact ⟨rfl, _, World.drewN_drewN _ _ _⟩ | exact ⟨rfl, _, Eq.trans (World.drewN_drewN _ _ _) (congrArg (World.drewN _) (Nat.add_assoc _ _ _))⟩))); go_upto_region 5 with (first | (go_at_call 45; (with_reducible refine (law08_awake.calls k  t856 _ A4.out).mono ?_); rintro e w9 ⟨rfl, hb⟩; have n0_ := Aside0.mk (below_step (by repeat (first | (with_reducible first | exact HB.out | apply below_alloc | apply pw_below_drewN | apply below_drew1) | exact HB.out)) hb); clear HB; have HB := n0_; clear n0_; (try clear hb); (try clear hb2); (try clear hk); (try clear hi)) | (go_at_call 46; (with_reducible refine (law08_Few.calls k _ _ l0 t857 _ ?side1 ?side2 A5.out).mono ?_); (case side1 => repeat (first | exact (Kd.C_below HR0.out HB.out) | (with_reducible refine Kd.C_alloc ?_ _) | (with_reducible refine Kd.C_drewN ?_ _) | (with_reducible refine Kd.C_drew ?_))); (case side2 => exact HC0.out); rintro e w' ⟨rfl, ⟨nd, rfl⟩⟩; (try first | exact ⟨rfl, _, World.drewN_drewN _ _ _⟩ | exact ⟨rfl, _, Eq.trans (World.drewN_drewN _ _ _) (congrArg (World.drewN _) (Nat.add_assoc _ _ _))⟩)) | (go_at_call 46; (with_reducible refine (law08_Few.calls k _ _ l1 t858 _ ?side1 ?side2 A6.out).mono ?_); (case side1 => repeat (first | exact (Kd.C_below HR1.out (by repeat (first | (with_reducible first | exact HB.out | apply below_alloc | apply pw_below_drewN | apply below_drew1) | exact HB.out))) | (with_reducible refine Kd.C_alloc ?_ _) | (with_reducible refine Kd.C_drewN ?_ _) | (with_reducible refine Kd.C_drew ?_))); (case side2 => exact HC1.out); rintro e w' ⟨rfl, ⟨nd, rfl⟩⟩; (try first | exact ⟨rfl, _, World.drewN_drewN _ _ _⟩ | exact ⟨rfl, _, Eq.trans (World.drewN_drewN _ _ _) (congrArg (World.drewN _) (Nat.add_assoc _ _ _))⟩)) | (go_at_call 46; (with_reducible refine (law08_Few.calls k _ _ l2 t859 _ ?side1 ?side2 A7.out).mono ?_); (case side1 => repeat (first | exact (Kd.C_below HR2.out (by repeat (first | (with_reducible first | exact HB.out | apply below_alloc | apply pw_below_drewN | apply below_drew1) | exact HB.out))) | (with_reducible refine Kd.C_alloc ?_ _) | (with_reducible refine Kd.C_drewN ?_ _) | (with_reducible refine Kd.C_drew ?_))); (case side2 => exact HC2.out); rintro e w' ⟨rfl, ⟨nd, rfl⟩⟩; (try first | exact ⟨rfl, _, World.drewN_drewN _ _ _⟩ | exact ⟨rfl, _, Eq.trans (World.drewN_drewN _ _ _) (congrArg (World.drewN _) (Nat.add_assoc _ _ _))⟩))))
 (try simp only [Act.put, List.setIfInBounds_toArray, List.set_cons_zero, List.set_cons_succ])
 go_cut [54] (fun v54 wc => ∃ (kq : Nat) (x54_7 : Bool), v54 = .bool x54_7 ∧ Aside0 (law08_PairMerges.j0 kq l0 l1 l2 t856 x54_7 = some r) ∧ Aside0 (kq ≤ k) ∧ Aside0 (Below w.heap.size w wc))
 case first =>
  have H := HC8.out
  clear HC8
  by_cases c10 : t856 = true
  ·subst c10
   have H1 : (if t857 = true then (if t858 = true then (if t859 = true then ((pair_May.f k l0).bind fun t860 => (if t860 = true then ((pair_May.f k l1).bind fun t861 => (if t861 = true then ((pair_May.f k l2).bind fun t862 => (law08_PairMerges.j0 k l0 l1 l2 true (!t862))) else (law08_PairMerges.j0 k l0 l1 l2 true true))) else (law08_PairMerges.j0 k l0 l1 l2 true true))) else (law08_PairMerges.j0 k l0 l1 l2 true true)) else (law08_PairMerges.j0 k l0 l1 l2 true true)) else (law08_PairMerges.j0 k l0 l1 l2 true true)) = some r := by rw [if_pos rfl] at H; exact H
   clear H
   have H := H1
   clear H1
   by_cases c11 : t857 = true
   ·subst c11
    have H1 : (if t858 = true then (if t859 = true then ((pair_May.f k l0).bind fun t860 => (if t860 = true then ((pair_May.f k l1).bind fun t861 => (if t861 = true then ((pair_May.f k l2).bind fun t862 => (law08_PairMerges.j0 k l0 l1 l2 true (!t862))) else (law08_PairMerges.j0 k l0 l1 l2 true true))) else (law08_PairMerges.j0 k l0 l1 l2 true true))) else (law08_PairMerges.j0 k l0 l1 l2 true true)) else (law08_PairMerges.j0 k l0 l1 l2 true true)) = some r := by rw [if_pos rfl] at H; exact H
    clear H
    have H := H1
    clear H1
    by_cases c12 : t858 = true
    ·subst c12
     have H1 : (if t859 = true then ((pair_May.f k l0).bind fun t860 => (if t860 = true then ((pair_May.f k l1).bind fun t861 => (if t861 = true then ((pair_May.f k l2).bind fun t862 => (law08_PairMerges.j0 k l0 l1 l2 true (!t862))) else (law08_PairMerges.j0 k l0 l1 l2 true true))) else (law08_PairMerges.j0 k l0 l1 l2 true true))) else (law08_PairMerges.j0 k l0 l1 l2 true true)) = some r := by rw [if_pos rfl] at H; exact H
     clear H
     have H := H1
     clear H1
     by_cases c13 : t859 = true
     ·subst c13
      have H1 : ((pair_May.f k l0).bind fun t860 => (if t860 = true then ((pair_May.f k l1).bind fun t861 => (if t861 = true then ((pair_May.f k l2).bind fun t862 => (law08_PairMerges.j0 k l0 l1 l2 true (!t862))) else (law08_PairMerges.j0 k l0 l1 l2 true true))) else (law08_PairMerges.j0 k l0 l1 l2 true true))) = some r := by rw [if_pos rfl] at H; exact H
      clear H
      have H := H1
      clear H1
      replace H := Option.bind_eq_some_iff.mp H
      obtain ⟨t860, A140, H⟩ := H
      replace H : (if t860 = true then ((pair_May.f k l1).bind fun t861 => (if t861 = true then ((pair_May.f k l2).bind fun t862 => (law08_PairMerges.j0 k l0 l1 l2 true (!t862))) else (law08_PairMerges.j0 k l0 l1 l2 true true))) else (law08_PairMerges.j0 k l0 l1 l2 true true)) = some r := H
      have A14 := Aside0.mk A140
      clear A140
      by_cases c15 : t860 = true
      ·subst c15
       have H1 : ((pair_May.f k l1).bind fun t861 => (if t861 = true then ((pair_May.f k l2).bind fun t862 => (law08_PairMerges.j0 k l0 l1 l2 true (!t862))) else (law08_PairMerges.j0 k l0 l1 l2 true true))) = some r := by rw [if_pos rfl] at H; exact H
       clear H
       have H := H1
       clear H1
       replace H := Option.bind_eq_some_iff.mp H
       obtain ⟨t861, A160, H⟩ := H
       replace H : (if t861 = true then ((pair_May.f k l2).bind fun t862 => (law08_PairMerges.j0 k l0 l1 l2 true (!t862))) else (law08_PairMerges.j0 k l0 l1 l2 true true)) = some r := H
       have A16 := Aside0.mk A160
       clear A160
       by_cases c17 : t861 = true
       ·subst c17
        have H1 : ((pair_May.f k l2).bind fun t862 => (law08_PairMerges.j0 k l0 l1 l2 true (!t862))) = some r := by rw [if_pos rfl] at H; exact H
        clear H
        have H := H1
        clear H1
        replace H := Option.bind_eq_some_iff.mp H
        obtain ⟨t862, A180, H⟩ := H
        replace H : (law08_PairMerges.j0 k l0 l1 l2 true (!t862)) = some r := H
        have A18 := Aside0.mk A180
        clear A180
        have H' := Aside0.mk H
        clear H
        go_wp2_with (first | (go_at_call 60; (with_reducible refine (pair_May.calls k _ _ l0 true _ ?side1 ?side2 A14.out).mono ?_); (case side1 => repeat (first | exact (Kd.C_below HR0.out HB.out) | (with_reducible refine Kd.C_alloc ?_ _) | (with_reducible refine Kd.C_drewN ?_ _) | (with_reducible refine Kd.C_drew ?_))); (case side2 => exact HC0.out); rintro e w19 ⟨rfl, hb⟩; have n0_ := Aside0.mk (below_step (by repeat (first | (with_reducible first | exact HB.out | apply below_alloc | apply pw_below_drewN | apply below_drew1) | exact HB.out)) hb); clear HB; have HB := n0_; clear n0_; (try clear hb); (try clear hb2); (try clear hk); (try clear hi)) | (go_at_call 60; (with_reducible refine (pair_May.calls k _ _ l1 true _ ?side1 ?side2 A16.out).mono ?_); (case side1 => repeat (first | exact (Kd.C_below HR1.out HB.out) | (with_reducible refine Kd.C_alloc ?_ _) | (with_reducible refine Kd.C_drewN ?_ _) | (with_reducible refine Kd.C_drew ?_))); (case side2 => exact HC1.out); rintro e w20 ⟨rfl, hb⟩; have n0_ := Aside0.mk (below_step (by repeat (first | (with_reducible first | exact HB.out | apply below_alloc | apply pw_below_drewN | apply below_drew1) | exact HB.out)) hb); clear HB; have HB := n0_; clear n0_; (try clear hb); (try clear hb2); (try clear hk); (try clear hi)) | (go_at_call 60; (with_reducible refine (pair_May.calls k _ _ l2 t862 _ ?side1 ?side2 A18.out).mono ?_); (case side1 => repeat (first | exact (Kd.C_below HR2.out HB.out) | (with_reducible refine Kd.C_alloc ?_ _) | (with_reducible refine Kd.C_drewN ?_ _) | (with_reducible refine Kd.C_drew ?_))); (case side2 => exact HC2.out); rintro e w21 ⟨rfl, hb⟩; have n0_ := Aside0.mk (below_step (by repeat (first | (with_reducible first | exact HB.out | apply below_alloc | apply pw_below_drewN | apply below_drew1) | exact HB.out)) hb); clear HB; have HB := n0_; clear n0_; (try clear hb); (try clear hb2); (try clear hk); (try clear hi)))
        repeat (go_quiet (first | (go_at_call 60; (with_reducible refine (pair_May.calls k _ _ l0 true _ ?side1 ?side2 A14.out).mono ?_); (case side1 => repeat (first | exact (Kd.C_below HR0.out HB.out) | (with_reducible refine Kd.C_alloc ?_ _) | (with_reducible refine Kd.C_drewN ?_ _) | (with_reducible refine Kd.C_drew ?_))); (case side2 => exact HC0.out); rintro e w19 ⟨rfl, hb⟩; have n0_ := Aside0.mk (below_step (by repeat (first | (with_reducible first | exact HB.out | apply below_alloc | apply pw_below_drewN | apply below_drew1) | exact HB.out)) hb); clear HB; have HB := n0_; clear n0_; (try clear hb); (try clear hb2); (try clear hk); (try clear hi)) | (go_at_call 60; (with_reducible refine (pair_May.calls k _ _ l1 true _ ?side1 ?side2 A16.out).mono ?_); (case side1 => repeat (first | exact (Kd.C_below HR1.out HB.out) | (with_reducible refine Kd.C_alloc ?_ _) | (with_reducible refine Kd.C_drewN ?_ _) | (with_reducible refine Kd.C_drew ?_))); (case side2 => exact HC1.out); rintro e w20 ⟨rfl, hb⟩; have n0_ := Aside0.mk (below_step (by repeat (first | (with_reducible first | exact HB.out | apply below_alloc | apply pw_below_drewN | apply below_drew1) | exact HB.out)) hb); clear HB; have HB := n0_; clear n0_; (try clear hb); (try clear hb2); (try clear hk); (try clear hi)) | (go_at_call 60; (with_reducible refine (pair_May.calls k _ _ l2 t862 _ ?side1 ?side2 A18.out).mono ?_); (case side1 => repeat (first | exact (Kd.C_below HR2.out HB.out) | (with_reducible refine Kd.C_alloc ?_ _) | (with_reducible refine Kd.C_drewN ?_ _) | (with_reducible refine Kd.C_drew ?_))); (case side2 => exact HC2.out); rintro e w21 ⟨rfl, hb⟩; have n0_ := Aside0.mk (below_step (by repeat (first | (with_reducible first | exact HB.out | apply below_alloc | apply pw_below_drewN | apply below_drew1) | exact HB.out)) hb); clear HB; have HB := n0_; clear n0_; (try clear hb); (try clear hb2); (try clear hk); (try clear hi))); try go_wp2_with (first | (go_at_call 60; (with_reducible refine (pair_May.calls k _ _ l0 true _ ?side1 ?side2 A14.out).mono ?_); (case side1 => repeat (first | exact (Kd.C_below HR0.out HB.out) | (with_reducible refine Kd.C_alloc ?_ _) | (with_reducible refine Kd.C_drewN ?_ _) | (with_reducible refine Kd.C_drew ?_))); (case side2 => exact HC0.out); rintro e w19 ⟨rfl, hb⟩; have n0_ := Aside0.mk (below_step (by repeat (first | (with_reducible first | exact HB.out | apply below_alloc | apply pw_below_drewN | apply below_drew1) | exact HB.out)) hb); clear HB; have HB := n0_; clear n0_; (try clear hb); (try clear hb2); (try clear hk); (try clear hi)) | (go_at_call 60; (with_reducible refine (pair_May.calls k _ _ l1 true _ ?side1 ?side2 A16.out).mono ?_); (case side1 => repeat (first | exact (Kd.C_below HR1.out HB.out) | (with_reducible refine Kd.C_alloc ?_ _) | (with_reducible refine Kd.C_drewN ?_ _) | (with_reducible refine Kd.C_drew ?_))); (case side2 => exact HC1.out); rintro e w20 ⟨rfl, hb⟩; have n0_ := Aside0.mk (below_step (by repeat (first | (with_reducible first | exact HB.out | apply below_alloc | apply pw_below_drewN | apply below_drew1) | exact HB.out)) hb); clear HB; have HB := n0_; clear n0_; (try clear hb); (try clear hb2); (try clear hk); (try clear hi)) | (go_at_call 60; (with_reducible refine (pair_May.calls k _ _ l2 t862 _ ?side1 ?side2 A18.out).mono ?_); (case side1 => repeat (first | exact (Kd.C_below HR2.out HB.out) | (with_reducible refine Kd.C_alloc ?_ _) | (with_reducible refine Kd.C_drewN ?_ _) | (with_reducible refine Kd.C_drew ?_))); (case side2 => exact HC2.out); rintro e w21 ⟨rfl, hb⟩; have n0_ := Aside0.mk (below_step (by repeat (first | (with_reducible first | exact HB.out | apply below_alloc | apply pw_below_drewN | apply below_drew1) | exact HB.out)) hb); clear HB; have HB := n0_; clear n0_; (try clear hb); (try clear hb2); (try clear hk); (try clear hi))))
        go_meet
        case rel => exact ⟨_, (!t862), (by first | rfl | (simp; done) | (simp [*]; done)), H', ⟨by first | omega | exact Nat.le_refl _⟩, ⟨by repeat (first | (with_reducible first | exact HB.out | apply below_alloc | apply pw_below_drewN | apply below_drew1) | exact HB.out)⟩⟩
       ·replace c17 := Bool.eq_false_iff.mpr c17
        subst c17
        have H1 : (law08_PairMerges.j0 k l0 l1 l2 true true) = some r := by rw [if_neg (show ¬ (false = true) by decide)] at H; exact H
        clear H
        have H := H1
        clear H1
        have H' := Aside0.mk H
        clear H
        go_wp2_with (first | (go_at_call 60; (with_reducible refine (pair_May.calls k _ _ l0 true _ ?side1 ?side2 A14.out).mono ?_); (case side1 => repeat (first | exact (Kd.C_below HR0.out HB.out) | (with_reducible refine Kd.C_alloc ?_ _) | (with_reducible refine Kd.C_drewN ?_ _) | (with_reducible refine Kd.C_drew ?_))); (case side2 => exact HC0.out); rintro e w22 ⟨rfl, hb⟩; have n0_ := Aside0.mk (below_step (by repeat (first | (with_reducible first | exact HB.out | apply below_alloc | apply pw_below_drewN | apply below_drew1) | exact HB.out)) hb); clear HB; have HB := n0_; clear n0_; (try clear hb); (try clear hb2); (try clear hk); (try clear hi)) | (go_at_call 60; (with_reducible refine (pair_May.calls k _ _ l1 false _ ?side1 ?side2 A16.out).mono ?_); (case side1 => repeat (first | exact (Kd.C_below HR1.out HB.out) | (with_reducible refine Kd.C_alloc ?_ _) | (with_reducible refine Kd.C_drewN ?_ _) | (with_reducible refine Kd.C_drew ?_))); (case side2 => exact HC1.out); rintro e w23 ⟨rfl, hb⟩; have n0_ := Aside0.mk (below_step (by repeat (first | (with_reducible first | exact HB.out | apply below_alloc | apply pw_below_drewN | apply below_drew1) | exact HB.out)) hb); clear HB; have HB := n0_; clear n0_; (try clear hb); (try clear hb2); (try clear hk); (try clear hi)))
        repeat (go_quiet (first | (go_at_call 60; (with_reducible refine (pair_May.calls k _ _ l0 true _ ?side1 ?side2 A14.out).mono ?_); (case side1 => repeat (first | exact (Kd.C_below HR0.out HB.out) | (with_reducible refine Kd.C_alloc ?_ _) | (with_reducible refine Kd.C_drewN ?_ _) | (with_reducible refine Kd.C_drew ?_))); (case side2 => exact HC0.out); rintro e w22 ⟨rfl, hb⟩; have n0_ := Aside0.mk (below_step (by repeat (first | (with_reducible first | exact HB.out | apply below_alloc | apply pw_below_drewN | apply below_drew1) | exact HB.out)) hb); clear HB; have HB := n0_; clear n0_; (try clear hb); (try clear hb2); (try clear hk); (try clear hi)) | (go_at_call 60; (with_reducible refine (pair_May.calls k _ _ l1 false _ ?side1 ?side2 A16.out).mono ?_); (case side1 => repeat (first | exact (Kd.C_below HR1.out HB.out) | (with_reducible refine Kd.C_alloc ?_ _) | (with_reducible refine Kd.C_drewN ?_ _) | (with_reducible refine Kd.C_drew ?_))); (case side2 => exact HC1.out); rintro e w23 ⟨rfl, hb⟩; have n0_ := Aside0.mk (below_step (by repeat (first | (with_reducible first | exact HB.out | apply below_alloc | apply pw_below_drewN | apply below_drew1) | exact HB.out)) hb); clear HB; have HB := n0_; clear n0_; (try clear hb); (try clear hb2); (try clear hk); (try clear hi))); try go_wp2_with (first | (go_at_call 60; (with_reducible refine (pair_May.calls k _ _ l0 true _ ?side1 ?side2 A14.out).mono ?_); (case side1 => repeat (first | exact (Kd.C_below HR0.out HB.out) | (with_reducible refine Kd.C_alloc ?_ _) | (with_reducible refine Kd.C_drewN ?_ _) | (with_reducible refine Kd.C_drew ?_))); (case side2 => exact HC0.out); rintro e w22 ⟨rfl, hb⟩; have n0_ := Aside0.mk (below_step (by repeat (first | (with_reducible first | exact HB.out | apply below_alloc | apply pw_below_drewN | apply below_drew1) | exact HB.out)) hb); clear HB; have HB := n0_; clear n0_; (try clear hb); (try clear hb2); (try clear hk); (try clear hi)) | (go_at_call 60; (with_reducible refine (pair_May.calls k _ _ l1 false _ ?side1 ?side2 A16.out).mono ?_); (case side1 => repeat (first | exact (Kd.C_below HR1.out HB.out) | (with_reducible refine Kd.C_alloc ?_ _) | (with_reducible refine Kd.C_drewN ?_ _) | (with_reducible refine Kd.C_drew ?_))); (case side2 => exact HC1.out); rintro e w23 ⟨rfl, hb⟩; have n0_ := Aside0.mk (below_step (by repeat (first | (with_reducible first | exact HB.out | apply below_alloc | apply pw_below_drewN | apply below_drew1) | exact HB.out)) hb); clear HB; have HB := n0_; clear n0_; (try clear hb); (try clear hb2); (try clear hk); (try clear hi))))
        go_meet
        case rel => exact ⟨_, (true), (by first | rfl | (simp; done) | (simp [*]; done)), H', ⟨by first | omega | exact Nat.le_refl _⟩, ⟨by repeat (first | (with_reducible first | exact HB.out | apply below_alloc | apply pw_below_drewN | apply below_drew1) | exact HB.out)⟩⟩
      ·replace c15 := Bool.eq_false_iff.mpr c15
       subst c15
       have H1 : (law08_PairMerges.j0 k l0 l1 l2 true true) = some r := by rw [if_neg (show ¬ (false = true) by decide)] at H; exact H
       clear H
       have H := H1
       clear H1
       have H' := Aside0.mk H
       clear H
       go_wp2_with (first | (go_at_call 60; (with_reducible refine (pair_May.calls k _ _ l0 false _ ?side1 ?side2 A14.out).mono ?_); (case side1 => repeat (first | exact (Kd.C_below HR0.out HB.out) | (with_reducible refine Kd.C_alloc ?_ _) | (with_reducible refine Kd.C_drewN ?_ _) | (with_reducible refine Kd.C_drew ?_))); (case side2 => exact HC0.out); rintro e w24 ⟨rfl, hb⟩; have n0_ := Aside0.mk (below_step (by repeat (first | (with_reducible first | exact HB.out | apply below_alloc | apply pw_below_drewN | apply below_drew1) | exact HB.out)) hb); clear HB; have HB := n0_; clear n0_; (try clear hb); (try clear hb2); (try clear hk); (try clear hi)))
       repeat (go_quiet (first | (go_at_call 60; (with_reducible refine (pair_May.calls k _ _ l0 false _ ?side1 ?side2 A14.out).mono ?_); (case side1 => repeat (first | exact (Kd.C_below HR0.out HB.out) | (with_reducible refine Kd.C_alloc ?_ _) | (with_reducible refine Kd.C_drewN ?_ _) | (with_reducible refine Kd.C_drew ?_))); (case side2 => exact HC0.out); rintro e w24 ⟨rfl, hb⟩; have n0_ := Aside0.mk (below_step (by repeat (first | (with_reducible first | exact HB.out | apply below_alloc | apply pw_below_drewN | apply below_drew1) | exact HB.out)) hb); clear HB; have HB := n0_; clear n0_; (try clear hb); (try clear hb2); (try clear hk); (try clear hi))); try go_wp2_with (first | (go_at_call 60; (with_reducible refine (pair_May.calls k _ _ l0 false _ ?side1 ?side2 A14.out).mono ?_); (case side1 => repeat (first | exact (Kd.C_below HR0.out HB.out) | (with_reducible refine Kd.C_alloc ?_ _) | (with_reducible refine Kd.C_drewN ?_ _) | (with_reducible refine Kd.C_drew ?_))); (case side2 => exact HC0.out); rintro e w24 ⟨rfl, hb⟩; have n0_ := Aside0.mk (below_step (by repeat (first | (with_reducible first | exact HB.out | apply below_alloc | apply pw_below_drewN | apply below_drew1) | exact HB.out)) hb); clear HB; have HB := n0_; clear n0_; (try clear hb); (try clear hb2); (try clear hk); (try clear hi))))
       go_meet
       case rel => exact ⟨_, (true), (by first | rfl | (simp; done) | (simp [*]; done)), H', ⟨by first | omega | exact Nat.le_refl _⟩, ⟨by repeat (first | (with_reducible first | exact HB.out | apply below_alloc | apply pw_below_drewN | apply below_drew1) | exact HB.out)⟩⟩
     ·replace c13 := Bool.eq_false_iff.mpr c13
      subst c13
      have H1 : (law08_PairMerges.j0 k l0 l1 l2 true true) = some r := by rw [if_neg (show ¬ (false = true) by decide)] at H; exact H
      clear H
      have H := H1
      clear H1
      have H' := Aside0.mk H
      clear H
      go_wp2
      repeat (go_quiet (fail); try go_wp2)
      go_meet
      case rel => exact ⟨_, (true), (by first | rfl | (simp; done) | (simp [*]; done)), H', ⟨by first | omega | exact Nat.le_refl _⟩, ⟨by repeat (first | (with_reducible first | exact HB.out | apply below_alloc | apply pw_below_drewN | apply below_drew1) | exact HB.out)⟩⟩
    ·replace c12 := Bool.eq_false_iff.mpr c12
     subst c12
     have H1 : (law08_PairMerges.j0 k l0 l1 l2 true true) = some r := by rw [if_neg (show ¬ (false = true) by decide)] at H; exact H
     clear H
     have H := H1
     clear H1
     have H' := Aside0.mk H
     clear H
     go_wp2
     repeat (go_quiet (fail); try go_wp2)
     go_meet
     case rel => exact ⟨_, (true), (by first | rfl | (simp; done) | (simp [*]; done)), H', ⟨by first | omega | exact Nat.le_refl _⟩, ⟨by repeat (first | (with_reducible first | exact HB.out | apply below_alloc | apply pw_below_drewN | apply below_drew1) | exact HB.out)⟩⟩
   ·replace c11 := Bool.eq_false_iff.mpr c11
    subst c11
    have H1 : (law08_PairMerges.j0 k l0 l1 l2 true true) = some r := by rw [if_neg (show ¬ (false = true) by decide)] at H; exact H
    clear H
    have H := H1
    clear H1
    have H' := Aside0.mk H
    clear H
    go_wp2
    repeat (go_quiet (fail); try go_wp2)
    go_meet
    case rel => exact ⟨_, (true), (by first | rfl | (simp; done) | (simp [*]; done)), H', ⟨by first | omega | exact Nat.le_refl _⟩, ⟨by repeat (first | (with_reducible first | exact HB.out | apply below_alloc | apply pw_below_drewN | apply below_drew1) | exact HB.out)⟩⟩
  ·replace c10 := Bool.eq_false_iff.mpr c10
   subst c10
   have H1 : (law08_PairMerges.j0 k l0 l1 l2 false true) = some r := by rw [if_neg (show ¬ (false = true) by decide)] at H; exact H
   clear H
   have H := H1
   clear H1
   have H' := Aside0.mk H
   clear H
   go_wp2
   repeat (go_quiet (fail); try go_wp2)
   go_meet
   case rel => exact ⟨_, (true), (by first | rfl | (simp; done) | (simp [*]; done)), H', ⟨by first | omega | exact Nat.le_refl _⟩, ⟨by repeat (first | (with_reducible first | exact HB.out | apply below_alloc | apply pw_below_drewN | apply below_drew1) | exact HB.out)⟩⟩
 case rest =>
  clear HC8
  try clear c1
  try clear c2
  try clear p2
  try clear c10
  try clear c11
  try clear c12
  try clear c13
  try clear c15
  try clear c16
  try clear c17
  obtain ⟨kq, x54_7, rfl, HA, HJ7, HB⟩ := hcut
  cases kq with
  | zero => exact absurd HA.out (by simp [law08_PairMerges.j0])
  | succ kj7 =>
   have H := HA.out
   clear HA
   simp only [law08_PairMerges.j0] at H
   by_cases c25 : x54_7 = true
   ·subst c25
    have H1 : (some t856) = some r := by rw [if_pos rfl] at H; exact H
    clear H
    have H := H1
    clear H1
    obtain rfl := Option.some.inj H
    go_wp2
    repeat (go_quiet (fail); try go_wp2)
    go_ret
    exact ⟨by first | rfl | (simp [errW_none, errW_some] <;> rfl) | (simp [*, errW_none, errW_some] <;> rfl), by repeat (first | (with_reducible first | exact HB.out | apply below_alloc | apply pw_below_drewN | apply below_drew1) | exact HB.out)⟩
   ·replace c25 := Bool.eq_false_iff.mpr c25
    subst c25
    have H1 : ((pair_Merge.f l0 l1 l2).bind fun t863 => ((pair_Merge.f l0 l2 l1).bind fun t866 => ((ref08_Same.f kj7 t863 t866).bind fun t869 => ((pair_Merge.f l0 l0 l2).bind fun t870 => ((ref08_Same.f kj7 t870 l2).bind fun t873 => ((pair_Merge.f l0 l1 l1).bind fun t874 => ((ref08_Same.f kj7 t874 l1).bind fun t877 => (if t869 = true then (if t873 = true then (if t877 = true then ((pair_May.f kj7 t863).bind fun t878 => (law08_PairMerges.j1 kj7 l1 l2 t863 (!t878))) else (law08_PairMerges.j1 kj7 l1 l2 t863 true)) else (law08_PairMerges.j1 kj7 l1 l2 t863 true)) else (law08_PairMerges.j1 kj7 l1 l2 t863 true))))))))) = some r := by rw [if_neg (show ¬ (false = true) by decide)] at H; exact H
    clear H
    have H := H1
    clear H1
    replace H := Option.bind_eq_some_iff.mp H
    obtain ⟨t863, A260, H⟩ := H
    replace H : ((pair_Merge.f l0 l2 l1).bind fun t866 => ((ref08_Same.f kj7 t863 t866).bind fun t869 => ((pair_Merge.f l0 l0 l2).bind fun t870 => ((ref08_Same.f kj7 t870 l2).bind fun t873 => ((pair_Merge.f l0 l1 l1).bind fun t874 => ((ref08_Same.f kj7 t874 l1).bind fun t877 => (if t869 = true then (if t873 = true then (if t877 = true then ((pair_May.f kj7 t863).bind fun t878 => (law08_PairMerges.j1 kj7 l1 l2 t863 (!t878))) else (law08_PairMerges.j1 kj7 l1 l2 t863 true)) else (law08_PairMerges.j1 kj7 l1 l2 t863 true)) else (law08_PairMerges.j1 kj7 l1 l2 t863 true)))))))) = some r := H
    have A26 := Aside0.mk A260
    clear A260
    replace H := Option.bind_eq_some_iff.mp H
    obtain ⟨t866, A270, H⟩ := H
    replace H : ((ref08_Same.f kj7 t863 t866).bind fun t869 => ((pair_Merge.f l0 l0 l2).bind fun t870 => ((ref08_Same.f kj7 t870 l2).bind fun t873 => ((pair_Merge.f l0 l1 l1).bind fun t874 => ((ref08_Same.f kj7 t874 l1).bind fun t877 => (if t869 = true then (if t873 = true then (if t877 = true then ((pair_May.f kj7 t863).bind fun t878 => (law08_PairMerges.j1 kj7 l1 l2 t863 (!t878))) else (law08_PairMerges.j1 kj7 l1 l2 t863 true)) else (law08_PairMerges.j1 kj7 l1 l2 t863 true)) else (law08_PairMerges.j1 kj7 l1 l2 t863 true))))))) = some r := H
    have A27 := Aside0.mk A270
    clear A270
    replace H := Option.bind_eq_some_iff.mp H
    obtain ⟨t869, A280, H⟩ := H
    replace H : ((pair_Merge.f l0 l0 l2).bind fun t870 => ((ref08_Same.f kj7 t870 l2).bind fun t873 => ((pair_Merge.f l0 l1 l1).bind fun t874 => ((ref08_Same.f kj7 t874 l1).bind fun t877 => (if t869 = true then (if t873 = true then (if t877 = true then ((pair_May.f kj7 t863).bind fun t878 => (law08_PairMerges.j1 kj7 l1 l2 t863 (!t878))) else (law08_PairMerges.j1 kj7 l1 l2 t863 true)) else (law08_PairMerges.j1 kj7 l1 l2 t863 true)) else (law08_PairMerges.j1 kj7 l1 l2 t863 true)))))) = some r := H
    have A28 := Aside0.mk A280
    clear A280
    replace H := Option.bind_eq_some_iff.mp H
    obtain ⟨t870, A290, H⟩ := H
    replace H : ((ref08_Same.f kj7 t870 l2).bind fun t873 => ((pair_Merge.f l0 l1 l1).bind fun t874 => ((ref08_Same.f kj7 t874 l1).bind fun t877 => (if t869 = true then (if t873 = true then (if t877 = true then ((pair_May.f kj7 t863).bind fun t878 => (law08_PairMerges.j1 kj7 l1 l2 t863 (!t878))) else (law08_PairMerges.j1 kj7 l1 l2 t863 true)) else (law08_PairMerges.j1 kj7 l1 l2 t863 true)) else (law08_PairMerges.j1 kj7 l1 l2 t863 true))))) = some r := H
    have A29 := Aside0.mk A290
    clear A290
    replace H := Option.bind_eq_some_iff.mp H
    obtain ⟨t873, A300, H⟩ := H
    replace H : ((pair_Merge.f l0 l1 l1).bind fun t874 => ((ref08_Same.f kj7 t874 l1).bind fun t877 => (if t869 = true then (if t873 = true then (if t877 = true then ((pair_May.f kj7 t863).bind fun t878 => (law08_PairMerges.j1 kj7 l1 l2 t863 (!t878))) else (law08_PairMerges.j1 kj7 l1 l2 t863 true)) else (law08_PairMerges.j1 kj7 l1 l2 t863 true)) else (law08_PairMerges.j1 kj7 l1 l2 t863 true)))) = some r := H
    have A30 := Aside0.mk A300
    clear A300
    replace H := Option.bind_eq_some_iff.mp H
    obtain ⟨t874, A310, H⟩ := H
    replace H : ((ref08_Same.f kj7 t874 l1).bind fun t877 => (if t869 = true then (if t873 = true then (if t877 = true then ((pair_May.f kj7 t863).bind fun t878 => (law08_PairMerges.j1 kj7 l1 l2 t863 (!t878))) else (law08_PairMerges.j1 kj7 l1 l2 t863 true)) else (law08_PairMerges.j1 kj7 l1 l2 t863 true)) else (law08_PairMerges.j1 kj7 l1 l2 t863 true))) = some r := H
    have A31 := Aside0.mk A310
    clear A310
    replace H := Option.bind_eq_some_iff.mp H
    obtain ⟨t877, A320, H⟩ := H
    replace H : (if t869 = true then (if t873 = true then (if t877 = true then ((pair_May.f kj7 t863).bind fun t878 => (law08_PairMerges.j1 kj7 l1 l2 t863 (!t878))) else (law08_PairMerges.j1 kj7 l1 l2 t863 true)) else (law08_PairMerges.j1 kj7 l1 l2 t863 true)) else (law08_PairMerges.j1 kj7 l1 l2 t863 true)) = some r := H
    have A32 := Aside0.mk A320
    clear A320
    have HC33 := Aside0.mk H
    clear H
    go_upto_region 11 with (first | (go_at_call 53; (with_reducible refine (pair_Merge.calls _ _ l0 _ _ l1 _ _ l2 t863 _ ?side1 ?side2 ?side3 ?side4 ?side5 ?side6 A26.out).mono ?_); (case side1 => repeat (first | exact (Kd.C_below HR0.out HB.out) | (with_reducible refine Kd.C_alloc ?_ _) | (with_reducible refine Kd.C_drewN ?_ _) | (with_reducible refine Kd.C_drew ?_))); (case side2 => exact HC0.out); (case side3 => repeat (first | exact (Kd.C_below HR1.out HB.out) | (with_reducible refine Kd.C_alloc ?_ _) | (with_reducible refine Kd.C_drewN ?_ _) | (with_reducible refine Kd.C_drew ?_))); (case side4 => exact HC1.out); (case side5 => repeat (first | exact (Kd.C_below HR2.out HB.out) | (with_reducible refine Kd.C_alloc ?_ _) | (with_reducible refine Kd.C_drewN ?_ _) | (with_reducible refine Kd.C_drew ?_))); (case side6 => exact HC2.out); rintro e w34 ⟨v864, rfl, ho0, hb⟩; have n0_ := Aside0.mk (Kd.R_lower ho0 (below_size (by repeat (first | (with_reducible first | exact HB.out | apply below_alloc | apply pw_below_drewN | apply below_drew1) | exact HB.out)))); have n1_ := Aside0.mk (below_step (by repeat (first | (with_reducible first | exact HB.out | apply below_alloc | apply pw_below_drewN | apply below_drew1) | exact HB.out)) hb); clear HB; have HO865 := n0_; have HB := n1_; clear n0_ n1_; (try clear hb); (try clear hb2); (try clear hk); (try clear hi); (try clear ho0)) | (go_at_call 53; (with_reducible refine (pair_Merge.calls _ _ l0 _ _ l2 _ _ l1 t866 _ ?side1 ?side2 ?side3 ?side4 ?side5 ?side6 A27.out).mono ?_); (case side1 => repeat (first | exact (Kd.C_below HR0.out HB.out) | (with_reducible refine Kd.C_alloc ?_ _) | (with_reducible refine Kd.C_drewN ?_ _) | (with_reducible refine Kd.C_drew ?_))); (case side2 => exact HC0.out); (case side3 => repeat (first | exact (Kd.C_below HR2.out HB.out) | (with_reducible refine Kd.C_alloc ?_ _) | (with_reducible refine Kd.C_drewN ?_ _) | (with_reducible refine Kd.C_drew ?_))); (case side4 => exact HC2.out); (case side5 => repeat (first | exact (Kd.C_below HR1.out HB.out) | (with_reducible refine Kd.C_alloc ?_ _) | (with_reducible refine Kd.C_drewN ?_ _) | (with_reducible refine Kd.C_drew ?_))); (case side6 => exact HC1.out); rintro e w35 ⟨v867, rfl, ho0, hb⟩; have n0_ := Aside0.mk (Kd.R_elder' (by (with_reducible repeat (first | apply Kd.R_alloc | apply Kd.R_drewN | apply Kd.R_drew)); exact HO865.out) (Kd.R_base ho0) hb); have n1_ := Aside0.mk (Kd.R_lower (Kd.R_new' ho0 (Kd.R_lt (by (with_reducible repeat (first | apply Kd.R_alloc | apply Kd.R_drewN | apply Kd.R_drew)); exact HO865.out))) (below_size (by repeat (first | (with_reducible first | exact HB.out | apply below_alloc | apply pw_below_drewN | apply below_drew1) | exact HB.out)))); have n2_ := Aside0.mk (below_step (by repeat (first | (with_reducible first | exact HB.out | apply below_alloc | apply pw_below_drewN | apply below_drew1) | exact HB.out)) hb); clear HO865; clear HB; have HO865 := n0_; have HO868 := n1_; have HB := n2_; clear n0_ n1_ n2_; (try clear hb); (try clear hb2); (try clear hk); (try clear hi); (try clear ho0); obtain ⟨Ao36, co36, eo36⟩ := Kd.R_slice HO865.out; subst eo36; obtain ⟨Ao37, co37, eo37⟩ := Kd.R_slice HO868.out; subst eo37) | (go_at_call 48; (with_reducible refine (ref08_Same.calls kj7 _ _ t863 _ _ t866 t869 _ ?side1 ?side2 ?side3 ?side4 A28.out).mono ?_); (case side1 => repeat (first | exact (Kd.R_reads' HO865.out).2.2 | (with_reducible refine Kd.C_alloc ?_ _) | (with_reducible refine Kd.C_drewN ?_ _) | (with_reducible refine Kd.C_drew ?_))); (case side2 => exact (Kd.R_reads' HO865.out).2.1); (case side3 => repeat (first | exact (Kd.R_reads' HO868.out).2.2 | (with_reducible refine Kd.C_alloc ?_ _) | (with_reducible refine Kd.C_drewN ?_ _) | (with_reducible refine Kd.C_drew ?_))); (case side4 => exact (Kd.R_reads' HO868.out).2.1); rintro e w' ⟨rfl, ⟨nd, rfl⟩⟩; (try first | exact ⟨rfl, _, World.drewN_drewN _ _ _⟩ | exact ⟨rfl, _, Eq.trans (World.drewN_drewN _ _ _) (congrArg (World.drewN _) (Nat.add_assoc _ _ _))⟩)) | (go_at_call 53; (with_reducible refine (pair_Merge.calls _ _ l0 _ _ l0 _ _ l2 t870 _ ?side1 ?side2 ?side3 ?side4 ?side5 ?side6 A29.out).mono ?_); (case side1 => repeat (first | exact (Kd.C_below HR0.out (by repeat (first | (with_reducible first | exact HB.out | apply below_alloc | apply pw_below_drewN | apply below_drew1) | exact HB.out))) | (with_reducible refine Kd.C_alloc ?_ _) | (with_reducible refine Kd.C_drewN ?_ _) | (with_reducible refine Kd.C_drew ?_))); (case side2 => exact HC0.out); (case side3 => repeat (first | exact (Kd.C_below HR0.out (by repeat (first | (with_reducible first | exact HB.out | apply below_alloc | apply pw_below_drewN | apply below_drew1) | exact HB.out))) | (with_reducible refine Kd.C_alloc ?_ _) | (with_reducible refine Kd.C_drewN ?_ _) | (with_reducible refine Kd.C_drew ?_))); (case side4 => exact HC0.out); (case side5 => repeat (first | exact (Kd.C_below HR2.out (by repeat (first | (with_reducible first | exact HB.out | apply below_alloc | apply pw_below_drewN | apply below_drew1) | exact HB.out))) | (with_reducible refine Kd.C_alloc ?_ _) | (with_reducible refine Kd.C_drewN ?_ _) | (with_reducible refine Kd.C_drew ?_))); (case side6 => exact HC2.out); rintro e w38 ⟨v871, rfl, ho0, hb⟩; have n0_ := Aside0.mk (Kd.R_elder' (by (with_reducible repeat (first | apply Kd.R_alloc | apply Kd.R_drewN | apply Kd.R_drew)); exact HO865.out) (Kd.R_base ho0) hb); have n1_ := Aside0.mk (Kd.R_elder' (by (with_reducible repeat (first | apply Kd.R_alloc | apply Kd.R_drewN | apply Kd.R_drew)); exact HO868.out) (Kd.R_base ho0) hb); have n2_ := Aside0.mk (Kd.R_lower (Kd.R_new' (Kd.R_new' ho0 (Kd.R_lt (by (with_reducible repeat (first | apply Kd.R_alloc | apply Kd.R_drewN | apply Kd.R_drew)); exact HO865.out))) (Kd.R_lt (by (with_reducible repeat (first | apply Kd.R_alloc | apply Kd.R_drewN | apply Kd.R_drew)); exact HO868.out))) (below_size (by repeat (first | (with_reducible first | exact HB.out | apply below_alloc | apply pw_below_drewN | apply below_drew1) | exact HB.out)))); have n3_ := Aside0.mk (below_step (by repeat (first | (with_reducible first | exact HB.out | apply below_alloc | apply pw_below_drewN | apply below_drew1) | exact HB.out)) hb); clear HO865; clear HO868; clear HB; have HO865 := n0_; have HO868 := n1_; have HO872 := n2_; have HB := n3_; clear n0_ n1_ n2_ n3_; (try clear hb); (try clear hb2); (try clear hk); (try clear hi); (try clear ho0); obtain ⟨Ao39, co39, eo39⟩ := Kd.R_slice HO872.out; subst eo39) | (go_at_call 48; (with_reducible refine (ref08_Same.calls kj7 _ _ t870 _ _ l2 t873 _ ?side1 ?side2 ?side3 ?side4 A30.out).mono ?_); (case side1 => repeat (first | exact (Kd.R_reads' HO872.out).2.2 | (with_reducible refine Kd.C_alloc ?_ _) | (with_reducible refine Kd.C_drewN ?_ _) | (with_reducible refine Kd.C_drew ?_))); (case side2 => exact (Kd.R_reads' HO872.out).2.1); (case side3 => repeat (first | exact (Kd.C_below HR2.out HB.out) | (with_reducible refine Kd.C_alloc ?_ _) | (with_reducible refine Kd.C_drewN ?_ _) | (with_reducible refine Kd.C_drew ?_))); (case side4 => exact HC2.out); rintro e w' ⟨rfl, ⟨nd, rfl⟩⟩; (try first | exact ⟨rfl, _, World.drewN_drewN _ _ _⟩ | exact ⟨rfl, _, Eq.trans (World.drewN_drewN _ _ _) (congrArg (World.drewN _) (Nat.add_assoc _ _ _))⟩)) | (go_at_call 53; (with_reducible refine (pair_Merge.calls _ _ l0 _ _ l1 _ _ l1 t874 _ ?side1 ?side2 ?side3 ?side4 ?side5 ?side6 A31.out).mono ?_); (case side1 => repeat (first | exact (Kd.C_below HR0.out (by repeat (first | (with_reducible first | exact HB.out | apply below_alloc | apply pw_below_drewN | apply below_drew1) | exact HB.out))) | (with_reducible refine Kd.C_alloc ?_ _) | (with_reducible refine Kd.C_drewN ?_ _) | (with_reducible refine Kd.C_drew ?_))); (case side2 => exact HC0.out); (case side3 => repeat (first | exact (Kd.C_below HR1.out (by repeat (first | (with_reducible first | exact HB.out | apply below_alloc | apply pw_below_drewN | apply below_drew1) | exact HB.out))) | (with_reducible refine Kd.C_alloc ?_ _) | (with_reducible refine Kd.C_drewN ?_ _) | (with_reducible refine Kd.C_drew ?_))); (case side4 => exact HC1.out); (case side5 => repeat (first | exact (Kd.C_below HR1.out (by repeat (first | (with_reducible first | exact HB.out | apply below_alloc | apply pw_below_drewN | apply below_drew1) | exact HB.out))) | (with_reducible refine Kd.C_alloc ?_ _) | (with_reducible refine Kd.C_drewN ?_ _) | (with_reducible refine Kd.C_drew ?_))); (case side6 => exact HC1.out); rintro e w40 ⟨v875, rfl, ho0, hb⟩; have n0_ := Aside0.mk (Kd.R_elder' (by (with_reducible repeat (first | apply Kd.R_alloc | apply Kd.R_drewN | apply Kd.R_drew)); exact HO865.out) (Kd.R_base ho0) hb); have n1_ := Aside0.mk (Kd.R_elder' (by (with_reducible repeat (first | apply Kd.R_alloc | apply Kd.R_drewN | apply Kd.R_drew)); exact HO868.out) (Kd.R_base ho0) hb); have n2_ := Aside0.mk (Kd.R_elder' (by (with_reducible repeat (first | apply Kd.R_alloc | apply Kd.R_drewN | apply Kd.R_drew)); exact HO872.out) (Kd.R_base ho0) hb); have n3_ := Aside0.mk (Kd.R_lower (Kd.R_new' (Kd.R_new' (Kd.R_new' ho0 (Kd.R_lt (by (with_reducible repeat (first | apply Kd.R_alloc | apply Kd.R_drewN | apply Kd.R_drew)); exact HO865.out))) (Kd.R_lt (by (with_reducible repeat (first | apply Kd.R_alloc | apply Kd.R_drewN | apply Kd.R_drew)); exact HO868.out))) (Kd.R_lt (by (with_reducible repeat (first | apply Kd.R_alloc | apply Kd.R_drewN | apply Kd.R_drew)); exact HO872.out))) (below_size (by repeat (first | (with_reducible first | exact HB.out | apply below_alloc | apply pw_below_drewN | apply below_drew1) | exact HB.out)))); have n4_ := Aside0.mk (below_step (by repeat (first | (with_reducible first | exact HB.out | apply below_alloc | apply pw_below_drewN | apply below_drew1) | exact HB.out)) hb); clear HO865; clear HO868; clear HO872; clear HB; have HO865 := n0_; have HO868 := n1_; have HO872 := n2_; have HO876 := n3_; have HB := n4_; clear n0_ n1_ n2_ n3_ n4_; (try clear hb); (try clear hb2); (try clear hk); (try clear hi); (try clear ho0); obtain ⟨Ao41, co41, eo41⟩ := Kd.R_slice HO876.out; subst eo41) | (go_at_call 48; (with_reducible refine (ref08_Same.calls kj7 _ _ t874 _ _ l1 t877 _ ?side1 ?side2 ?side3 ?side4 A32.out).mono ?_); (case side1 => repeat (first | exact (Kd.R_reads' HO876.out).2.2 | (with_reducible refine Kd.C_alloc ?_ _) | (with_reducible refine Kd.C_drewN ?_ _) | (with_reducible refine Kd.C_drew ?_))); (case side2 => exact (Kd.R_reads' HO876.out).2.1); (case side3 => repeat (first | exact (Kd.C_below HR1.out HB.out) | (with_reducible refine Kd.C_alloc ?_ _) | (with_reducible refine Kd.C_drewN ?_ _) | (with_reducible refine Kd.C_drew ?_))); (case side4 => exact HC1.out); rintro e w' ⟨rfl, ⟨nd, rfl⟩⟩; (try first | exact ⟨rfl, _, World.drewN_drewN _ _ _⟩ | exact ⟨rfl, _, Eq.trans (World.drewN_drewN _ _ _) (congrArg (World.drewN _) (Nat.add_assoc _ _ _))⟩)))
    repeat (go_quiet (first | (go_at_call 53; (with_reducible refine (pair_Merge.calls _ _ l0 _ _ l1 _ _ l2 t863 _ ?side1 ?side2 ?side3 ?side4 ?side5 ?side6 A26.out).mono ?_); (case side1 => repeat (first | exact (Kd.C_below HR0.out HB.out) | (with_reducible refine Kd.C_alloc ?_ _) | (with_reducible refine Kd.C_drewN ?_ _) | (with_reducible refine Kd.C_drew ?_))); (case side2 => exact HC0.out); (case side3 => repeat (first | exact (Kd.C_below HR1.out HB.out) | (with_reducible refine Kd.C_alloc ?_ _) | (with_reducible refine Kd.C_drewN ?_ _) | (with_reducible refine Kd.C_drew ?_))); (case side4 => exact HC1.out); (case side5 => repeat (first | exact (Kd.C_below HR2.out HB.out) | (with_reducible refine Kd.C_alloc ?_ _) | (with_reducible refine Kd.C_drewN ?_ _) | (with_reducible refine Kd.C_drew ?_))); (case side6 => exact HC2.out); rintro e w34 ⟨v864, rfl, ho0, hb⟩; have n0_ := Aside0.mk (Kd.R_lower ho0 (below_size (by repeat (first | (with_reducible first | exact HB.out | apply below_alloc | apply pw_below_drewN | apply below_drew1) | exact HB.out)))); have n1_ := Aside0.mk (below_step (by repeat (first | (with_reducible first | exact HB.out | apply below_alloc | apply pw_below_drewN | apply below_drew1) | exact HB.out)) hb); clear HB; have HO865 := n0_; have HB := n1_; clear n0_ n1_; (try clear hb); (try clear hb2); (try clear hk); (try clear hi); (try clear ho0)) | (go_at_call 53; (with_reducible refine (pair_Merge.calls _ _ l0 _ _ l2 _ _ l1 t866 _ ?side1 ?side2 ?side3 ?side4 ?side5 ?side6 A27.out).mono ?_); (case side1 => repeat (first | exact (Kd.C_below HR0.out HB.out) | (with_reducible refine Kd.C_alloc ?_ _) | (with_reducible refine Kd.C_drewN ?_ _) | (with_reducible refine Kd.C_drew ?_))); (case side2 => exact HC0.out); (case side3 => repeat (first | exact (Kd.C_below HR2.out HB.out) | (with_reducible refine Kd.C_alloc ?_ _) | (with_reducible refine Kd.C_drewN ?_ _) | (with_reducible refine Kd.C_drew ?_))); (case side4 => exact HC2.out); (case side5 => repeat (first | exact (Kd.C_below HR1.out HB.out) | (with_reducible refine Kd.C_alloc ?_ _) | (with_reducible refine Kd.C_drewN ?_ _) | (with_reducible refine Kd.C_drew ?_))); (case side6 => exact HC1.out); rintro e w35 ⟨v867, rfl, ho0, hb⟩; have n0_ := Aside0.mk (Kd.R_elder' (by (with_reducible repeat (first | apply Kd.R_alloc | apply Kd.R_drewN | apply Kd.R_drew)); exact HO865.out) (Kd.R_base ho0) hb); have n1_ := Aside0.mk (Kd.R_lower (Kd.R_new' ho0 (Kd.R_lt (by (with_reducible repeat (first | apply Kd.R_alloc | apply Kd.R_drewN | apply Kd.R_drew)); exact HO865.out))) (below_size (by repeat (first | (with_reducible first | exact HB.out | apply below_alloc | apply pw_below_drewN | apply below_drew1) | exact HB.out)))); have n2_ := Aside0.mk (below_step (by repeat (first | (with_reducible first | exact HB.out | apply below_alloc | apply pw_below_drewN | apply below_drew1) | exact HB.out)) hb); clear HO865; clear HB; have HO865 := n0_; have HO868 := n1_; have HB := n2_; clear n0_ n1_ n2_; (try clear hb); (try clear hb2); (try clear hk); (try clear hi); (try clear ho0); obtain ⟨Ao36, co36, eo36⟩ := Kd.R_slice HO865.out; subst eo36; obtain ⟨Ao37, co37, eo37⟩ := Kd.R_slice HO868.out; subst eo37) | (go_at_call 48; (with_reducible refine (ref08_Same.calls kj7 _ _ t863 _ _ t866 t869 _ ?side1 ?side2 ?side3 ?side4 A28.out).mono ?_); (case side1 => repeat (first | exact (Kd.R_reads' HO865.out).2.2 | (with_reducible refine Kd.C_alloc ?_ _) | (with_reducible refine Kd.C_drewN ?_ _) | (with_reducible refine Kd.C_drew ?_))); (case side2 => exact (Kd.R_reads' HO865.out).2.1); (case side3 => repeat (first | exact (Kd.R_reads' HO868.out).2.2 | (with_reducible refine Kd.C_alloc ?_ _) | (with_reducible refine Kd.C_drewN ?_ _) | (with_reducible refine Kd.C_drew ?_))); (case side4 => exact (Kd.R_reads' HO868.out).2.1); rintro e w' ⟨rfl, ⟨nd, rfl⟩⟩; (try first | exact ⟨rfl, _, World.drewN_drewN _ _ _⟩ | exact ⟨rfl, _, Eq.trans (World.drewN_drewN _ _ _) (congrArg (World.drewN _) (Nat.add_assoc _ _ _))⟩)) | (go_at_call 53; (with_reducible refine (pair_Merge.calls _ _ l0 _ _ l0 _ _ l2 t870 _ ?side1 ?side2 ?side3 ?side4 ?side5 ?side6 A29.out).mono ?_); (case side1 => repeat (first | exact (Kd.C_below HR0.out (by repeat (first | (with_reducible first | exact HB.out | apply below_alloc | apply pw_below_drewN | apply below_drew1) | exact HB.out))) | (with_reducible refine Kd.C_alloc ?_ _) | (with_reducible refine Kd.C_drewN ?_ _) | (with_reducible refine Kd.C_drew ?_))); (case side2 => exact HC0.out); (case side3 => repeat (first | exact (Kd.C_below HR0.out (by repeat (first | (with_reducible first | exact HB.out | apply below_alloc | apply pw_below_drewN | apply below_drew1) | exact HB.out))) | (with_reducible refine Kd.C_alloc ?_ _) | (with_reducible refine Kd.C_drewN ?_ _) | (with_reducible refine Kd.C_drew ?_))); (case side4 => exact HC0.out); (case side5 => repeat (first | exact (Kd.C_below HR2.out (by repeat (first | (with_reducible first | exact HB.out | apply below_alloc | apply pw_below_drewN | apply below_drew1) | exact HB.out))) | (with_reducible refine Kd.C_alloc ?_ _) | (with_reducible refine Kd.C_drewN ?_ _) | (with_reducible refine Kd.C_drew ?_))); (case side6 => exact HC2.out); rintro e w38 ⟨v871, rfl, ho0, hb⟩; have n0_ := Aside0.mk (Kd.R_elder' (by (with_reducible repeat (first | apply Kd.R_alloc | apply Kd.R_drewN | apply Kd.R_drew)); exact HO865.out) (Kd.R_base ho0) hb); have n1_ := Aside0.mk (Kd.R_elder' (by (with_reducible repeat (first | apply Kd.R_alloc | apply Kd.R_drewN | apply Kd.R_drew)); exact HO868.out) (Kd.R_base ho0) hb); have n2_ := Aside0.mk (Kd.R_lower (Kd.R_new' (Kd.R_new' ho0 (Kd.R_lt (by (with_reducible repeat (first | apply Kd.R_alloc | apply Kd.R_drewN | apply Kd.R_drew)); exact HO865.out))) (Kd.R_lt (by (with_reducible repeat (first | apply Kd.R_alloc | apply Kd.R_drewN | apply Kd.R_drew)); exact HO868.out))) (below_size (by repeat (first | (with_reducible first | exact HB.out | apply below_alloc | apply pw_below_drewN | apply below_drew1) | exact HB.out)))); have n3_ := Aside0.mk (below_step (by repeat (first | (with_reducible first | exact HB.out | apply below_alloc | apply pw_below_drewN | apply below_drew1) | exact HB.out)) hb); clear HO865; clear HO868; clear HB; have HO865 := n0_; have HO868 := n1_; have HO872 := n2_; have HB := n3_; clear n0_ n1_ n2_ n3_; (try clear hb); (try clear hb2); (try clear hk); (try clear hi); (try clear ho0); obtain ⟨Ao39, co39, eo39⟩ := Kd.R_slice HO872.out; subst eo39) | (go_at_call 48; (with_reducible refine (ref08_Same.calls kj7 _ _ t870 _ _ l2 t873 _ ?side1 ?side2 ?side3 ?side4 A30.out).mono ?_); (case side1 => repeat (first | exact (Kd.R_reads' HO872.out).2.2 | (with_reducible refine Kd.C_alloc ?_ _) | (with_reducible refine Kd.C_drewN ?_ _) | (with_reducible refine Kd.C_drew ?_))); (case side2 => exact (Kd.R_reads' HO872.out).2.1); (case side3 => repeat (first | exact (Kd.C_below HR2.out HB.out) | (with_reducible refine Kd.C_alloc ?_ _) | (with_reducible refine Kd.C_drewN ?_ _) | (with_reducible refine Kd.C_drew ?_))); (case side4 => exact HC2.out); rintro e w' ⟨rfl, ⟨nd, rfl⟩⟩; (try first | exact ⟨rfl, _, World.drewN_drewN _ _ _⟩ | exact ⟨rfl, _, Eq.trans (World.drewN_drewN _ _ _) (congrArg (World.drewN _) (Nat.add_assoc _ _ _))⟩)) | (go_at_call 53; (with_reducible refine (pair_Merge.calls _ _ l0 _ _ l1 _ _ l1 t874 _ ?side1 ?side2 ?side3 ?side4 ?side5 ?side6 A31.out).mono ?_); (case side1 => repeat (first | exact (Kd.C_below HR0.out (by repeat (first | (with_reducible first | exact HB.out | apply below_alloc | apply pw_below_drewN | apply below_drew1) | exact HB.out))) | (with_reducible refine Kd.C_alloc ?_ _) | (with_reducible refine Kd.C_drewN ?_ _) | (with_reducible refine Kd.C_drew ?_))); (case side2 => exact HC0.out); (case side3 => repeat (first | exact (Kd.C_below HR1.out (by repeat (first | (with_reducible first | exact HB.out | apply below_alloc | apply pw_below_drewN | apply below_drew1) | exact HB.out))) | (with_reducible refine Kd.C_alloc ?_ _) | (with_reducible refine Kd.C_drewN ?_ _) | (with_reducible refine Kd.C_drew ?_))); (case side4 => exact HC1.out); (case side5 => repeat (first | exact (Kd.C_below HR1.out (by repeat (first | (with_reducible first | exact HB.out | apply below_alloc | apply pw_below_drewN | apply below_drew1) | exact HB.out))) | (with_reducible refine Kd.C_alloc ?_ _) | (with_reducible refine Kd.C_drewN ?_ _) | (with_reducible refine Kd.C_drew ?_))); (case side6 => exact HC1.out); rintro e w40 ⟨v875, rfl, ho0, hb⟩; have n0_ := Aside0.mk (Kd.R_elder' (by (with_reducible repeat (first | apply Kd.R_alloc | apply Kd.R_drewN | apply Kd.R_drew)); exact HO865.out) (Kd.R_base ho0) hb); have n1_ := Aside0.mk (Kd.R_elder' (by (with_reducible repeat (first | apply Kd.R_alloc | apply Kd.R_drewN | apply Kd.R_drew)); exact HO868.out) (Kd.R_base ho0) hb); have n2_ := Aside0.mk (Kd.R_elder' (by (with_reducible repeat (first | apply Kd.R_alloc | apply Kd.R_drewN | apply Kd.R_drew)); exact HO872.out) (Kd.R_base ho0) hb); have n3_ := Aside0.mk (Kd.R_lower (Kd.R_new' (Kd.R_new' (Kd.R_new' ho0 (Kd.R_lt (by (with_reducible repeat (first | apply Kd.R_alloc | apply Kd.R_drewN | apply Kd.R_drew)); exact HO865.out))) (Kd.R_lt (by (with_reducible repeat (first | apply Kd.R_alloc | apply Kd.R_drewN | apply Kd.R_drew)); exact HO868.out))) (Kd.R_lt (by (with_reducible repeat (first | apply Kd.R_alloc | apply Kd.R_drewN | apply Kd.R_drew)); exact HO872.out))) (below_size (by repeat (first | (with_reducible first | exact HB.out | apply below_alloc | apply pw_below_drewN | apply below_drew1) | exact HB.out)))); have n4_ := Aside0.mk (below_step (by repeat (first | (with_reducible first | exact HB.out | apply below_alloc | apply pw_below_drewN | apply below_drew1) | exact HB.out)) hb); clear HO865; clear HO868; clear HO872; clear HB; have HO865 := n0_; have HO868 := n1_; have HO872 := n2_; have HO876 := n3_; have HB := n4_; clear n0_ n1_ n2_ n3_ n4_; (try clear hb); (try clear hb2); (try clear hk); (try clear hi); (try clear ho0); obtain ⟨Ao41, co41, eo41⟩ := Kd.R_slice HO876.out; subst eo41) | (go_at_call 48; (with_reducible refine (ref08_Same.calls kj7 _ _ t874 _ _ l1 t877 _ ?side1 ?side2 ?side3 ?side4 A32.out).mono ?_); (case side1 => repeat (first | exact (Kd.R_reads' HO876.out).2.2 | (with_reducible refine Kd.C_alloc ?_ _) | (with_reducible refine Kd.C_drewN ?_ _) | (with_reducible refine Kd.C_drew ?_))); (case side2 => exact (Kd.R_reads' HO876.out).2.1); (case side3 => repeat (first | exact (Kd.C_below HR1.out HB.out) | (with_reducible refine Kd.C_alloc ?_ _) | (with_reducible refine Kd.C_drewN ?_ _) | (with_reducible refine Kd.C_drew ?_))); (case side4 => exact HC1.out); rintro e w' ⟨rfl, ⟨nd, rfl⟩⟩; (try first | exact ⟨rfl, _, World.drewN_drewN _ _ _⟩ | exact ⟨rfl, _, Eq.trans (World.drewN_drewN _ _ _) (congrArg (World.drewN _) (Nat.add_assoc _ _ _))⟩))); go_upto_region 11 with (first | (go_at_call 53; (with_reducible refine (pair_Merge.calls _ _ l0 _ _ l1 _ _ l2 t863 _ ?side1 ?side2 ?side3 ?side4 ?side5 ?side6 A26.out).mono ?_); (case side1 => repeat (first | exact (Kd.C_below HR0.out HB.out) | (with_reducible refine Kd.C_alloc ?_ _) | (with_reducible refine Kd.C_drewN ?_ _) | (with_reducible refine Kd.C_drew ?_))); (case side2 => exact HC0.out); (case side3 => repeat (first | exact (Kd.C_below HR1.out HB.out) | (with_reducible refine Kd.C_alloc ?_ _) | (with_reducible refine Kd.C_drewN ?_ _) | (with_reducible refine Kd.C_drew ?_))); (case side4 => exact HC1.out); (case side5 => repeat (first | exact (Kd.C_below HR2.out HB.out) | (with_reducible refine Kd.C_alloc ?_ _) | (with_reducible refine Kd.C_drewN ?_ _) | (with_reducible refine Kd.C_drew ?_))); (case side6 => exact HC2.out); rintro e w34 ⟨v864, rfl, ho0, hb⟩; have n0_ := Aside0.mk (Kd.R_lower ho0 (below_size (by repeat (first | (with_reducible first | exact HB.out | apply below_alloc | apply pw_below_drewN | apply below_drew1) | exact HB.out)))); have n1_ := Aside0.mk (below_step (by repeat (first | (with_reducible first | exact HB.out | apply below_alloc | apply pw_below_drewN | apply below_drew1) | exact HB.out)) hb); clear HB; have HO865 := n0_; have HB := n1_; clear n0_ n1_; (try clear hb); (try clear hb2); (try clear hk); (try clear hi); (try clear ho0)) | (go_at_call 53; (with_reducible refine (pair_Merge.calls _ _ l0 _ _ l2 _ _ l1 t866 _ ?side1 ?side2 ?side3 ?side4 ?side5 ?side6 A27.out).mono ?_); (case side1 => repeat (first | exact (Kd.C_below HR0.out HB.out) | (with_reducible refine Kd.C_alloc ?_ _) | (with_reducible refine Kd.C_drewN ?_ _) | (with_reducible refine Kd.C_drew ?_))); (case side2 => exact HC0.out); (case side3 => repeat (first | exact (Kd.C_below HR2.out HB.out) | (with_reducible refine Kd.C_alloc ?_ _) | (with_reducible refine Kd.C_drewN ?_ _) | (with_reducible refine Kd.C_drew ?_))); (case side4 => exact HC2.out); (case side5 => repeat (first | exact (Kd.C_below HR1.out HB.out) | (with_reducible refine Kd.C_alloc ?_ _) | (with_reducible refine Kd.C_drewN ?_ _) | (with_reducible refine Kd.C_drew ?_))); (case side6 => exact HC1.out); rintro e w35 ⟨v867, rfl, ho0, hb⟩; have n0_ := Aside0.mk (Kd.R_elder' (by (with_reducible repeat (first | apply Kd.R_alloc | apply Kd.R_drewN | apply Kd.R_drew)); exact HO865.out) (Kd.R_base ho0) hb); have n1_ := Aside0.mk (Kd.R_lower (Kd.R_new' ho0 (Kd.R_lt (by (with_reducible repeat (first | apply Kd.R_alloc | apply Kd.R_drewN | apply Kd.R_drew)); exact HO865.out))) (below_size (by repeat (first | (with_reducible first | exact HB.out | apply below_alloc | apply pw_below_drewN | apply below_drew1) | exact HB.out)))); have n2_ := Aside0.mk (below_step (by repeat (first | (with_reducible first | exact HB.out | apply below_alloc | apply pw_below_drewN | apply below_drew1) | exact HB.out)) hb); clear HO865; clear HB; have HO865 := n0_; have HO868 := n1_; have HB := n2_; clear n0_ n1_ n2_; (try clear hb); (try clear hb2); (try clear hk); (try clear hi); (try clear ho0); obtain ⟨Ao36, co36, eo36⟩ := Kd.R_slice HO865.out; subst eo36; obtain ⟨Ao37, co37, eo37⟩ := Kd.R_slice HO868.out; subst eo37) | (go_at_call 48; (with_reducible refine (ref08_Same.calls kj7 _ _ t863 _ _ t866 t869 _ ?side1 ?side2 ?side3 ?side4 A28.out).mono ?_); (case side1 => repeat (first | exact (Kd.R_reads' HO865.out).2.2 | (with_reducible refine Kd.C_alloc ?_ _) | (with_reducible refine Kd.C_drewN ?_ _) | (with_reducible refine Kd.C_drew ?_))); (case side2 => exact (Kd.R_reads' HO865.out).2.1); (case side3 => repeat (first | exact (Kd.R_reads' HO868.out).2.2 | (with_reducible refine Kd.C_alloc ?_ _) | (with_reducible refine Kd.C_drewN ?_ _) | (with_reducible refine Kd.C_drew ?_))); (case side4 => exact (Kd.R_reads' HO868.out).2.1); rintro e w' ⟨rfl, ⟨nd, rfl⟩⟩; (try first | exact ⟨rfl, _, World.drewN_drewN _ _ _⟩ | exact ⟨rfl, _, Eq.trans (World.drewN_drewN _ _ _) (congrArg (World.drewN _) (Nat.add_assoc _ _ _))⟩)) | (go_at_call 53; (with_reducible refine (pair_Merge.calls _ _ l0 _ _ l0 _ _ l2 t870 _ ?side1 ?side2 ?side3 ?side4 ?side5 ?side6 A29.out).mono ?_); (case side1 => repeat (first | exact (Kd.C_below HR0.out (by repeat (first | (with_reducible first | exact HB.out | apply below_alloc | apply pw_below_drewN | apply below_drew1) | exact HB.out))) | (with_reducible refine Kd.C_alloc ?_ _) | (with_reducible refine Kd.C_drewN ?_ _) | (with_reducible refine Kd.C_drew ?_))); (case side2 => exact HC0.out); (case side3 => repeat (first | exact (Kd.C_below HR0.out (by repeat (first | (with_reducible first | exact HB.out | apply below_alloc | apply pw_below_drewN | apply below_drew1) | exact HB.out))) | (with_reducible refine Kd.C_alloc ?_ _) | (with_reducible refine Kd.C_drewN ?_ _) | (with_reducible refine Kd.C_drew ?_))); (case side4 => exact HC0.out); (case side5 => repeat (first | exact (Kd.C_below HR2.out (by repeat (first | (with_reducible first | exact HB.out | apply below_alloc | apply pw_below_drewN | apply below_drew1) | exact HB.out))) | (with_reducible refine Kd.C_alloc ?_ _) | (with_reducible refine Kd.C_drewN ?_ _) | (with_reducible refine Kd.C_drew ?_))); (case side6 => exact HC2.out); rintro e w38 ⟨v871, rfl, ho0, hb⟩; have n0_ := Aside0.mk (Kd.R_elder' (by (with_reducible repeat (first | apply Kd.R_alloc | apply Kd.R_drewN | apply Kd.R_drew)); exact HO865.out) (Kd.R_base ho0) hb); have n1_ := Aside0.mk (Kd.R_elder' (by (with_reducible repeat (first | apply Kd.R_alloc | apply Kd.R_drewN | apply Kd.R_drew)); exact HO868.out) (Kd.R_base ho0) hb); have n2_ := Aside0.mk (Kd.R_lower (Kd.R_new' (Kd.R_new' ho0 (Kd.R_lt (by (with_reducible repeat (first | apply Kd.R_alloc | apply Kd.R_drewN | apply Kd.R_drew)); exact HO865.out))) (Kd.R_lt (by (with_reducible repeat (first | apply Kd.R_alloc | apply Kd.R_drewN | apply Kd.R_drew)); exact HO868.out))) (below_size (by repeat (first | (with_reducible first | exact HB.out | apply below_alloc | apply pw_below_drewN | apply below_drew1) | exact HB.out)))); have n3_ := Aside0.mk (below_step (by repeat (first | (with_reducible first | exact HB.out | apply below_alloc | apply pw_below_drewN | apply below_drew1) | exact HB.out)) hb); clear HO865; clear HO868; clear HB; have HO865 := n0_; have HO868 := n1_; have HO872 := n2_; have HB := n3_; clear n0_ n1_ n2_ n3_; (try clear hb); (try clear hb2); (try clear hk); (try clear hi); (try clear ho0); obtain ⟨Ao39, co39, eo39⟩ := Kd.R_slice HO872.out; subst eo39) | (go_at_call 48; (with_reducible refine (ref08_Same.calls kj7 _ _ t870 _ _ l2 t873 _ ?side1 ?side2 ?side3 ?side4 A30.out).mono ?_); (case side1 => repeat (first | exact (Kd.R_reads' HO872.out).2.2 | (with_reducible refine Kd.C_alloc ?_ _) | (with_reducible refine Kd.C_drewN ?_ _) | (with_reducible refine Kd.C_drew ?_))); (case side2 => exact (Kd.R_reads' HO872.out).2.1); (case side3 => repeat (first | exact (Kd.C_below HR2.out HB.out) | (with_reducible refine Kd.C_alloc ?_ _) | (with_reducible refine Kd.C_drewN ?_ _) | (with_reducible refine Kd.C_drew ?_))); (case side4 => exact HC2.out); rintro e w' ⟨rfl, ⟨nd, rfl⟩⟩; (try first | exact ⟨rfl, _, World.drewN_drewN _ _ _⟩ | exact ⟨rfl, _, Eq.trans (World.drewN_drewN _ _ _) (congrArg (World.drewN _) (Nat.add_assoc _ _ _))⟩)) | (go_at_call 53; (with_reducible refine (pair_Merge.calls _ _ l0 _ _ l1 _ _ l1 t874 _ ?side1 ?side2 ?side3 ?side4 ?side5 ?side6 A31.out).mono ?_); (case side1 => repeat (first | exact (Kd.C_below HR0.out (by repeat (first | (with_reducible first | exact HB.out | apply below_alloc | apply pw_below_drewN | apply below_drew1) | exact HB.out))) | (with_reducible refine Kd.C_alloc ?_ _) | (with_reducible refine Kd.C_drewN ?_ _) | (with_reducible refine Kd.C_drew ?_))); (case side2 => exact HC0.out); (case side3 => repeat (first | exact (Kd.C_below HR1.out (by repeat (first | (with_reducible first | exact HB.out | apply below_alloc | apply pw_below_drewN | apply below_drew1) | exact HB.out))) | (with_reducible refine Kd.C_alloc ?_ _) | (with_reducible refine Kd.C_drewN ?_ _) | (with_reducible refine Kd.C_drew ?_))); (case side4 => exact HC1.out); (case side5 => repeat (first | exact (Kd.C_below HR1.out (by repeat (first | (with_reducible first | exact HB.out | apply below_alloc | apply pw_below_drewN | apply below_drew1) | exact HB.out))) | (with_reducible refine Kd.C_alloc ?_ _) | (with_reducible refine Kd.C_drewN ?_ _) | (with_reducible refine Kd.C_drew ?_))); (case side6 => exact HC1.out); rintro e w40 ⟨v875, rfl, ho0, hb⟩; have n0_ := Aside0.mk (Kd.R_elder' (by (with_reducible repeat (first | apply Kd.R_alloc | apply Kd.R_drewN | apply Kd.R_drew)); exact HO865.out) (Kd.R_base ho0) hb); have n1_ := Aside0.mk (Kd.R_elder' (by (with_reducible repeat (first | apply Kd.R_alloc | apply Kd.R_drewN | apply Kd.R_drew)); exact HO868.out) (Kd.R_base ho0) hb); have n2_ := Aside0.mk (Kd.R_elder' (by (with_reducible repeat (first | apply Kd.R_alloc | apply Kd.R_drewN | apply Kd.R_drew)); exact HO872.out) (Kd.R_base ho0) hb); have n3_ := Aside0.mk (Kd.R_lower (Kd.R_new' (Kd.R_new' (Kd.R_new' ho0 (Kd.R_lt (by (with_reducible repeat (first | apply Kd.R_alloc | apply Kd.R_drewN | apply Kd.R_drew)); exact HO865.out))) (Kd.R_lt (by (with_reducible repeat (first | apply Kd.R_alloc | apply Kd.R_drewN | apply Kd.R_drew)); exact HO868.out))) (Kd.R_lt (by (with_reducible repeat (first | apply Kd.R_alloc | apply Kd.R_drewN | apply Kd.R_drew)); exact HO872.out))) (below_size (by repeat (first | (with_reducible first | exact HB.out | apply below_alloc | apply pw_below_drewN | apply below_drew1) | exact HB.out)))); have n4_ := Aside0.mk (below_step (by repeat (first | (with_reducible first | exact HB.out | apply below_alloc | apply pw_below_drewN | apply below_drew1) | exact HB.out)) hb); clear HO865; clear HO868; clear HO872; clear HB; have HO865 := n0_; have HO868 := n1_; have HO872 := n2_; have HO876 := n3_; have HB := n4_; clear n0_ n1_ n2_ n3_ n4_; (try clear hb); (try clear hb2); (try clear hk); (try clear hi); (try clear ho0); obtain ⟨Ao41, co41, eo41⟩ := Kd.R_slice HO876.out; subst eo41) | (go_at_call 48; (with_reducible refine (ref08_Same.calls kj7 _ _ t874 _ _ l1 t877 _ ?side1 ?side2 ?side3 ?side4 A32.out).mono ?_); (case side1 => repeat (first | exact (Kd.R_reads' HO876.out).2.2 | (with_reducible refine Kd.C_alloc ?_ _) | (with_reducible refine Kd.C_drewN ?_ _) | (with_reducible refine Kd.C_drew ?_))); (case side2 => exact (Kd.R_reads' HO876.out).2.1); (case side3 => repeat (first | exact (Kd.C_below HR1.out HB.out) | (with_reducible refine Kd.C_alloc ?_ _) | (with_reducible refine Kd.C_drewN ?_ _) | (with_reducible refine Kd.C_drew ?_))); (case side4 => exact HC1.out); rintro e w' ⟨rfl, ⟨nd, rfl⟩⟩; (try first | exact ⟨rfl, _, World.drewN_drewN _ _ _⟩ | exact ⟨rfl, _, Eq.trans (World.drewN_drewN _ _ _) (congrArg (World.drewN _) (Nat.add_assoc _ _ _))⟩))))
    (try simp only [Act.put, List.setIfInBounds_toArray, List.set_cons_zero, List.set_cons_succ])
    go_cut [92] (fun v92 wc => ∃ (kq : Nat) (x92_32 : Bool), v92 = .bool x92_32 ∧ Aside0 (law08_PairMerges.j1 kq l1 l2 t863 x92_32 = some r) ∧ Aside0 (kq ≤ kj7) ∧ Aside0 (Kd.R k57 57 wc w.heap.size (fun _ => True) (.slice Ao36 t863.length co36) t863) ∧ Aside0 (Below w.heap.size w wc))
    case first =>
     have H := HC33.out
     clear HC33
     by_cases c42 : t869 = true
     ·subst c42
      have H1 : (if t873 = true then (if t877 = true then ((pair_May.f kj7 t863).bind fun t878 => (law08_PairMerges.j1 kj7 l1 l2 t863 (!t878))) else (law08_PairMerges.j1 kj7 l1 l2 t863 true)) else (law08_PairMerges.j1 kj7 l1 l2 t863 true)) = some r := by rw [if_pos rfl] at H; exact H
      clear H
      have H := H1
      clear H1
      by_cases c43 : t873 = true
      ·subst c43
       have H1 : (if t877 = true then ((pair_May.f kj7 t863).bind fun t878 => (law08_PairMerges.j1 kj7 l1 l2 t863 (!t878))) else (law08_PairMerges.j1 kj7 l1 l2 t863 true)) = some r := by rw [if_pos rfl] at H; exact H
       clear H
       have H := H1
       clear H1
       by_cases c44 : t877 = true
       ·subst c44
        have H1 : ((pair_May.f kj7 t863).bind fun t878 => (law08_PairMerges.j1 kj7 l1 l2 t863 (!t878))) = some r := by rw [if_pos rfl] at H; exact H
        clear H
        have H := H1
        clear H1
        replace H := Option.bind_eq_some_iff.mp H
        obtain ⟨t878, A450, H⟩ := H
        replace H : (law08_PairMerges.j1 kj7 l1 l2 t863 (!t878)) = some r := H
        have A45 := Aside0.mk A450
        clear A450
        have H' := Aside0.mk H
        clear H
        go_wp2_with (first | (go_at_call 60; (with_reducible refine (pair_May.calls kj7 _ _ t863 t878 _ ?side1 ?side2 A45.out).mono ?_); (case side1 => repeat (first | exact (Kd.R_reads' HO865.out).2.2 | (with_reducible refine Kd.C_alloc ?_ _) | (with_reducible refine Kd.C_drewN ?_ _) | (with_reducible refine Kd.C_drew ?_))); (case side2 => exact (Kd.R_reads' HO865.out).2.1); rintro e w46 ⟨rfl, hb⟩; have n0_ := Aside0.mk (Kd.R_below (by (with_reducible repeat (first | apply Kd.R_alloc | apply Kd.R_drewN | apply Kd.R_drew)); exact HO865.out) hb); have n1_ := Aside0.mk (Kd.R_below (by (with_reducible repeat (first | apply Kd.R_alloc | apply Kd.R_drewN | apply Kd.R_drew)); exact HO868.out) hb); have n2_ := Aside0.mk (Kd.R_below (by (with_reducible repeat (first | apply Kd.R_alloc | apply Kd.R_drewN | apply Kd.R_drew)); exact HO872.out) hb); have n3_ := Aside0.mk (Kd.R_below (by (with_reducible repeat (first | apply Kd.R_alloc | apply Kd.R_drewN | apply Kd.R_drew)); exact HO876.out) hb); have n4_ := Aside0.mk (below_step (by repeat (first | (with_reducible first | exact HB.out | apply below_alloc | apply pw_below_drewN | apply below_drew1) | exact HB.out)) hb); clear HO865; clear HO868; clear HO872; clear HO876; clear HB; have HO865 := n0_; have HO868 := n1_; have HO872 := n2_; have HO876 := n3_; have HB := n4_; clear n0_ n1_ n2_ n3_ n4_; (try clear hb); (try clear hb2); (try clear hk); (try clear hi)))
        repeat (go_quiet (first | (go_at_call 60; (with_reducible refine (pair_May.calls kj7 _ _ t863 t878 _ ?side1 ?side2 A45.out).mono ?_); (case side1 => repeat (first | exact (Kd.R_reads' HO865.out).2.2 | (with_reducible refine Kd.C_alloc ?_ _) | (with_reducible refine Kd.C_drewN ?_ _) | (with_reducible refine Kd.C_drew ?_))); (case side2 => exact (Kd.R_reads' HO865.out).2.1); rintro e w46 ⟨rfl, hb⟩; have n0_ := Aside0.mk (Kd.R_below (by (with_reducible repeat (first | apply Kd.R_alloc | apply Kd.R_drewN | apply Kd.R_drew)); exact HO865.out) hb); have n1_ := Aside0.mk (Kd.R_below (by (with_reducible repeat (first | apply Kd.R_alloc | apply Kd.R_drewN | apply Kd.R_drew)); exact HO868.out) hb); have n2_ := Aside0.mk (Kd.R_below (by (with_reducible repeat (first | apply Kd.R_alloc | apply Kd.R_drewN | apply Kd.R_drew)); exact HO872.out) hb); have n3_ := Aside0.mk (Kd.R_below (by (with_reducible repeat (first | apply Kd.R_alloc | apply Kd.R_drewN | apply Kd.R_drew)); exact HO876.out) hb); have n4_ := Aside0.mk (below_step (by repeat (first | (with_reducible first | exact HB.out | apply below_alloc | apply pw_below_drewN | apply below_drew1) | exact HB.out)) hb); clear HO865; clear HO868; clear HO872; clear HO876; clear HB; have HO865 := n0_; have HO868 := n1_; have HO872 := n2_; have HO876 := n3_; have HB := n4_; clear n0_ n1_ n2_ n3_ n4_; (try clear hb); (try clear hb2); (try clear hk); (try clear hi))); try go_wp2_with (first | (go_at_call 60; (with_reducible refine (pair_May.calls kj7 _ _ t863 t878 _ ?side1 ?side2 A45.out).mono ?_); (case side1 => repeat (first | exact (Kd.R_reads' HO865.out).2.2 | (with_reducible refine Kd.C_alloc ?_ _) | (with_reducible refine Kd.C_drewN ?_ _) | (with_reducible refine Kd.C_drew ?_))); (case side2 => exact (Kd.R_reads' HO865.out).2.1); rintro e w46 ⟨rfl, hb⟩; have n0_ := Aside0.mk (Kd.R_below (by (with_reducible repeat (first | apply Kd.R_alloc | apply Kd.R_drewN | apply Kd.R_drew)); exact HO865.out) hb); have n1_ := Aside0.mk (Kd.R_below (by (with_reducible repeat (first | apply Kd.R_alloc | apply Kd.R_drewN | apply Kd.R_drew)); exact HO868.out) hb); have n2_ := Aside0.mk (Kd.R_below (by (with_reducible repeat (first | apply Kd.R_alloc | apply Kd.R_drewN | apply Kd.R_drew)); exact HO872.out) hb); have n3_ := Aside0.mk (Kd.R_below (by (with_reducible repeat (first | apply Kd.R_alloc | apply Kd.R_drewN | apply Kd.R_drew)); exact HO876.out) hb); have n4_ := Aside0.mk (below_step (by repeat (first | (with_reducible first | exact HB.out | apply below_alloc | apply pw_below_drewN | apply below_drew1) | exact HB.out)) hb); clear HO865; clear HO868; clear HO872; clear HO876; clear HB; have HO865 := n0_; have HO868 := n1_; have HO872 := n2_; have HO876 := n3_; have HB := n4_; clear n0_ n1_ n2_ n3_ n4_; (try clear hb); (try clear hb2); (try clear hk); (try clear hi))))
        go_meet
        case rel => exact ⟨_, (!t878), (by first | rfl | (simp; done) | (simp [*]; done)), H', ⟨by have := HJ7.out; first | omega | exact Nat.le_refl _⟩, ⟨by (with_reducible repeat (first | apply Kd.R_alloc | apply Kd.R_drewN | apply Kd.R_drew)); exact Kd.R_mono HO865.out (fun _ hk => trivial)⟩, ⟨by repeat (first | (with_reducible first | exact HB.out | apply below_alloc | apply pw_below_drewN | apply below_drew1) | exact HB.out)⟩⟩
       ·replace c44 := Bool.eq_false_iff.mpr c44
        subst c44
        have H1 : (law08_PairMerges.j1 kj7 l1 l2 t863 true) = some r := by rw [if_neg (show ¬ (false = true) by decide)] at H; exact H
        clear H
        have H := H1
        clear H1
        have H' := Aside0.mk H
        clear H
        go_wp2
        repeat (go_quiet (fail); try go_wp2)
        go_meet
        case rel => exact ⟨_, (true), (by first | rfl | (simp; done) | (simp [*]; done)), H', ⟨by have := HJ7.out; first | omega | exact Nat.le_refl _⟩, ⟨by (with_reducible repeat (first | apply Kd.R_alloc | apply Kd.R_drewN | apply Kd.R_drew)); exact Kd.R_mono HO865.out (fun _ hk => trivial)⟩, ⟨by repeat (first | (with_reducible first | exact HB.out | apply below_alloc | apply pw_below_drewN | apply below_drew1) | exact HB.out)⟩⟩
      ·replace c43 := Bool.eq_false_iff.mpr c43
       subst c43
       have H1 : (law08_PairMerges.j1 kj7 l1 l2 t863 true) = some r := by rw [if_neg (show ¬ (false = true) by decide)] at H; exact H
       clear H
       have H := H1
       clear H1
       have H' := Aside0.mk H
       clear H
       go_wp2
       repeat (go_quiet (fail); try go_wp2)
       go_meet
       case rel => exact ⟨_, (true), (by first | rfl | (simp; done) | (simp [*]; done)), H', ⟨by have := HJ7.out; first | omega | exact Nat.le_refl _⟩, ⟨by (with_reducible repeat (first | apply Kd.R_alloc | apply Kd.R_drewN | apply Kd.R_drew)); exact Kd.R_mono HO865.out (fun _ hk => trivial)⟩, ⟨by repeat (first | (with_reducible first | exact HB.out | apply below_alloc | apply pw_below_drewN | apply below_drew1) | exact HB.out)⟩⟩
     ·replace c42 := Bool.eq_false_iff.mpr c42
      subst c42
      have H1 : (law08_PairMerges.j1 kj7 l1 l2 t863 true) = some r := by rw [if_neg (show ¬ (false = true) by decide)] at H; exact H
      clear H
      have H := H1
      clear H1
      have H' := Aside0.mk H
      clear H
      go_wp2
      repeat (go_quiet (fail); try go_wp2)
      go_meet
      case rel => exact ⟨_, (true), (by first | rfl | (simp; done) | (simp [*]; done)), H', ⟨by have := HJ7.out; first | omega | exact Nat.le_refl _⟩, ⟨by (with_reducible repeat (first | apply Kd.R_alloc | apply Kd.R_drewN | apply Kd.R_drew)); exact Kd.R_mono HO865.out (fun _ hk => trivial)⟩, ⟨by repeat (first | (with_reducible first | exact HB.out | apply below_alloc | apply pw_below_drewN | apply below_drew1) | exact HB.out)⟩⟩
    case rest =>
     clear HC33
     try clear c1
     try clear c2
     try clear p2
     try clear c4
     try clear c10
     try clear c11
     try clear c12
     try clear c13
     try clear c15
     try clear c16
     try clear c17
     try clear c25
     try clear c42
     try clear c43
     try clear c44
     try clear p2
     obtain ⟨kq, x92_32, rfl, HA, HJ32, HO_11, HB⟩ := hcut
     cases kq with
     | zero => exact absurd HA.out (by simp [law08_PairMerges.j1])
     | succ kj32 =>
      have H := HA.out
      clear HA
      simp only [law08_PairMerges.j1] at H
      by_cases c47 : x92_32 = true
      ·subst c47
       have H1 : (some false) = some r := by rw [if_pos rfl] at H; exact H
       clear H
       have H := H1
       clear H1
       obtain rfl := Option.some.inj H
       go_wp2
       repeat (go_quiet (fail); try go_wp2)
       go_ret
       exact ⟨by first | rfl | (simp [errW_none, errW_some] <;> rfl) | (simp [*, errW_none, errW_some] <;> rfl), by repeat (first | (with_reducible first | exact HB.out | apply below_alloc | apply pw_below_drewN | apply below_drew1) | exact HB.out)⟩
      ·replace c47 := Bool.eq_false_iff.mpr c47
       subst c47
       have H1 : (law08_PairMerges.l0 kj32 l1 l2 t863 0) = some r := by rw [if_neg (show ¬ (false = true) by decide)] at H; exact H
       clear H
       have H := H1
       clear H1
       have H' := Aside0.mk H
       clear H
       go_wp2
       repeat (go_quiet (fail); try go_wp2)
       go_loopg [15] kj32 (fun kq v15 w' => ∃ (x15_3 : Int), v15 = .int .i64 x15_3 ∧ Aside0 (law08_PairMerges.l0 kq l1 l2 t863 x15_3 = some r) ∧ Aside0 (kq ≤ kj32) ∧ Aside0 (Kd.R k57 57 w' w.heap.size (fun _ => True) (.slice Ao36 t863.length co36) t863) ∧ Aside0 (Below w.heap.size w w'))
       case atStart => exact ⟨(0), (by first | rfl | (simp; done) | (simp [*]; done)), H', ⟨Nat.le_refl _⟩, ⟨by (with_reducible repeat (first | apply Kd.R_alloc | apply Kd.R_drewN | apply Kd.R_drew)); exact HO_11.out⟩, ⟨by repeat (first | (with_reducible first | exact HB.out | apply below_alloc | apply pw_below_drewN | apply below_drew1) | exact HB.out)⟩⟩
       case round =>
        clear H'
        try clear c1
        try clear c2
        try clear p2
        try clear c4
        try clear c10
        try clear c11
        try clear c12
        try clear c13
        try clear c15
        try clear c16
        try clear c17
        try clear c25
        try clear c42
        try clear c43
        try clear c44
        try clear c47
        try clear p2
        obtain ⟨x15_3, rfl, HA, HK3, HO_11, HB⟩ := hrel
        cases gk with
        | zero => exact absurd HA.out (by simp [law08_PairMerges.l0])
        | succ k3 =>
         have H := HA.out
         clear HA
         simp only [law08_PairMerges.l0] at H
         by_cases c48 : x15_3 < (t863.length : Int)
         ·rw [if_pos c48] at H
          have c48b0 : decide (x15_3 < (t863.length : Int)) = true := decide_eq_true c48
          clear c48
          have H' := Aside0.mk H
          clear H
          go_wp2
          repeat (go_quiet (fail); try go_wp2)
          go_loopg [16, 17] k3 (fun kq v16 v17 w' => ∃ (x16_4 : Bool) (x17_4 : Int), v16 = .bool x16_4 ∧ v17 = .int .i64 x17_4 ∧ Aside0 (law08_PairMerges.l1 kq l1 l2 t863 x15_3 x16_4 x17_4 = some r) ∧ Aside0 (kq ≤ k3) ∧ Aside0 (Kd.R k57 57 w' w.heap.size (fun _ => True) (.slice Ao36 t863.length co36) t863) ∧ Aside0 (Below w.heap.size w w'))
          case atStart => exact ⟨(false), (0), (by first | rfl | (simp; done) | (simp [*]; done)), (by first | rfl | (simp; done) | (simp [*]; done)), H', ⟨Nat.le_refl _⟩, ⟨by (with_reducible repeat (first | apply Kd.R_alloc | apply Kd.R_drewN | apply Kd.R_drew)); exact HO_11.out⟩, ⟨by repeat (first | (with_reducible first | exact HB.out | apply below_alloc | apply pw_below_drewN | apply below_drew1) | exact HB.out)⟩⟩
          case round =>
           clear H'
           try clear c1
           try clear c2
           try clear p2
           try clear c4
           try clear c10
           try clear c11
           try clear c12
           try clear c13
           try clear c15
           try clear c16
           try clear c17
           try clear c25
           try clear c42
           try clear c43
           try clear c44
           try clear c47
           try clear c48
           try clear c48b0
           try clear p2
           obtain ⟨x16_4, x17_4, rfl, rfl, HA, HK4, HO_11, HB⟩ := hrel
           cases gk with
           | zero => exact absurd HA.out (by simp [law08_PairMerges.l1])
           | succ k4 =>
            have H := HA.out
            clear HA
            simp only [law08_PairMerges.l1] at H
            by_cases c49 : x17_4 < (l1.length : Int)
            ·rw [if_pos c49] at H
             have c49b0 : decide (x17_4 < (l1.length : Int)) = true := decide_eq_true c49
             clear c49
             by_cases c50 : x16_4 = true
             ·subst c50
              have H1 : (law08_PairMerges.l1 k4 l1 l2 t863 x15_3 true (wrap64 (x17_4 + 1))) = some r := by rw [if_pos rfl] at H; exact H
              clear H
              have H := H1
              clear H1
              have H' := Aside0.mk H
              clear H
              go_wp2
              repeat (go_quiet (fail); try go_wp2)
              go_roundg k4
              case measure => have := HJ7.out; have := HJ32.out; have := HK3.out; have := HK4.out; omega
              case rel => exact ⟨(true), (wrap64 (x17_4 + 1)), (by first | rfl | (simp; done) | (simp [*]; done)), (by first | rfl | (simp; done) | (simp [*]; done)), H', ⟨by have := HJ7.out; have := HJ32.out; have := HK3.out; have := HK4.out; omega⟩, ⟨by (with_reducible repeat (first | apply Kd.R_alloc | apply Kd.R_drewN | apply Kd.R_drew)); exact HO_11.out⟩, ⟨by repeat (first | (with_reducible first | exact HB.out | apply below_alloc | apply pw_below_drewN | apply below_drew1) | exact HB.out)⟩⟩
             ·replace c50 := Bool.eq_false_iff.mpr c50
              subst c50
              have H1 : (if 0 ≤ x17_4 then (if 0 ≤ x15_3 then (if x15_3 < (t863.length : Int) then (law08_PairMerges.l1 k4 l1 l2 t863 x15_3 ((((rd_T57 l1 x17_4).f0).toList) == (((rd_T57 t863 x15_3).f0).toList) && ((((rd_T57 l1 x17_4).f1).toList) == (((rd_T57 t863 x15_3).f1).toList) && ((((rd_T57 l1 x17_4).f2.f0) == ((rd_T57 t863 x15_3).f2.f0) && (((rd_T57 l1 x17_4).f2.f1) == ((rd_T57 t863 x15_3).f2.f1)))))) (wrap64 (x17_4 + 1))) else (none)) else (none)) else (none)) = some r := by rw [if_neg (show ¬ (false = true) by decide)] at H; exact H
              clear H
              have H := H1
              clear H1
              by_cases c51 : 0 ≤ x17_4
              ·rw [if_pos c51] at H
               have c51b0 : decide (0 ≤ x17_4) = true := decide_eq_true c51
               clear c51
               by_cases c52 : 0 ≤ x15_3
               ·rw [if_pos c52] at H
                have c52b0 : decide (0 ≤ x15_3) = true := decide_eq_true c52
                clear c52
                by_cases c53 : x15_3 < (t863.length : Int)
                ·rw [if_pos c53] at H
                 have c53b0 : decide (x15_3 < (t863.length : Int)) = true := decide_eq_true c53
                 clear c53
                 have H' := Aside0.mk H
                 clear H
                 have p879 : 0 ≤ (x17_4 : Int) := of_decide_eq_true (by first | (with_reducible assumption) | assumption)
                 have q879 : x17_4 < (l1.length : Int) := of_decide_eq_true (by first | (with_reducible assumption) | assumption)
                 obtain ⟨ad879, e879, hx879_0, hx879_1, hx879_2, hx879_3⟩ := at_T57 HR1.out x17_4 p879 q879
                 cases e879
                 replace hx879_0 := (HB.out.cell (World.block_lt_of_cell? w _ hx879_0)).trans hx879_0
                 replace hx879_1 := (HB.out.cell (World.block_lt_of_cell? w _ hx879_1)).trans hx879_1
                 replace hx879_2 := (HB.out.cell (World.block_lt_of_cell? w _ hx879_2)).trans hx879_2
                 replace hx879_3 := (HB.out.cell (World.block_lt_of_cell? w _ hx879_3)).trans hx879_3
                 replace p879 := eq_true p879
                 replace q879 := eq_true q879
                 have p880 : 0 ≤ (x15_3 : Int) := of_decide_eq_true (by first | (with_reducible assumption) | assumption)
                 have q880 : x15_3 < (t863.length : Int) := of_decide_eq_true (by first | (with_reducible assumption) | assumption)
                 obtain ⟨ad880, e880, hx880_0, hx880_1, hx880_2, hx880_3⟩ := at_T57 (Kd.R_reads' HO_11.out).2.2 x15_3 p880 q880
                 cases e880
                 replace p880 := eq_true p880
                 replace q880 := eq_true q880
                 go_wp2
                 repeat (go_quiet (fail); try go_wp2)
                 go_roundg k4
                 case measure => have := HJ7.out; have := HJ32.out; have := HK3.out; have := HK4.out; omega
                 case rel => exact ⟨(((((rd_T57 l1 x17_4).f0).toList) == (((rd_T57 t863 x15_3).f0).toList) && ((((rd_T57 l1 x17_4).f1).toList) == (((rd_T57 t863 x15_3).f1).toList) && ((((rd_T57 l1 x17_4).f2.f0) == ((rd_T57 t863 x15_3).f2.f0) && (((rd_T57 l1 x17_4).f2.f1) == ((rd_T57 t863 x15_3).f2.f1))))))), (wrap64 (x17_4 + 1)), (by first | rfl | (simp; done) | (simp [*]; done)), (by first | rfl | (simp; done) | (simp [*]; done)), H', ⟨by have := HJ7.out; have := HJ32.out; have := HK3.out; have := HK4.out; omega⟩, ⟨by (with_reducible repeat (first | apply Kd.R_alloc | apply Kd.R_drewN | apply Kd.R_drew)); exact HO_11.out⟩, ⟨by repeat (first | (with_reducible first | exact HB.out | apply below_alloc | apply pw_below_drewN | apply below_drew1) | exact HB.out)⟩⟩
                ·rw [if_neg c53] at H
                 exact absurd H (by simp)
               ·rw [if_neg c52] at H
                exact absurd H (by simp)
              ·rw [if_neg c51] at H
               exact absurd H (by simp)
            ·rw [if_neg c49] at H
             have c49b0 : decide (x17_4 < (l1.length : Int)) = false := decide_eq_false c49
             clear c49
             have H' := Aside0.mk H
             clear H
             go_wp2
             repeat (go_quiet (fail); try go_wp2)
             go_loopg [16, 18] k4 (fun kq v16 v18 w' => ∃ (x16_5 : Bool) (x18_5 : Int), v16 = .bool x16_5 ∧ v18 = .int .i64 x18_5 ∧ Aside0 (law08_PairMerges.l2 kq l1 l2 t863 x15_3 x16_5 x18_5 = some r) ∧ Aside0 (kq ≤ k4) ∧ Aside0 (Kd.R k57 57 w' w.heap.size (fun _ => True) (.slice Ao36 t863.length co36) t863) ∧ Aside0 (Below w.heap.size w w'))
             case atStart => exact ⟨(x16_4), (0), (by first | rfl | (simp; done) | (simp [*]; done)), (by first | rfl | (simp; done) | (simp [*]; done)), H', ⟨Nat.le_refl _⟩, ⟨by (with_reducible repeat (first | apply Kd.R_alloc | apply Kd.R_drewN | apply Kd.R_drew)); exact HO_11.out⟩, ⟨by repeat (first | (with_reducible first | exact HB.out | apply below_alloc | apply pw_below_drewN | apply below_drew1) | exact HB.out)⟩⟩
             case round =>
              clear H'
              try clear c1
              try clear c2
              try clear p2
              try clear c4
              try clear c5
              try clear p6
              try clear p8
              try clear q8
              try clear hx8
              try clear c10
              try clear c11
              try clear c12
              try clear c13
              try clear c15
              try clear c16
              try clear c17
              try clear c25
              try clear c42
              try clear c43
              try clear c44
              try clear c47
              try clear c48
              try clear c48b0
              try clear c49
              try clear c49b0
              try clear c50
              try clear c51
              try clear c51b0
              try clear c52
              try clear c52b0
              try clear c53
              try clear c53b0
              try clear hx879_0
              try clear hx879_1
              try clear hx879_2
              try clear hx879_3
              try clear hx880_0
              try clear hx880_1
              try clear hx880_2
              try clear hx880_3
              try clear p2
              try clear p879
              try clear p880
              try clear q879
              try clear q880
              obtain ⟨x16_5, x18_5, rfl, rfl, HA, HK5, HO_11, HB⟩ := hrel
              cases gk with
              | zero => exact absurd HA.out (by simp [law08_PairMerges.l2])
              | succ k5 =>
               have H := HA.out
               clear HA
               simp only [law08_PairMerges.l2] at H
               by_cases c54 : x18_5 < (l2.length : Int)
               ·rw [if_pos c54] at H
                have c54b0 : decide (x18_5 < (l2.length : Int)) = true := decide_eq_true c54
                clear c54
                by_cases c55 : x16_5 = true
                ·subst c55
                 have H1 : (law08_PairMerges.l2 k5 l1 l2 t863 x15_3 true (wrap64 (x18_5 + 1))) = some r := by rw [if_pos rfl] at H; exact H
                 clear H
                 have H := H1
                 clear H1
                 have H' := Aside0.mk H
                 clear H
                 go_wp2
                 repeat (go_quiet (fail); try go_wp2)
                 go_roundg k5
                 case measure => have := HJ7.out; have := HJ32.out; have := HK3.out; have := HK4.out; have := HK5.out; omega
                 case rel => exact ⟨(true), (wrap64 (x18_5 + 1)), (by first | rfl | (simp; done) | (simp [*]; done)), (by first | rfl | (simp; done) | (simp [*]; done)), H', ⟨by have := HJ7.out; have := HJ32.out; have := HK3.out; have := HK4.out; have := HK5.out; omega⟩, ⟨by (with_reducible repeat (first | apply Kd.R_alloc | apply Kd.R_drewN | apply Kd.R_drew)); exact HO_11.out⟩, ⟨by repeat (first | (with_reducible first | exact HB.out | apply below_alloc | apply pw_below_drewN | apply below_drew1) | exact HB.out)⟩⟩
                ·replace c55 := Bool.eq_false_iff.mpr c55
                 subst c55
                 have H1 : (if 0 ≤ x18_5 then (if 0 ≤ x15_3 then (if x15_3 < (t863.length : Int) then (law08_PairMerges.l2 k5 l1 l2 t863 x15_3 ((((rd_T57 l2 x18_5).f0).toList) == (((rd_T57 t863 x15_3).f0).toList) && ((((rd_T57 l2 x18_5).f1).toList) == (((rd_T57 t863 x15_3).f1).toList) && ((((rd_T57 l2 x18_5).f2.f0) == ((rd_T57 t863 x15_3).f2.f0) && (((rd_T57 l2 x18_5).f2.f1) == ((rd_T57 t863 x15_3).f2.f1)))))) (wrap64 (x18_5 + 1))) else (none)) else (none)) else (none)) = some r := by rw [if_neg (show ¬ (false = true) by decide)] at H; exact H
                 clear H
                 have H := H1
                 clear H1
                 by_cases c56 : 0 ≤ x18_5
                 ·rw [if_pos c56] at H
                  have c56b0 : decide (0 ≤ x18_5) = true := decide_eq_true c56
                  clear c56
                  by_cases c57 : 0 ≤ x15_3
                  ·rw [if_pos c57] at H
                   have c57b0 : decide (0 ≤ x15_3) = true := decide_eq_true c57
                   clear c57
                   by_cases c58 : x15_3 < (t863.length : Int)
                   ·rw [if_pos c58] at H
                    have c58b0 : decide (x15_3 < (t863.length : Int)) = true := decide_eq_true c58
                    clear c58
                    have H' := Aside0.mk H
                    clear H
                    have p881 : 0 ≤ (x18_5 : Int) := of_decide_eq_true (by first | (with_reducible assumption) | assumption)
                    have q881 : x18_5 < (l2.length : Int) := of_decide_eq_true (by first | (with_reducible assumption) | assumption)
                    obtain ⟨ad881, e881, hx881_0, hx881_1, hx881_2, hx881_3⟩ := at_T57 HR2.out x18_5 p881 q881
                    cases e881
                    replace hx881_0 := (HB.out.cell (World.block_lt_of_cell? w _ hx881_0)).trans hx881_0
                    replace hx881_1 := (HB.out.cell (World.block_lt_of_cell? w _ hx881_1)).trans hx881_1
                    replace hx881_2 := (HB.out.cell (World.block_lt_of_cell? w _ hx881_2)).trans hx881_2
                    replace hx881_3 := (HB.out.cell (World.block_lt_of_cell? w _ hx881_3)).trans hx881_3
                    replace p881 := eq_true p881
                    replace q881 := eq_true q881
                    have p882 : 0 ≤ (x15_3 : Int) := of_decide_eq_true (by first | (with_reducible assumption) | assumption)
                    have q882 : x15_3 < (t863.length : Int) := of_decide_eq_true (by first | (with_reducible assumption) | assumption)
                    obtain ⟨ad882, e882, hx882_0, hx882_1, hx882_2, hx882_3⟩ := at_T57 (Kd.R_reads' HO_11.out).2.2 x15_3 p882 q882
                    cases e882
                    replace p882 := eq_true p882
                    replace q882 := eq_true q882
                    go_wp2
                    repeat (go_quiet (fail); try go_wp2)
                    go_roundg k5
                    case measure => have := HJ7.out; have := HJ32.out; have := HK3.out; have := HK4.out; have := HK5.out; omega
                    case rel => exact ⟨(((((rd_T57 l2 x18_5).f0).toList) == (((rd_T57 t863 x15_3).f0).toList) && ((((rd_T57 l2 x18_5).f1).toList) == (((rd_T57 t863 x15_3).f1).toList) && ((((rd_T57 l2 x18_5).f2.f0) == ((rd_T57 t863 x15_3).f2.f0) && (((rd_T57 l2 x18_5).f2.f1) == ((rd_T57 t863 x15_3).f2.f1))))))), (wrap64 (x18_5 + 1)), (by first | rfl | (simp; done) | (simp [*]; done)), (by first | rfl | (simp; done) | (simp [*]; done)), H', ⟨by have := HJ7.out; have := HJ32.out; have := HK3.out; have := HK4.out; have := HK5.out; omega⟩, ⟨by (with_reducible repeat (first | apply Kd.R_alloc | apply Kd.R_drewN | apply Kd.R_drew)); exact HO_11.out⟩, ⟨by repeat (first | (with_reducible first | exact HB.out | apply below_alloc | apply pw_below_drewN | apply below_drew1) | exact HB.out)⟩⟩
                   ·rw [if_neg c58] at H
                    exact absurd H (by simp)
                  ·rw [if_neg c57] at H
                   exact absurd H (by simp)
                 ·rw [if_neg c56] at H
                  exact absurd H (by simp)
               ·rw [if_neg c54] at H
                have c54b0 : decide (x18_5 < (l2.length : Int)) = false := decide_eq_false c54
                clear c54
                by_cases c59 : x16_5 = true
                ·subst c59
                 have H1 : (law08_PairMerges.l0 k5 l1 l2 t863 (wrap64 (x15_3 + 1))) = some r := by rw [if_pos rfl] at H; exact H
                 clear H
                 have H := H1
                 clear H1
                 have H' := Aside0.mk H
                 clear H
                 go_wp2
                 repeat (go_quiet (fail); try go_wp2)
                 go_roundg k5
                 case measure => have := HJ7.out; have := HJ32.out; have := HK3.out; have := HK4.out; have := HK5.out; omega
                 case rel => exact ⟨(wrap64 (x15_3 + 1)), (by first | rfl | (simp; done) | (simp [*]; done)), H', ⟨by have := HJ7.out; have := HJ32.out; have := HK3.out; have := HK4.out; have := HK5.out; omega⟩, ⟨by (with_reducible repeat (first | apply Kd.R_alloc | apply Kd.R_drewN | apply Kd.R_drew)); exact HO_11.out⟩, ⟨by repeat (first | (with_reducible first | exact HB.out | apply below_alloc | apply pw_below_drewN | apply below_drew1) | exact HB.out)⟩⟩
                ·replace c59 := Bool.eq_false_iff.mpr c59
                 subst c59
                 have H1 : (some false) = some r := by rw [if_neg (show ¬ (false = true) by decide)] at H; exact H
                 clear H
                 have H := H1
                 clear H1
                 obtain rfl := Option.some.inj H
                 go_wp2
                 repeat (go_quiet (fail); try go_wp2)
                 go_ret
                 exact ⟨by first | rfl | (simp [errW_none, errW_some] <;> rfl) | (simp [*, errW_none, errW_some] <;> rfl), by repeat (first | (with_reducible first | exact HB.out | apply below_alloc | apply pw_below_drewN | apply below_drew1) | exact HB.out)⟩
         ·rw [if_neg c48] at H
          have c48b0 : decide (x15_3 < (t863.length : Int)) = false := decide_eq_false c48
          clear c48
          obtain rfl := Option.some.inj H
          go_wp2
          repeat (go_quiet (fail); try go_wp2)
          go_ret
          exact ⟨by first | rfl | (simp [errW_none, errW_some] <;> rfl) | (simp [*, errW_none, errW_some] <;> rfl), by repeat (first | (with_reducible first | exact HB.out | apply below_alloc | apply pw_below_drewN | apply below_drew1) | exact HB.out)⟩

end Go.Proofs.Ytannmdngejdjkaa.L
