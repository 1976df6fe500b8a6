-- PRINTED by print.py (a twelfth state) out of the translation. Not trusted: Lean checks it.
import Derived.Test.YtannmdngejdjkaaLSq
import Derived.Test.YtannmdngejdjkaaLx0
import Derived.Test.YtannmdngejdjkaaLx32
import Derived.Test.YtannmdngejdjkaaLx33
import Derived.Test.YtannmdngejdjkaaLx34
import Derived.Test.YtannmdngejdjkaaLx35
import Derived.Test.YtannmdngejdjkaaLx36
import Derived.Test.YtannmdngejdjkaaLx37
import Derived.Test.YtannmdngejdjkaaLx38
import Derived.Test.YtannmdngejdjkaaLx40
import Derived.Test.YtannmdngejdjkaaLx41
import Derived.Test.YtannmdngejdjkaaLx42
import Derived.Test.YtannmdngejdjkaaLx43
import Derived.Test.YtannmdngejdjkaaLHPairAll
namespace Go.Proofs.Ytannmdngejdjkaa.L
open Go.RowKit Go.Proofs.YtannmdngejdjkaaW.PrintWords Go.Proofs.YtannmdngejdjkaaW.PrintLast Go.Proofs.YtannmdngejdjkaaW.PrintMore
attribute [local go_sem] max2_int min2_int max_two min_two max_three min_three max_four min_four   -- for this text's walks alone
set_option linter.unusedVariables false
set_option linter.unusedSimpArgs false

/-! ### law08_PairTells: function 14 -/
mutual
def law08_PairTells.j0 : Nat → List (S57) → List (S57) → List (S57) → Bool → Bool → ByteArray → ByteArray → Int → Int → Option (Bool)
 | 0, _, _, _, _, _, _, _, _, _ => none
 | k + 1, x0, x1, x2, x9, x48, x783000, x783001, x783002, x783003 => if x48 = true then (some x9) else ((ref08_May.f k x1).bind fun t791 => ((pair_Add.f x1 x783000 x783001 x783002 x783003).bind fun t792 => ((ref08_Add.f k x1 x783000 x783001 x783002 x783003).bind fun t795 => ((ref08_Same.f k t792 t795).bind fun t798 => ((pair_Del.f x1 x783000 x783001).bind fun t799 => ((ref08_Del.f k x1 x783000 x783001).bind fun t802 => ((ref08_Same.f k t799 t802).bind fun t805 => ((pair_Merge.f x0 x1 x2).bind fun t806 => ((ref08_Merge.f k x0 x1 x2).bind fun t809 => ((ref08_Same.f k t806 t809).bind fun t812 => ((pair_Elems.f x1 x783000).bind fun t813 => ((ref08_Elems.f k x1 x783000).bind fun t816 => ((law08_texts.f k t813 t816).bind fun t819 => (law08_PairTells.l0 k x1 t791 t798 t805 t812 t819 0 x783000 x783001 x783002 x783003))))))))))))))
def law08_PairTells.l0 : Nat → List (S57) → Bool → Bool → Bool → Bool → Bool → Int → ByteArray → ByteArray → Int → Int → Option (Bool)
 | 0, _, _, _, _, _, _, _, _, _, _, _ => none
 | k + 1, x1, x14, x15, x16, x17, x18, x19, x783000, x783001, x783002, x783003 => if x19 < (x1.length : Int) then (if 0 ≤ x19 then ((ref08_Less.f ((rd_T57 x1 x19).f0) ((rd_T57 x1 x19).f1) ((rd_T57 x1 x19).f2.f0) ((rd_T57 x1 x19).f2.f1) x783000 x783001 x783002 x783003).bind fun t822 => ((pair_Less.f k ((rd_T57 x1 x19).f0) ((rd_T57 x1 x19).f1) ((rd_T57 x1 x19).f2.f0) ((rd_T57 x1 x19).f2.f1) x783000 x783001 x783002 x783003).bind fun t824 => (if (t824 != t822) = true then (some false) else (law08_PairTells.l0 k x1 x14 x15 x16 x17 x18 (wrap64 (x19 + 1)) x783000 x783001 x783002 x783003)))) else (none)) else ((pair_May.f k x1).bind fun t820 => (if (t820 == x14) = true then (if x15 = true then (if x16 = true then (if x17 = true then (some x18) else (some false)) else (some false)) else (some false)) else (some false)))
end
def law08_PairTells.f (k : Nat) (l0 : List (S57)) (l1 : List (S57)) (l2 : List (S57)) (a3_0 : ByteArray) (a3_1 : ByteArray) (a3_2 : Int) (a3_3 : Int) : Option (Bool) := (law08_awake.f k).bind fun t783 => ((law08_Few.f k l0).bind fun t784 => ((law08_Few.f k l1).bind fun t785 => ((law08_Few.f k l2).bind fun t786 => ((law08_Few.f k (([(⟨a3_0, a3_1, (⟨a3_2, a3_3⟩ : S24)⟩ : S57)] : List (S57)))).bind fun t790 => (if t783 = true then (if t784 = true then (if t785 = true then (if t786 = true then (law08_PairTells.j0 k l0 l1 l2 t783 (!t790) a3_0 a3_1 a3_2 a3_3) else (law08_PairTells.j0 k l0 l1 l2 t783 true a3_0 a3_1 a3_2 a3_3)) else (law08_PairTells.j0 k l0 l1 l2 t783 true a3_0 a3_1 a3_2 a3_3)) else (law08_PairTells.j0 k l0 l1 l2 t783 true a3_0 a3_1 a3_2 a3_3)) else (law08_PairTells.j0 k l0 l1 l2 t783 true a3_0 a3_1 a3_2 a3_3))))))
theorem law08_PairTells.mono_l : ∀ k, (∀ y0 y1 y2 y3 y4 y5 y6 y7 y8, LeO (law08_PairTells.j0 k y0 y1 y2 y3 y4 y5 y6 y7 y8) (law08_PairTells.j0 (k + 1) y0 y1 y2 y3 y4 y5 y6 y7 y8)) ∧ (∀ y0 y1 y2 y3 y4 y5 y6 y7 y8 y9 y10, LeO (law08_PairTells.l0 k y0 y1 y2 y3 y4 y5 y6 y7 y8 y9 y10) (law08_PairTells.l0 (k + 1) y0 y1 y2 y3 y4 y5 y6 y7 y8 y9 y10))
 | 0 => ⟨fun _ _ _ _ _ _ _ _ _ r h => by simp [law08_PairTells.j0] at h, fun _ _ _ _ _ _ _ _ _ _ _ r h => by simp [law08_PairTells.l0] at h⟩
 | k + 1 => by
  obtain ⟨ih0, ih1⟩ := law08_PairTells.mono_l k
  refine ⟨?_, ?_⟩
  ·intro y0 y1 y2 y3 y4 y5 y6 y7 y8
   unfold law08_PairTells.j0
   repeat' first
   | (with_reducible exact ih0 _ _ _ _ _ _ _ _ _)
   | (with_reducible exact ih1 _ _ _ _ _ _ _ _ _ _ _)
   | (with_reducible exact law08_Few.mono _ _)
   | (with_reducible exact law08_awake.mono _)
   | (with_reducible exact law08_texts.mono _ _ _)
   | (with_reducible exact pair_Less.mono _ _ _ _ _ _ _ _ _)
   | (with_reducible exact pair_May.mono _ _)
   | (with_reducible exact ref08_Add.mono _ _ _ _ _ _)
   | (with_reducible exact ref08_Del.mono _ _ _ _)
   | (with_reducible exact ref08_Elems.mono _ _ _)
   | (with_reducible exact ref08_May.mono _ _)
   | (with_reducible exact ref08_Merge.mono _ _ _ _)
   | (with_reducible exact ref08_Same.mono _ _ _)
   | (with_reducible exact LeO.refl _)
   | (with_reducible exact LeO.none _)
   | (with_reducible refine LeO.ite ?_ ?_)
   | (with_reducible refine LeO.bind ?_ (fun _ => ?_))
   | exact ih0 _ _ _ _ _ _ _ _ _
   | exact ih1 _ _ _ _ _ _ _ _ _ _ _
   | exact law08_Few.mono _ _
   | exact law08_awake.mono _
   | exact law08_texts.mono _ _ _
   | exact pair_Less.mono _ _ _ _ _ _ _ _ _
   | exact pair_May.mono _ _
   | exact ref08_Add.mono _ _ _ _ _ _
   | exact ref08_Del.mono _ _ _ _
   | exact ref08_Elems.mono _ _ _
   | exact ref08_May.mono _ _
   | exact ref08_Merge.mono _ _ _ _
   | exact ref08_Same.mono _ _ _
   | exact LeO.none _
   | refine LeO.ite ?_ ?_
   | refine LeO.bind ?_ (fun _ => ?_)
  ·intro y0 y1 y2 y3 y4 y5 y6 y7 y8 y9 y10
   unfold law08_PairTells.l0
   repeat' first
   | (with_reducible exact ih0 _ _ _ _ _ _ _ _ _)
   | (with_reducible exact ih1 _ _ _ _ _ _ _ _ _ _ _)
   | (with_reducible exact law08_Few.mono _ _)
   | (with_reducible exact law08_awake.mono _)
   | (with_reducible exact law08_texts.mono _ _ _)
   | (with_reducible exact pair_Less.mono _ _ _ _ _ _ _ _ _)
   | (with_reducible exact pair_May.mono _ _)
   | (with_reducible exact ref08_Add.mono _ _ _ _ _ _)
   | (with_reducible exact ref08_Del.mono _ _ _ _)
   | (with_reducible exact ref08_Elems.mono _ _ _)
   | (with_reducible exact ref08_May.mono _ _)
   | (with_reducible exact ref08_Merge.mono _ _ _ _)
   | (with_reducible exact ref08_Same.mono _ _ _)
   | (with_reducible exact LeO.refl _)
   | (with_reducible exact LeO.none _)
   | (with_reducible refine LeO.ite ?_ ?_)
   | (with_reducible refine LeO.bind ?_ (fun _ => ?_))
   | exact ih0 _ _ _ _ _ _ _ _ _
   | exact ih1 _ _ _ _ _ _ _ _ _ _ _
   | exact law08_Few.mono _ _
   | exact law08_awake.mono _
   | exact law08_texts.mono _ _ _
   | exact pair_Less.mono _ _ _ _ _ _ _ _ _
   | exact pair_May.mono _ _
   | exact ref08_Add.mono _ _ _ _ _ _
   | exact ref08_Del.mono _ _ _ _
   | exact ref08_Elems.mono _ _ _
   | exact ref08_May.mono _ _
   | exact ref08_Merge.mono _ _ _ _
   | exact ref08_Same.mono _ _ _
   | exact LeO.none _
   | refine LeO.ite ?_ ?_
   | refine LeO.bind ?_ (fun _ => ?_)
theorem law08_PairTells.mono : ∀ a0 a1 a2 a3 a4 a5 a6 k, LeO (law08_PairTells.f k a0 a1 a2 a3 a4 a5 a6) (law08_PairTells.f (k + 1) a0 a1 a2 a3 a4 a5 a6) := by
 intro a0 a1 a2 a3 a4 a5 a6 k
 obtain ⟨ih0, ih1⟩ := law08_PairTells.mono_l k
 unfold law08_PairTells.f
 repeat' first
   | (with_reducible exact ih0 _ _ _ _ _ _ _ _ _)
   | (with_reducible exact ih1 _ _ _ _ _ _ _ _ _ _ _)
   | (with_reducible exact law08_Few.mono _ _)
   | (with_reducible exact law08_awake.mono _)
   | (with_reducible exact law08_texts.mono _ _ _)
   | (with_reducible exact pair_Less.mono _ _ _ _ _ _ _ _ _)
   | (with_reducible exact pair_May.mono _ _)
   | (with_reducible exact ref08_Add.mono _ _ _ _ _ _)
   | (with_reducible exact ref08_Del.mono _ _ _ _)
   | (with_reducible exact ref08_Elems.mono _ _ _)
   | (with_reducible exact ref08_May.mono _ _)
   | (with_reducible exact ref08_Merge.mono _ _ _ _)
   | (with_reducible exact ref08_Same.mono _ _ _)
   | (with_reducible exact LeO.refl _)
   | (with_reducible exact LeO.none _)
   | (with_reducible refine LeO.ite ?_ ?_)
   | (with_reducible refine LeO.bind ?_ (fun _ => ?_))
   | exact ih0 _ _ _ _ _ _ _ _ _
   | exact ih1 _ _ _ _ _ _ _ _ _ _ _
   | exact law08_Few.mono _ _
   | exact law08_awake.mono _
   | exact law08_texts.mono _ _ _
   | exact pair_Less.mono _ _ _ _ _ _ _ _ _
   | exact pair_May.mono _ _
   | exact ref08_Add.mono _ _ _ _ _ _
   | exact ref08_Del.mono _ _ _ _
   | exact ref08_Elems.mono _ _ _
   | exact ref08_May.mono _ _
   | exact ref08_Merge.mono _ _ _ _
   | exact ref08_Same.mono _ _ _
   | exact LeO.none _
   | refine LeO.ite ?_ ?_
   | refine LeO.bind ?_ (fun _ => ?_)
def law08_PairTells.T9 : Bool × List (List Nat × List Nat) := (true, [([], []), ([], []), ([0, 1], [0, 1]), ([], []), ([], []), ([3, 4, 2], [3, 4]), ([2, 5, 5], [2, 5]), ([6, 6, 0, 1, 2, 3, 4, 5, 6], [6])])
def law08_PairTells.B9 : List Nat := [0, 0, 3, 0, 0, 31, 63, 127]
theorem law08_PairTells.tab9 : rtab .any (opsOf Try.f14 9) = law08_PairTells.T9 := by kernel_rfl
theorem law08_PairTells.bits9 : waitsOk law08_PairTells.T9.2 law08_PairTells.B9 = true := by kernel_rfl
def law08_PairTells.T10 : Bool × List (List Nat × List Nat) := (true, [([], []), ([], []), ([1], [1]), ([], []), ([3], [3]), ([0, 2, 4], [0, 2, 4]), ([], []), ([], []), ([7], [7]), ([], []), ([9], [9]), ([6, 8, 10, 5], [6, 8, 10]), ([5, 11, 11], [5, 11]), ([12, 12, 0, 1, 2, 3, 4, 5, 6, 7, 8, 9, 10, 11, 12], [12])])
def law08_PairTells.B10 : List Nat := [0, 0, 2, 0, 8, 31, 0, 0, 128, 0, 512, 2047, 4095, 8191]
theorem law08_PairTells.tab10 : rtab .any (opsOf Try.f14 10) = law08_PairTells.T10 := by kernel_rfl
theorem law08_PairTells.bits10 : waitsOk law08_PairTells.T10.2 law08_PairTells.B10 = true := by kernel_rfl
def law08_PairTells.T12 : Bool × List (List Nat × List Nat) := (true, [([], []), ([], []), ([1], [1]), ([0, 2], [0, 2]), ([], []), ([], []), ([5], [5]), ([4, 6, 3], [4, 6]), ([3, 7, 7], [3, 7]), ([8, 8, 0, 1, 2, 3, 4, 5, 6, 7, 8], [8])])
def law08_PairTells.B12 : List Nat := [0, 0, 2, 7, 0, 0, 32, 127, 255, 511]
theorem law08_PairTells.tab12 : rtab .any (opsOf Try.f14 12) = law08_PairTells.T12 := by kernel_rfl
theorem law08_PairTells.bits12 : waitsOk law08_PairTells.T12.2 law08_PairTells.B12 = true := by kernel_rfl
def law08_PairTells.T17 : Bool × List (List Nat × List Nat) := (true, [([], []), ([], []), ([0, 1], [0, 1]), ([2], [2]), ([], []), ([3, 4], [3, 4]), ([], []), ([5, 6], [5, 6])])
def law08_PairTells.B17 : List Nat := [0, 0, 3, 7, 0, 31, 0, 127]
theorem law08_PairTells.tab17 : rtab .any (opsOf Try.f14 17) = law08_PairTells.T17 := by kernel_rfl
theorem law08_PairTells.bits17 : waitsOk law08_PairTells.T17.2 law08_PairTells.B17 = true := by kernel_rfl
set_option maxHeartbeats 8000000 in
set_option maxRecDepth 100000 in
theorem law08_PairTells.calls (k : Nat) (A0 : Option Addr) (c0 : Nat) (l0 : List (S57)) (A1 : Option Addr) (c1 : Nat) (l1 : List (S57)) (A2 : Option Addr) (c2 : Nat) (l2 : List (S57)) (a3_0 : ByteArray) (a3_1 : ByteArray) (a3_2 : Int) (a3_3 : Int) (r : Bool) (w : World) (hr0 : Kd.C k57 w A0 l0.length l0) (hc0 : l0.length ≤ c0) (hr1 : Kd.C k57 w A1 l1.length l1) (hc1 : l1.length ≤ c1) (hr2 : Kd.C k57 w A2 l2.length l2) (hc2 : l2.length ≤ c2) (h : law08_PairTells.f k l0 l1 l2 a3_0 a3_1 a3_2 a3_3 = some r) :
  Calls Try.prog 14 #[.slice A0 l0.length c0, .slice A1 l1.length c1, .slice A2 l2.length c2, .agg #[.string a3_0, .string a3_1, .int .i64 a3_2, .int .i64 a3_3]] w fun e w' => e = .returned (.bool r) ∧ Below w.heap.size w w' := by
 have hu57 := Try.underlying57
 have HR0 := Aside0.mk hr0
 have HC0 := Aside0.mk hc0
 clear hr0 hc0
 have HR1 := Aside0.mk hr1
 have HC1 := Aside0.mk hc1
 clear hr1 hc1
 have HR2 := Aside0.mk hr2
 have HC2 := Aside0.mk hc2
 clear hr2 hc2
 have HB := Aside0.mk (Below.refl w.heap.size w)
 have H : ((law08_awake.f k).bind fun t783 => ((law08_Few.f k l0).bind fun t784 => ((law08_Few.f k l1).bind fun t785 => ((law08_Few.f k l2).bind fun t786 => ((law08_Few.f k (([(⟨a3_0, a3_1, (⟨a3_2, a3_3⟩ : S24)⟩ : S57)] : List (S57)))).bind fun t790 => (if t783 = true then (if t784 = true then (if t785 = true then (if t786 = true then (law08_PairTells.j0 k l0 l1 l2 t783 (!t790) a3_0 a3_1 a3_2 a3_3) else (law08_PairTells.j0 k l0 l1 l2 t783 true a3_0 a3_1 a3_2 a3_3)) else (law08_PairTells.j0 k l0 l1 l2 t783 true a3_0 a3_1 a3_2 a3_3)) else (law08_PairTells.j0 k l0 l1 l2 t783 true a3_0 a3_1 a3_2 a3_3)) else (law08_PairTells.j0 k l0 l1 l2 t783 true a3_0 a3_1 a3_2 a3_3))))))) = some r := h
 clear h
 replace H := Option.bind_eq_some_iff.mp H
 obtain ⟨t783, A50, H⟩ := H
 replace H : ((law08_Few.f k l0).bind fun t784 => ((law08_Few.f k l1).bind fun t785 => ((law08_Few.f k l2).bind fun t786 => ((law08_Few.f k (([(⟨a3_0, a3_1, (⟨a3_2, a3_3⟩ : S24)⟩ : S57)] : List (S57)))).bind fun t790 => (if t783 = true then (if t784 = true then (if t785 = true then (if t786 = true then (law08_PairTells.j0 k l0 l1 l2 t783 (!t790) a3_0 a3_1 a3_2 a3_3) else (law08_PairTells.j0 k l0 l1 l2 t783 true a3_0 a3_1 a3_2 a3_3)) else (law08_PairTells.j0 k l0 l1 l2 t783 true a3_0 a3_1 a3_2 a3_3)) else (law08_PairTells.j0 k l0 l1 l2 t783 true a3_0 a3_1 a3_2 a3_3)) else (law08_PairTells.j0 k l0 l1 l2 t783 true a3_0 a3_1 a3_2 a3_3)))))) = some r := H
 have A5 := Aside0.mk A50
 clear A50
 replace H := Option.bind_eq_some_iff.mp H
 obtain ⟨t784, A60, H⟩ := H
 replace H : ((law08_Few.f k l1).bind fun t785 => ((law08_Few.f k l2).bind fun t786 => ((law08_Few.f k (([(⟨a3_0, a3_1, (⟨a3_2, a3_3⟩ : S24)⟩ : S57)] : List (S57)))).bind fun t790 => (if t783 = true then (if t784 = true then (if t785 = true then (if t786 = true then (law08_PairTells.j0 k l0 l1 l2 t783 (!t790) a3_0 a3_1 a3_2 a3_3) else (law08_PairTells.j0 k l0 l1 l2 t783 true a3_0 a3_1 a3_2 a3_3)) else (law08_PairTells.j0 k l0 l1 l2 t783 true a3_0 a3_1 a3_2 a3_3)) else (law08_PairTells.j0 k l0 l1 l2 t783 true a3_0 a3_1 a3_2 a3_3)) else (law08_PairTells.j0 k l0 l1 l2 t783 true a3_0 a3_1 a3_2 a3_3))))) = some r := H
 have A6 := Aside0.mk A60
 clear A60
 replace H := Option.bind_eq_some_iff.mp H
 obtain ⟨t785, A70, H⟩ := H
 replace H : ((law08_Few.f k l2).bind fun t786 => ((law08_Few.f k (([(⟨a3_0, a3_1, (⟨a3_2, a3_3⟩ : S24)⟩ : S57)] : List (S57)))).bind fun t790 => (if t783 = true then (if t784 = true then (if t785 = true then (if t786 = true then (law08_PairTells.j0 k l0 l1 l2 t783 (!t790) a3_0 a3_1 a3_2 a3_3) else (law08_PairTells.j0 k l0 l1 l2 t783 true a3_0 a3_1 a3_2 a3_3)) else (law08_PairTells.j0 k l0 l1 l2 t783 true a3_0 a3_1 a3_2 a3_3)) else (law08_PairTells.j0 k l0 l1 l2 t783 true a3_0 a3_1 a3_2 a3_3)) else (law08_PairTells.j0 k l0 l1 l2 t783 true a3_0 a3_1 a3_2 a3_3)))) = some r := H
 have A7 := Aside0.mk A70
 clear A70
 replace H := Option.bind_eq_some_iff.mp H
 obtain ⟨t786, A80, H⟩ := H
 replace H : ((law08_Few.f k (([(⟨a3_0, a3_1, (⟨a3_2, a3_3⟩ : S24)⟩ : S57)] : List (S57)))).bind fun t790 => (if t783 = true then (if t784 = true then (if t785 = true then (if t786 = true then (law08_PairTells.j0 k l0 l1 l2 t783 (!t790) a3_0 a3_1 a3_2 a3_3) else (law08_PairTells.j0 k l0 l1 l2 t783 true a3_0 a3_1 a3_2 a3_3)) else (law08_PairTells.j0 k l0 l1 l2 t783 true a3_0 a3_1 a3_2 a3_3)) else (law08_PairTells.j0 k l0 l1 l2 t783 true a3_0 a3_1 a3_2 a3_3)) else (law08_PairTells.j0 k l0 l1 l2 t783 true a3_0 a3_1 a3_2 a3_3))) = some r := H
 have A8 := Aside0.mk A80
 clear A80
 obtain ⟨y787, hy787⟩ : ∃ y_ : List (S57), y_ = (([(⟨a3_0, a3_1, (⟨a3_2, a3_3⟩ : S24)⟩ : S57)] : List (S57))) := ⟨_, rfl⟩
 replace H : ((law08_Few.f k y787).bind fun t790 => (if t783 = true then (if t784 = true then (if t785 = true then (if t786 = true then (law08_PairTells.j0 k l0 l1 l2 t783 (!t790) a3_0 a3_1 a3_2 a3_3) else (law08_PairTells.j0 k l0 l1 l2 t783 true a3_0 a3_1 a3_2 a3_3)) else (law08_PairTells.j0 k l0 l1 l2 t783 true a3_0 a3_1 a3_2 a3_3)) else (law08_PairTells.j0 k l0 l1 l2 t783 true a3_0 a3_1 a3_2 a3_3)) else (law08_PairTells.j0 k l0 l1 l2 t783 true a3_0 a3_1 a3_2 a3_3))) = some r := by first | (rw [hy787]; with_reducible exact H) | (have H2_ := (Option.bind_some _ _).symm.trans H; rw [hy787]; with_reducible exact H2_) | (have H2_ := (Option.bind_some _ _).symm.trans H; with_reducible exact H2_) | with_reducible exact H | (rw [hy787]; exact H) | exact H
 have Ny787 := Aside0.mk hy787
 clear hy787
 replace H := Option.bind_eq_some_iff.mp H
 obtain ⟨t790, A90, H⟩ := H
 replace H : (if t783 = true then (if t784 = true then (if t785 = true then (if t786 = true then (law08_PairTells.j0 k l0 l1 l2 t783 (!t790) a3_0 a3_1 a3_2 a3_3) else (law08_PairTells.j0 k l0 l1 l2 t783 true a3_0 a3_1 a3_2 a3_3)) else (law08_PairTells.j0 k l0 l1 l2 t783 true a3_0 a3_1 a3_2 a3_3)) else (law08_PairTells.j0 k l0 l1 l2 t783 true a3_0 a3_1 a3_2 a3_3)) else (law08_PairTells.j0 k l0 l1 l2 t783 true a3_0 a3_1 a3_2 a3_3)) = some r := H
 have A9 := Aside0.mk A90
 clear A90
 have HC10 := Aside0.mk H
 clear H
 go_enter Try.func14, Try.ntmps14
 go_upto_region 6 with (first | ((with_reducible refine gate_dst (N := 7) rfl ?_); refine box_event ?hg (N := 7) ?hd (cs := #[.string a3_0, .string a3_1, .int .i64 a3_2, .int .i64 a3_3]) (t := 57) ?hr ?_; (case hd => rfl); (case hg => rfl); (case hr => first | (go_simp; done) | (go_simp; rfl)); intro gb782 hg w11 hbox hb; have n0_ := Aside0.mk (below_step (by repeat (first | (with_reducible first | exact HB.out | apply below_alloc | apply pw_below_drewN | apply below_drew1) | exact HB.out)) hb); have n1_ := Aside0.mk (hbox); have n2_ := Aside0.mk ((by rw [hg]; exact (below_size (by repeat (first | (with_reducible first | exact HB.out | apply below_alloc | apply pw_below_drewN | apply below_drew1) | exact HB.out))) : w.heap.size ≤ gb782)); have n3_ := Aside0.mk ((by rw [hg]; exact (below_size (by repeat (first | (with_reducible first | exact HB.out | apply below_alloc | apply pw_below_drewN | apply below_drew1) | exact HB.out))) : w.heap.size ≤ gb782)); clear HB; have HB := n0_; have BK782 := n1_; have GW782 := n2_; have GE782 := n3_; clear n0_ n1_ n2_ n3_; clear hb hbox hg) | ((with_reducible refine gate_callee (f := 45) rfl ?_); refine goesL_ (some 21) rfl rfl Try.func45 (by kernel_rfl) rfl #[] rfl (by (try simp only [List.map_toArray, List.map_cons, List.map_nil]); first | done | rfl | (simp only [List.length_drop, List.length_take]; rfl)) ?_; (with_reducible refine (law08_awake.calls k  t783 _ A5.out).mono ?_); rintro e w12 ⟨rfl, hb⟩; refine ⟨_, rfl, ?_⟩; have n0_ := Aside0.mk (blk_below (g := gb782) (o := .cells #[.string a3_0, .string a3_1, .int .i64 a3_2, .int .i64 a3_3] 57 (0, 0)) (by (with_reducible repeat (first | apply blN | apply blD | apply blA)); exact BK782.out) hb); have n1_ := Aside0.mk (below_step (by repeat (first | (with_reducible first | exact HB.out | apply below_alloc | apply pw_below_drewN | apply below_drew1 | refine below_set ?_ GE782.out) | exact HB.out)) hb); clear BK782; clear HB; have BK782 := n0_; have HB := n1_; clear n0_ n1_; (try clear hb); (try clear hb2); (try clear hk); (try clear hi)) | ((with_reducible refine gate_callee (f := 46) rfl ?_); refine goesL_ (some 23) rfl rfl Try.func46 (by kernel_rfl) rfl #[.slice A0 l0.length c0] rfl (by (try simp only [List.map_toArray, List.map_cons, List.map_nil]); first | done | rfl | (simp only [List.length_drop, List.length_take]; rfl)) ?_; (with_reducible refine (law08_Few.calls k _ _ l0 t784 _ ?side1 ?side2 A6.out).mono ?_); (case side1 => repeat (first | exact (Kd.C_below HR0.out HB.out) | (with_reducible refine Kd.C_alloc ?_ _) | (with_reducible refine Kd.C_drewN ?_ _) | (with_reducible refine Kd.C_drew ?_))); (case side2 => exact HC0.out); rintro e w' ⟨rfl, ⟨nd, rfl⟩⟩; refine ⟨_, rfl, ?_⟩) | ((with_reducible refine gate_callee (f := 46) rfl ?_); refine goesL_ (some 25) rfl rfl Try.func46 (by kernel_rfl) rfl #[.slice A1 l1.length c1] rfl (by (try simp only [List.map_toArray, List.map_cons, List.map_nil]); first | done | rfl | (simp only [List.length_drop, List.length_take]; rfl)) ?_; (with_reducible refine (law08_Few.calls k _ _ l1 t785 _ ?side1 ?side2 A7.out).mono ?_); (case side1 => repeat (first | exact (Kd.C_below HR1.out (by repeat (first | (with_reducible first | exact HB.out | apply below_alloc | apply pw_below_drewN | apply below_drew1 | refine below_set ?_ GE782.out) | exact HB.out))) | (with_reducible refine Kd.C_alloc ?_ _) | (with_reducible refine Kd.C_drewN ?_ _) | (with_reducible refine Kd.C_drew ?_))); (case side2 => exact HC1.out); rintro e w' ⟨rfl, ⟨nd, rfl⟩⟩; refine ⟨_, rfl, ?_⟩) | ((with_reducible refine gate_callee (f := 46) rfl ?_); refine goesL_ (some 27) rfl rfl Try.func46 (by kernel_rfl) rfl #[.slice A2 l2.length c2] rfl (by (try simp only [List.map_toArray, List.map_cons, List.map_nil]); first | done | rfl | (simp only [List.length_drop, List.length_take]; rfl)) ?_; (with_reducible refine (law08_Few.calls k _ _ l2 t786 _ ?side1 ?side2 A8.out).mono ?_); (case side1 => repeat (first | exact (Kd.C_below HR2.out (by repeat (first | (with_reducible first | exact HB.out | apply below_alloc | apply pw_below_drewN | apply below_drew1 | refine below_set ?_ GE782.out) | exact HB.out))) | (with_reducible refine Kd.C_alloc ?_ _) | (with_reducible refine Kd.C_drewN ?_ _) | (with_reducible refine Kd.C_drew ?_))); (case side2 => exact HC2.out); rintro e w' ⟨rfl, ⟨nd, rfl⟩⟩; refine ⟨_, rfl, ?_⟩; have hcz13_0 : w12.cell? ⟨gb782, 0, none⟩ = some (.string a3_0) := (blk_cell BK782.out 0).trans rfl; have hcz13_1 : w12.cell? ⟨gb782, 1, none⟩ = some (.string a3_1) := (blk_cell BK782.out 1).trans rfl; have hcz13_2 : w12.cell? ⟨gb782, 2, none⟩ = some (.int .i64 a3_2) := (blk_cell BK782.out 2).trans rfl; have hcz13_3 : w12.cell? ⟨gb782, 3, none⟩ = some (.int .i64 a3_3) := (blk_cell BK782.out 3).trans rfl; have hfz13_0 := blk_frozen BK782.out 0; have hfz13_1 := blk_frozen BK782.out 1; have hfz13_2 := blk_frozen BK782.out 2; have hfz13_3 := blk_frozen BK782.out 3) | ((with_reducible refine gate_dst (N := 29) rfl ?_); refine Kd.R_lit k57 _ 57 ?hg (N := 29) ?hd (xs := ([(⟨a3_0, a3_1, (⟨a3_2, a3_3⟩ : S24)⟩ : S57)] : List (S57))) (inner := [.string a3_0, .string a3_1, .int .i64 a3_2, .int .i64 a3_3]) (ok := fun _ => True) (okp := fun _ => True) ?hr ?hp (fun _ hk => hk) trivial (Below.refl _ _) (Nat.le_refl _) (by simp) ?_; (case hd => rfl); (case hg => rfl); (case hr => first | (go_simp; done) | (go_simp; rfl)); (case hp => exact (Reps.c4 (show Kd.M k57 _ _ _ (⟨a3_0, a3_1, (⟨a3_2, a3_3⟩ : S24)⟩ : S57) [.string a3_0, .string a3_1, .int .i64 a3_2, .int .i64 a3_3] from (k57_mkM _ _ _ (⟨a3_0, a3_1, (⟨a3_2, a3_3⟩ : S24)⟩ : S57) )) (Reps.none _ _))); intro v788 w14 ho15 hb hg_ hnew_; clear hg_ hnew_; (first | rw [← Ny787.out] at ho15 | (simp only [Int.reduceToNat] at ho15; rw [← Ny787.out] at ho15)); have n0_ := Aside0.mk (Kd.R_lower (Kd.R_newB ho15 (g := gb782) (o := .cells #[.string a3_0, .string a3_1, .int .i64 a3_2, .int .i64 a3_3] 57 (0, 0)) (by (with_reducible repeat (first | apply blN | apply blD | apply blA)); exact BK782.out)) (below_size (by repeat (first | (with_reducible first | exact HB.out | apply below_alloc | apply pw_below_drewN | apply below_drew1 | refine below_set ?_ GE782.out) | exact HB.out)))); have n1_ := Aside0.mk (blk_below (g := gb782) (o := .cells #[.string a3_0, .string a3_1, .int .i64 a3_2, .int .i64 a3_3] 57 (0, 0)) (by (with_reducible repeat (first | apply blN | apply blD | apply blA)); exact BK782.out) hb); have n2_ := Aside0.mk (below_step (by repeat (first | (with_reducible first | exact HB.out | apply below_alloc | apply pw_below_drewN | apply below_drew1 | refine below_set ?_ GE782.out) | exact HB.out)) hb); clear BK782; clear HB; have HO789 := n0_; have BK782 := n1_; have HB := n2_; clear n0_ n1_ n2_; clear hb ho15; obtain ⟨Ao16, co16, eo16⟩ := Kd.R_slice HO789.out; subst eo16) | ((with_reducible refine gate_callee (f := 46) rfl ?_); refine goesL_ (some 30) rfl rfl Try.func46 (by kernel_rfl) rfl #[.slice Ao16 y787.length co16] rfl (by (try simp only [List.map_toArray, List.map_cons, List.map_nil]); first | done | rfl | (simp only [List.length_drop, List.length_take]; rfl)) ?_; (with_reducible refine (law08_Few.calls k _ _ y787 t790 _ ?side1 ?side2 A9.out).mono ?_); (case side1 => repeat (first | exact (Kd.R_reads' HO789.out).2.2 | (with_reducible refine Kd.C_alloc ?_ _) | (with_reducible refine Kd.C_drewN ?_ _) | (with_reducible refine Kd.C_drew ?_))); (case side2 => exact (Kd.R_reads' HO789.out).2.1); rintro e w' ⟨rfl, ⟨nd, rfl⟩⟩; refine ⟨_, rfl, ?_⟩))
 (try simp only [Act.put, List.setIfInBounds_toArray, List.set_cons_zero, List.set_cons_succ])
 go_cut [48] (fun v48 wc => ∃ (kq : Nat) (x48_9 : Bool), v48 = .bool x48_9 ∧ Aside0 (law08_PairTells.j0 kq l0 l1 l2 t783 x48_9 a3_0 a3_1 a3_2 a3_3 = some r) ∧ Aside0 (kq ≤ k) ∧ Aside0 (wc.heap[gb782]? = some (.cells #[.string a3_0, .string a3_1, .int .i64 a3_2, .int .i64 a3_3] 57 (0, 0))) ∧ Aside0 (Below w.heap.size w wc))
 case first =>
  have H := HC10.out
  clear HC10
  by_cases c17 : t783 = true
  ·subst c17
   have H1 : (if t784 = true then (if t785 = true then (if t786 = true then (law08_PairTells.j0 k l0 l1 l2 true (!t790) a3_0 a3_1 a3_2 a3_3) else (law08_PairTells.j0 k l0 l1 l2 true true a3_0 a3_1 a3_2 a3_3)) else (law08_PairTells.j0 k l0 l1 l2 true true a3_0 a3_1 a3_2 a3_3)) else (law08_PairTells.j0 k l0 l1 l2 true true a3_0 a3_1 a3_2 a3_3)) = some r := by rw [if_pos rfl] at H; exact H
   clear H
   have H := H1
   clear H1
   by_cases c18 : t784 = true
   ·subst c18
    have H1 : (if t785 = true then (if t786 = true then (law08_PairTells.j0 k l0 l1 l2 true (!t790) a3_0 a3_1 a3_2 a3_3) else (law08_PairTells.j0 k l0 l1 l2 true true a3_0 a3_1 a3_2 a3_3)) else (law08_PairTells.j0 k l0 l1 l2 true true a3_0 a3_1 a3_2 a3_3)) = some r := by rw [if_pos rfl] at H; exact H
    clear H
    have H := H1
    clear H1
    by_cases c19 : t785 = true
    ·subst c19
     have H1 : (if t786 = true then (law08_PairTells.j0 k l0 l1 l2 true (!t790) a3_0 a3_1 a3_2 a3_3) else (law08_PairTells.j0 k l0 l1 l2 true true a3_0 a3_1 a3_2 a3_3)) = some r := by rw [if_pos rfl] at H; exact H
     clear H
     have H := H1
     clear H1
     by_cases c20 : t786 = true
     ·subst c20
      have H1 : (law08_PairTells.j0 k l0 l1 l2 true (!t790) a3_0 a3_1 a3_2 a3_3) = some r := by rw [if_pos rfl] at H; exact H
      clear H
      have H := H1
      clear H1
      have H' := Aside0.mk H
      clear H
      go_wp2
      go_meet
      case rel => exact ⟨_, (!t790), (by first | rfl | (simp; done) | (simp [*]; done)), H', ⟨by first | omega | exact Nat.le_refl _⟩, ⟨by (with_reducible repeat (first | apply blN | apply blD | apply blA)); exact BK782.out⟩, ⟨by repeat (first | (with_reducible first | exact HB.out | apply below_alloc | apply pw_below_drewN | apply below_drew1 | refine below_set ?_ GE782.out) | exact HB.out)⟩⟩
     ·replace c20 := Bool.eq_false_iff.mpr c20
      subst c20
      have H1 : (law08_PairTells.j0 k l0 l1 l2 true true a3_0 a3_1 a3_2 a3_3) = some r := by rw [if_neg (show ¬ (false = true) by decide)] at H; exact H
      clear H
      have H := H1
      clear H1
      have H' := Aside0.mk H
      clear H
      go_wp2
      go_meet
      case rel => exact ⟨_, (true), (by first | rfl | (simp; done) | (simp [*]; done)), H', ⟨by first | omega | exact Nat.le_refl _⟩, ⟨by (with_reducible repeat (first | apply blN | apply blD | apply blA)); exact BK782.out⟩, ⟨by repeat (first | (with_reducible first | exact HB.out | apply below_alloc | apply pw_below_drewN | apply below_drew1 | refine below_set ?_ GE782.out) | exact HB.out)⟩⟩
    ·replace c19 := Bool.eq_false_iff.mpr c19
     subst c19
     have H1 : (law08_PairTells.j0 k l0 l1 l2 true true a3_0 a3_1 a3_2 a3_3) = some r := by rw [if_neg (show ¬ (false = true) by decide)] at H; exact H
     clear H
     have H := H1
     clear H1
     have H' := Aside0.mk H
     clear H
     go_wp2
     go_meet
     case rel => exact ⟨_, (true), (by first | rfl | (simp; done) | (simp [*]; done)), H', ⟨by first | omega | exact Nat.le_refl _⟩, ⟨by (with_reducible repeat (first | apply blN | apply blD | apply blA)); exact BK782.out⟩, ⟨by repeat (first | (with_reducible first | exact HB.out | apply below_alloc | apply pw_below_drewN | apply below_drew1 | refine below_set ?_ GE782.out) | exact HB.out)⟩⟩
   ·replace c18 := Bool.eq_false_iff.mpr c18
    subst c18
    have H1 : (law08_PairTells.j0 k l0 l1 l2 true true a3_0 a3_1 a3_2 a3_3) = some r := by rw [if_neg (show ¬ (false = true) by decide)] at H; exact H
    clear H
    have H := H1
    clear H1
    have H' := Aside0.mk H
    clear H
    go_wp2
    go_meet
    case rel => exact ⟨_, (true), (by first | rfl | (simp; done) | (simp [*]; done)), H', ⟨by first | omega | exact Nat.le_refl _⟩, ⟨by (with_reducible repeat (first | apply blN | apply blD | apply blA)); exact BK782.out⟩, ⟨by repeat (first | (with_reducible first | exact HB.out | apply below_alloc | apply pw_below_drewN | apply below_drew1 | refine below_set ?_ GE782.out) | exact HB.out)⟩⟩
  ·replace c17 := Bool.eq_false_iff.mpr c17
   subst c17
   have H1 : (law08_PairTells.j0 k l0 l1 l2 false true a3_0 a3_1 a3_2 a3_3) = some r := by rw [if_neg (show ¬ (false = true) by decide)] at H; exact H
   clear H
   have H := H1
   clear H1
   have H' := Aside0.mk H
   clear H
   go_wp2
   go_meet
   case rel => exact ⟨_, (true), (by first | rfl | (simp; done) | (simp [*]; done)), H', ⟨by first | omega | exact Nat.le_refl _⟩, ⟨by (with_reducible repeat (first | apply blN | apply blD | apply blA)); exact BK782.out⟩, ⟨by repeat (first | (with_reducible first | exact HB.out | apply below_alloc | apply pw_below_drewN | apply below_drew1 | refine below_set ?_ GE782.out) | exact HB.out)⟩⟩
 case rest =>
  clear HC10
  try clear c1
  try clear c2
  try clear p2
  try clear c4
  try clear c14
  try clear c17
  try clear c18
  try clear c19
  try clear c20
  try clear hcz13_0
  try clear hcz13_1
  try clear hcz13_2
  try clear hcz13_3
  try clear hfz13_0
  try clear hfz13_1
  try clear hfz13_2
  try clear hfz13_3
  obtain ⟨kq, x48_9, rfl, HA, HJ9, BK782, HB⟩ := hcut
  cases kq with
  | zero => exact absurd HA.out (by simp [law08_PairTells.j0])
  | succ kj9 =>
   have H := HA.out
   clear HA
   simp only [law08_PairTells.j0] at H
   by_cases c21 : x48_9 = true
   ·subst c21
    have H1 : (some t783) = some r := by rw [if_pos rfl] at H; exact H
    clear H
    have H := H1
    clear H1
    obtain rfl := Option.some.inj H
    go_wp2
    go_ret
    exact ⟨by first | rfl | (simp [errW_none, errW_some] <;> rfl) | (simp [*, errW_none, errW_some] <;> rfl), by repeat (first | (with_reducible first | exact HB.out | apply below_alloc | apply pw_below_drewN | apply below_drew1 | refine below_set ?_ GE782.out) | exact HB.out)⟩
   ·replace c21 := Bool.eq_false_iff.mpr c21
    subst c21
    have H1 : ((ref08_May.f kj9 l1).bind fun t791 => ((pair_Add.f l1 a3_0 a3_1 a3_2 a3_3).bind fun t792 => ((ref08_Add.f kj9 l1 a3_0 a3_1 a3_2 a3_3).bind fun t795 => ((ref08_Same.f kj9 t792 t795).bind fun t798 => ((pair_Del.f l1 a3_0 a3_1).bind fun t799 => ((ref08_Del.f kj9 l1 a3_0 a3_1).bind fun t802 => ((ref08_Same.f kj9 t799 t802).bind fun t805 => ((pair_Merge.f l0 l1 l2).bind fun t806 => ((ref08_Merge.f kj9 l0 l1 l2).bind fun t809 => ((ref08_Same.f kj9 t806 t809).bind fun t812 => ((pair_Elems.f l1 a3_0).bind fun t813 => ((ref08_Elems.f kj9 l1 a3_0).bind fun t816 => ((law08_texts.f kj9 t813 t816).bind fun t819 => (law08_PairTells.l0 kj9 l1 t791 t798 t805 t812 t819 0 a3_0 a3_1 a3_2 a3_3)))))))))))))) = some r := by rw [if_neg (show ¬ (false = true) by decide)] at H; exact H
    clear H
    have H := H1
    clear H1
    replace H := Option.bind_eq_some_iff.mp H
    obtain ⟨t791, A220, H⟩ := H
    replace H : ((pair_Add.f l1 a3_0 a3_1 a3_2 a3_3).bind fun t792 => ((ref08_Add.f kj9 l1 a3_0 a3_1 a3_2 a3_3).bind fun t795 => ((ref08_Same.f kj9 t792 t795).bind fun t798 => ((pair_Del.f l1 a3_0 a3_1).bind fun t799 => ((ref08_Del.f kj9 l1 a3_0 a3_1).bind fun t802 => ((ref08_Same.f kj9 t799 t802).bind fun t805 => ((pair_Merge.f l0 l1 l2).bind fun t806 => ((ref08_Merge.f kj9 l0 l1 l2).bind fun t809 => ((ref08_Same.f kj9 t806 t809).bind fun t812 => ((pair_Elems.f l1 a3_0).bind fun t813 => ((ref08_Elems.f kj9 l1 a3_0).bind fun t816 => ((law08_texts.f kj9 t813 t816).bind fun t819 => (law08_PairTells.l0 kj9 l1 t791 t798 t805 t812 t819 0 a3_0 a3_1 a3_2 a3_3))))))))))))) = some r := H
    have A22 := Aside0.mk A220
    clear A220
    replace H := Option.bind_eq_some_iff.mp H
    obtain ⟨t792, A230, H⟩ := H
    replace H : ((ref08_Add.f kj9 l1 a3_0 a3_1 a3_2 a3_3).bind fun t795 => ((ref08_Same.f kj9 t792 t795).bind fun t798 => ((pair_Del.f l1 a3_0 a3_1).bind fun t799 => ((ref08_Del.f kj9 l1 a3_0 a3_1).bind fun t802 => ((ref08_Same.f kj9 t799 t802).bind fun t805 => ((pair_Merge.f l0 l1 l2).bind fun t806 => ((ref08_Merge.f kj9 l0 l1 l2).bind fun t809 => ((ref08_Same.f kj9 t806 t809).bind fun t812 => ((pair_Elems.f l1 a3_0).bind fun t813 => ((ref08_Elems.f kj9 l1 a3_0).bind fun t816 => ((law08_texts.f kj9 t813 t816).bind fun t819 => (law08_PairTells.l0 kj9 l1 t791 t798 t805 t812 t819 0 a3_0 a3_1 a3_2 a3_3)))))))))))) = some r := H
    have A23 := Aside0.mk A230
    clear A230
    replace H := Option.bind_eq_some_iff.mp H
    obtain ⟨t795, A240, H⟩ := H
    replace H : ((ref08_Same.f kj9 t792 t795).bind fun t798 => ((pair_Del.f l1 a3_0 a3_1).bind fun t799 => ((ref08_Del.f kj9 l1 a3_0 a3_1).bind fun t802 => ((ref08_Same.f kj9 t799 t802).bind fun t805 => ((pair_Merge.f l0 l1 l2).bind fun t806 => ((ref08_Merge.f kj9 l0 l1 l2).bind fun t809 => ((ref08_Same.f kj9 t806 t809).bind fun t812 => ((pair_Elems.f l1 a3_0).bind fun t813 => ((ref08_Elems.f kj9 l1 a3_0).bind fun t816 => ((law08_texts.f kj9 t813 t816).bind fun t819 => (law08_PairTells.l0 kj9 l1 t791 t798 t805 t812 t819 0 a3_0 a3_1 a3_2 a3_3))))))))))) = some r := H
    have A24 := Aside0.mk A240
    clear A240
    replace H := Option.bind_eq_some_iff.mp H
    obtain ⟨t798, A250, H⟩ := H
    replace H : ((pair_Del.f l1 a3_0 a3_1).bind fun t799 => ((ref08_Del.f kj9 l1 a3_0 a3_1).bind fun t802 => ((ref08_Same.f kj9 t799 t802).bind fun t805 => ((pair_Merge.f l0 l1 l2).bind fun t806 => ((ref08_Merge.f kj9 l0 l1 l2).bind fun t809 => ((ref08_Same.f kj9 t806 t809).bind fun t812 => ((pair_Elems.f l1 a3_0).bind fun t813 => ((ref08_Elems.f kj9 l1 a3_0).bind fun t816 => ((law08_texts.f kj9 t813 t816).bind fun t819 => (law08_PairTells.l0 kj9 l1 t791 t798 t805 t812 t819 0 a3_0 a3_1 a3_2 a3_3)))))))))) = some r := H
    have A25 := Aside0.mk A250
    clear A250
    replace H := Option.bind_eq_some_iff.mp H
    obtain ⟨t799, A260, H⟩ := H
    replace H : ((ref08_Del.f kj9 l1 a3_0 a3_1).bind fun t802 => ((ref08_Same.f kj9 t799 t802).bind fun t805 => ((pair_Merge.f l0 l1 l2).bind fun t806 => ((ref08_Merge.f kj9 l0 l1 l2).bind fun t809 => ((ref08_Same.f kj9 t806 t809).bind fun t812 => ((pair_Elems.f l1 a3_0).bind fun t813 => ((ref08_Elems.f kj9 l1 a3_0).bind fun t816 => ((law08_texts.f kj9 t813 t816).bind fun t819 => (law08_PairTells.l0 kj9 l1 t791 t798 t805 t812 t819 0 a3_0 a3_1 a3_2 a3_3))))))))) = some r := H
    have A26 := Aside0.mk A260
    clear A260
    replace H := Option.bind_eq_some_iff.mp H
    obtain ⟨t802, A270, H⟩ := H
    replace H : ((ref08_Same.f kj9 t799 t802).bind fun t805 => ((pair_Merge.f l0 l1 l2).bind fun t806 => ((ref08_Merge.f kj9 l0 l1 l2).bind fun t809 => ((ref08_Same.f kj9 t806 t809).bind fun t812 => ((pair_Elems.f l1 a3_0).bind fun t813 => ((ref08_Elems.f kj9 l1 a3_0).bind fun t816 => ((law08_texts.f kj9 t813 t816).bind fun t819 => (law08_PairTells.l0 kj9 l1 t791 t798 t805 t812 t819 0 a3_0 a3_1 a3_2 a3_3)))))))) = some r := H
    have A27 := Aside0.mk A270
    clear A270
    replace H := Option.bind_eq_some_iff.mp H
    obtain ⟨t805, A280, H⟩ := H
    replace H : ((pair_Merge.f l0 l1 l2).bind fun t806 => ((ref08_Merge.f kj9 l0 l1 l2).bind fun t809 => ((ref08_Same.f kj9 t806 t809).bind fun t812 => ((pair_Elems.f l1 a3_0).bind fun t813 => ((ref08_Elems.f kj9 l1 a3_0).bind fun t816 => ((law08_texts.f kj9 t813 t816).bind fun t819 => (law08_PairTells.l0 kj9 l1 t791 t798 t805 t812 t819 0 a3_0 a3_1 a3_2 a3_3))))))) = some r := H
    have A28 := Aside0.mk A280
    clear A280
    replace H := Option.bind_eq_some_iff.mp H
    obtain ⟨t806, A290, H⟩ := H
    replace H : ((ref08_Merge.f kj9 l0 l1 l2).bind fun t809 => ((ref08_Same.f kj9 t806 t809).bind fun t812 => ((pair_Elems.f l1 a3_0).bind fun t813 => ((ref08_Elems.f kj9 l1 a3_0).bind fun t816 => ((law08_texts.f kj9 t813 t816).bind fun t819 => (law08_PairTells.l0 kj9 l1 t791 t798 t805 t812 t819 0 a3_0 a3_1 a3_2 a3_3)))))) = some r := H
    have A29 := Aside0.mk A290
    clear A290
    replace H := Option.bind_eq_some_iff.mp H
    obtain ⟨t809, A300, H⟩ := H
    replace H : ((ref08_Same.f kj9 t806 t809).bind fun t812 => ((pair_Elems.f l1 a3_0).bind fun t813 => ((ref08_Elems.f kj9 l1 a3_0).bind fun t816 => ((law08_texts.f kj9 t813 t816).bind fun t819 => (law08_PairTells.l0 kj9 l1 t791 t798 t805 t812 t819 0 a3_0 a3_1 a3_2 a3_3))))) = some r := H
    have A30 := Aside0.mk A300
    clear A300
    replace H := Option.bind_eq_some_iff.mp H
    obtain ⟨t812, A310, H⟩ := H
    replace H : ((pair_Elems.f l1 a3_0).bind fun t813 => ((ref08_Elems.f kj9 l1 a3_0).bind fun t816 => ((law08_texts.f kj9 t813 t816).bind fun t819 => (law08_PairTells.l0 kj9 l1 t791 t798 t805 t812 t819 0 a3_0 a3_1 a3_2 a3_3)))) = some r := H
    have A31 := Aside0.mk A310
    clear A310
    replace H := Option.bind_eq_some_iff.mp H
    obtain ⟨t813, A320, H⟩ := H
    replace H : ((ref08_Elems.f kj9 l1 a3_0).bind fun t816 => ((law08_texts.f kj9 t813 t816).bind fun t819 => (law08_PairTells.l0 kj9 l1 t791 t798 t805 t812 t819 0 a3_0 a3_1 a3_2 a3_3))) = some r := H
    have A32 := Aside0.mk A320
    clear A320
    replace H := Option.bind_eq_some_iff.mp H
    obtain ⟨t816, A330, H⟩ := H
    replace H : ((law08_texts.f kj9 t813 t816).bind fun t819 => (law08_PairTells.l0 kj9 l1 t791 t798 t805 t812 t819 0 a3_0 a3_1 a3_2 a3_3)) = some r := H
    have A33 := Aside0.mk A330
    clear A330
    replace H := Option.bind_eq_some_iff.mp H
    obtain ⟨t819, A340, H⟩ := H
    replace H : (law08_PairTells.l0 kj9 l1 t791 t798 t805 t812 t819 0 a3_0 a3_1 a3_2 a3_3) = some r := H
    have A34 := Aside0.mk A340
    clear A340
    have H' := Aside0.mk H
    clear H
    try go_wp2_with (first | ((with_reducible refine gate_callee (f := 47) rfl ?_); refine goesL_ (some 51) rfl rfl Try.func47 (by kernel_rfl) rfl #[.slice A1 l1.length c1] rfl (by (try simp only [List.map_toArray, List.map_cons, List.map_nil]); first | done | rfl | (simp only [List.length_drop, List.length_take]; rfl)) ?_; (with_reducible refine (ref08_May.calls kj9 _ _ l1 t791 _ ?side1 ?side2 A22.out).mono ?_); (case side1 => repeat (first | exact (Kd.C_below HR1.out HB.out) | (with_reducible refine Kd.C_alloc ?_ _) | (with_reducible refine Kd.C_drewN ?_ _) | (with_reducible refine Kd.C_drew ?_))); (case side2 => exact HC1.out); rintro e w35 ⟨rfl, hb⟩; refine ⟨_, rfl, ?_⟩; have n0_ := Aside0.mk (blk_below (g := gb782) (o := .cells #[.string a3_0, .string a3_1, .int .i64 a3_2, .int .i64 a3_3] 57 (0, 0)) (by (with_reducible repeat (first | apply blN | apply blD | apply blA)); exact BK782.out) hb); have n1_ := Aside0.mk (below_step (by repeat (first | (with_reducible first | exact HB.out | apply below_alloc | apply pw_below_drewN | apply below_drew1 | refine below_set ?_ GE782.out) | exact HB.out)) hb); clear BK782; clear HB; have BK782 := n0_; have HB := n1_; clear n0_ n1_; (try clear hb); (try clear hb2); (try clear hk); (try clear hi)))
    have n0_ := Aside0.mk (blk_drew BK782.out)
    have n1_ := Aside0.mk (below_drew1 HB.out)
    clear BK782
    clear HB
    have BK782 := n0_
    have HB := n1_
    clear n0_ n1_
    refine start_ (n := 8) (S := fun w' => w'.cell? ⟨gb782, 0, none⟩ = some (.string a3_0) ∧ w'.cell? ⟨gb782, 1, none⟩ = some (.string a3_1) ∧ w'.cell? ⟨gb782, 2, none⟩ = some (.int .i64 a3_2) ∧ w'.cell? ⟨gb782, 3, none⟩ = some (.int .i64 a3_3)) (ds := []) #[O,O,O,O,O,O,O,O] (by kernel_rfl) rfl rfl ⟨(blk_cell BK782.out 0).trans rfl, (blk_cell BK782.out 1).trans rfl, (blk_cell BK782.out 2).trans rfl, (blk_cell BK782.out 3).trans rfl⟩ (fun hHeld => ?_); refine with_tabW law08_PairTells.tab9 law08_PairTells.bits9 (fun HT_ HW_ => ?_)
    generalize w35.drew = w36 at BK782 HB hHeld ⊢
    refine sqP (i := 0) (N := some 52) (v := ?_) (a' := ?_) #[I,O,O,O,O,O,O,O] rfl rfl HT_.out (Or.inl ⟨by rfl, ?_⟩) ?_ ?_
    rotate_left
    ·intro w'
     go_simp
     with_reducible rfl
    rotate_left
    ·simp only [Act.put, sqA, sqB, sqC, i64_w, i32_w]
     rfl
    refine sqP (i := 3) (N := some 55) (v := ?_) (a' := ?_) #[I,O,O,I,O,O,O,O] rfl rfl HT_.out (Or.inl ⟨by rfl, ?_⟩) ?_ ?_
    rotate_left
    ·intro w'
     go_simp
     with_reducible rfl
    rotate_left
    ·simp only [Act.put, sqA, sqB, sqC, i64_w, i32_w]
     rfl
    refine take_ (i := 1) (N := some 53) (v := ?_) (a' := ?_) #[I,I,O,I,O,O,O,O] rfl rfl (take_ofW HT_.out HW_.out (by kernel_rfl)) (fun _ _ _ h => h) (Or.inl ⟨by rfl, ?_⟩) hHeld ?_ ?_
    rotate_left
    ·rintro w' ⟨s0, s1, s2, s3⟩
     go_simp
     with_reducible rfl
    rotate_left
    ·simp only [Act.put, sqA, sqB, sqC, i64_w, i32_w]
     rfl
    refine take_ (i := 4) (N := some 56) (v := ?_) (a' := ?_) #[I,I,O,I,I,O,O,O] rfl rfl (take_ofW HT_.out HW_.out (by kernel_rfl)) (fun _ _ _ h => h) (Or.inl ⟨by rfl, ?_⟩) hHeld ?_ ?_
    rotate_left
    ·rintro w' ⟨s0, s1, s2, s3⟩
     go_simp
     with_reducible rfl
    rotate_left
    ·simp only [Act.put, sqA, sqB, sqC, i64_w, i32_w]
     rfl
    refine one_ (i := 2) (N := some 54) #[I,I,I,I,I,O,O,O] rfl rfl (one_of HT_.out (by kernel_rfl)) (by decide) (fun K hK => ?_)
    refine goes_ Try.func49 (by kernel_rfl) rfl #[.slice A1 l1.length c1, .agg #[.string a3_0, .string a3_1, .int .i64 a3_2, .int .i64 a3_3]] (by rfl) rfl rfl (by (try simp only [List.map_toArray, List.map_cons, List.map_nil]); first | done | rfl | (simp only [List.length_drop, List.length_take]; rfl)) ?_
    with_reducible refine (pair_Add.calls _ _ l1 a3_0 a3_1 a3_2 a3_3 t792 _ ?side1 ?side2 A23.out).mono ?_
    (case side1 => repeat (first | exact (Kd.C_below HR1.out HB.out) | (with_reducible refine Kd.C_alloc ?_ _) | (with_reducible refine Kd.C_drewN ?_ _) | (with_reducible refine Kd.C_drew ?_)))
    (case side2 => exact HC1.out)
    rintro e w37 ⟨v793, rfl, ho0, hb⟩
    refine ⟨_, rfl, ?_⟩
    have n0_ := Aside0.mk (Kd.R_lower (Kd.R_newB ho0 (g := gb782) (o := .cells #[.string a3_0, .string a3_1, .int .i64 a3_2, .int .i64 a3_3] 57 (0, 0)) (by (with_reducible repeat (first | apply blN | apply blD | apply blA)); exact BK782.out)) (below_size (by repeat (first | (with_reducible first | exact HB.out | apply below_alloc | apply pw_below_drewN | apply below_drew1 | refine below_set ?_ GE782.out) | exact HB.out))))
    have n1_ := Aside0.mk (blk_below (g := gb782) (o := .cells #[.string a3_0, .string a3_1, .int .i64 a3_2, .int .i64 a3_3] 57 (0, 0)) (by (with_reducible repeat (first | apply blN | apply blD | apply blA)); exact BK782.out) hb)
    have n2_ := Aside0.mk (below_step (by repeat (first | (with_reducible first | exact HB.out | apply below_alloc | apply pw_below_drewN | apply below_drew1 | refine below_set ?_ GE782.out) | exact HB.out)) hb)
    clear BK782
    clear HB
    have HO794 := n0_
    have BK782 := n1_
    have HB := n2_
    clear n0_ n1_ n2_
    (try clear hb)
    (try clear hb2)
    (try clear hk)
    (try clear hi)
    (try clear ho0)
    refine hK.out _ _ ⟨(blk_cell BK782.out 0).trans rfl, (blk_cell BK782.out 1).trans rfl, (blk_cell BK782.out 2).trans rfl, (blk_cell BK782.out 3).trans rfl⟩ (fun hHeld => ?_)
    clear hK K
    refine norm_ (a' := ?_) ?_ ?_
    rotate_left
    ·show Act.put _ (some 54) _ = _
     simp only [Act.put, sqA, sqB, sqC, i64_w, i32_w]
     rfl
    refine one_ (i := 5) (N := some 57) #[I,I,I,I,I,I,O,O] rfl rfl (one_of HT_.out (by kernel_rfl)) (by decide) (fun K hK => ?_)
    refine goes_ Try.func50 (by kernel_rfl) rfl #[.slice A1 l1.length c1, .agg #[.string a3_0, .string a3_1, .int .i64 a3_2, .int .i64 a3_3]] (by rfl) rfl rfl (by (try simp only [List.map_toArray, List.map_cons, List.map_nil]); first | done | rfl | (simp only [List.length_drop, List.length_take]; rfl)) ?_
    with_reducible refine (ref08_Add.calls kj9 _ _ l1 a3_0 a3_1 a3_2 a3_3 t795 _ ?side1 ?side2 A24.out).mono ?_
    (case side1 => repeat (first | exact (Kd.C_below HR1.out HB.out) | (with_reducible refine Kd.C_alloc ?_ _) | (with_reducible refine Kd.C_drewN ?_ _) | (with_reducible refine Kd.C_drew ?_)))
    (case side2 => exact HC1.out)
    rintro e w38 ⟨v796, rfl, ho0, hb⟩
    refine ⟨_, rfl, ?_⟩
    have n0_ := Aside0.mk (Kd.R_elder' (by (with_reducible repeat (first | apply Kd.R_alloc | apply Kd.R_drewN | apply Kd.R_drew)); exact HO794.out) (Kd.R_base ho0) hb)
    have n1_ := Aside0.mk (Kd.R_lower (Kd.R_newB (Kd.R_new' ho0 (Kd.R_lt (by (with_reducible repeat (first | apply Kd.R_alloc | apply Kd.R_drewN | apply Kd.R_drew)); exact HO794.out))) (g := gb782) (o := .cells #[.string a3_0, .string a3_1, .int .i64 a3_2, .int .i64 a3_3] 57 (0, 0)) (by (with_reducible repeat (first | apply blN | apply blD | apply blA)); exact BK782.out)) (below_size (by repeat (first | (with_reducible first | exact HB.out | apply below_alloc | apply pw_below_drewN | apply below_drew1 | refine below_set ?_ GE782.out) | exact HB.out))))
    have n2_ := Aside0.mk (blk_below (g := gb782) (o := .cells #[.string a3_0, .string a3_1, .int .i64 a3_2, .int .i64 a3_3] 57 (0, 0)) (by (with_reducible repeat (first | apply blN | apply blD | apply blA)); exact BK782.out) hb)
    have n3_ := Aside0.mk (below_step (by repeat (first | (with_reducible first | exact HB.out | apply below_alloc | apply pw_below_drewN | apply below_drew1 | refine below_set ?_ GE782.out) | exact HB.out)) hb)
    clear HO794
    clear BK782
    clear HB
    have HO794 := n0_
    have HO797 := n1_
    have BK782 := n2_
    have HB := n3_
    clear n0_ n1_ n2_ n3_
    (try clear hb)
    (try clear hb2)
    (try clear hk)
    (try clear hi)
    (try clear ho0)
    obtain ⟨Ao39, co39, eo39⟩ := Kd.R_slice HO794.out
    (first | subst eo39 | (injection eo39 with f1_ f2_ f3_; have f4_ := f1_.symm; have f5_ := f3_.symm; clear f1_ f2_ f3_; subst f4_; subst f5_))
    obtain ⟨Ao40, co40, eo40⟩ := Kd.R_slice HO797.out
    (first | subst eo40 | (injection eo40 with f1_ f2_ f3_; have f4_ := f1_.symm; have f5_ := f3_.symm; clear f1_ f2_ f3_; subst f4_; subst f5_))
    refine hK.out _ _ ⟨(blk_cell BK782.out 0).trans rfl, (blk_cell BK782.out 1).trans rfl, (blk_cell BK782.out 2).trans rfl, (blk_cell BK782.out 3).trans rfl⟩ (fun hHeld => ?_)
    clear hK K
    refine norm_ (a' := ?_) ?_ ?_
    rotate_left
    ·show Act.put _ (some 57) _ = _
     simp only [Act.put, sqA, sqB, sqC, i64_w, i32_w]
     rfl
    refine one_ (i := 6) (N := some 58) #[I,I,I,I,I,I,I,O] rfl rfl (one_of HT_.out (by kernel_rfl)) (by decide) (fun K hK => ?_)
    refine goes_ Try.func48 (by kernel_rfl) rfl #[.slice Ao39 t792.length co39, .slice Ao40 t795.length co40] (by rfl) rfl rfl (by (try simp only [List.map_toArray, List.map_cons, List.map_nil]); first | done | rfl | (simp only [List.length_drop, List.length_take]; rfl)) ?_
    with_reducible refine (ref08_Same.calls kj9 _ _ t792 _ _ t795 t798 _ ?side1 ?side2 ?side3 ?side4 A25.out).mono ?_
    (case side1 => repeat (first | exact (Kd.R_reads' HO794.out).2.2 | (with_reducible refine Kd.C_alloc ?_ _) | (with_reducible refine Kd.C_drewN ?_ _) | (with_reducible refine Kd.C_drew ?_)))
    (case side2 => exact (Kd.R_reads' HO794.out).2.1)
    (case side3 => repeat (first | exact (Kd.R_reads' HO797.out).2.2 | (with_reducible refine Kd.C_alloc ?_ _) | (with_reducible refine Kd.C_drewN ?_ _) | (with_reducible refine Kd.C_drew ?_)))
    (case side4 => exact (Kd.R_reads' HO797.out).2.1)
    rintro e w' ⟨rfl, ⟨nd, rfl⟩⟩
    refine ⟨_, rfl, ?_⟩
    refine hK.out _ _ ⟨(blk_cell BK782.out 0).trans rfl, (blk_cell BK782.out 1).trans rfl, (blk_cell BK782.out 2).trans rfl, (blk_cell BK782.out 3).trans rfl⟩ (fun hHeld => ?_)
    clear hK K
    refine norm_ (a' := ?_) ?_ ?_
    rotate_left
    ·show Act.put _ (some 58) _ = _
     simp only [Act.put, sqA, sqB, sqC, i64_w, i32_w]
     rfl
    refine sqP (i := 7) (N := some 15) (v := ?_) (a' := ?_) #[I,I,I,I,I,I,I,I] rfl rfl HT_.out (Or.inl ⟨by rfl, ?_⟩) ?_ ?_
    rotate_left
    ·intro w'
     go_simp
     with_reducible rfl
    rotate_left
    ·simp only [Act.put, sqA, sqB, sqC, i64_w, i32_w]
     rfl
    refine done_ (done_of HT_.out (by kernel_rfl)) ?_
    try go_wp2
    (try (rw [drewN_self w38]; generalize hq_ : World.drewN w38 _ = w38; have n0_ : Aside0 (Kd.R k57 57 w38 w.heap.size (fun k_ => some k_ ≠ (.slice Ao40 t795.length co40 : Value).ownBlock ∧ k_ ≠ gb782) (.slice Ao39 t792.length co39) t792) := ⟨by rw [← hq_]; exact (by (with_reducible repeat (first | apply Kd.R_alloc | apply Kd.R_drewN | apply Kd.R_drew)); exact Kd.R_mono HO794.out (fun _ hk => by simp only [ne_eq, hk, not_false_eq_true, and_self]))⟩; have n1_ : Aside0 (Kd.R k57 57 w38 w.heap.size (fun k_ => some k_ ≠ (.slice Ao39 t792.length co39 : Value).ownBlock ∧ k_ ≠ gb782) (.slice Ao40 t795.length co40) t795) := ⟨by rw [← hq_]; exact (by (with_reducible repeat (first | apply Kd.R_alloc | apply Kd.R_drewN | apply Kd.R_drew)); exact Kd.R_mono HO797.out (fun _ hk => by simp only [ne_eq, hk, not_false_eq_true, and_self]))⟩; have n2_ : Aside0 (w38.heap[gb782]? = some (.cells #[.string a3_0, .string a3_1, .int .i64 a3_2, .int .i64 a3_3] 57 (0, 0))) := ⟨by rw [← hq_]; exact (by (with_reducible repeat (first | apply blN | apply blD | apply blA)); exact BK782.out)⟩; have n3_ : Aside0 (Below w.heap.size w w38) := ⟨by rw [← hq_]; exact (by repeat (first | (with_reducible first | exact HB.out | apply below_alloc | apply pw_below_drewN | apply below_drew1 | refine below_set ?_ GE782.out) | exact HB.out))⟩; clear HO794 HO797 BK782 HB hq_; have HO794 := n0_; have HO797 := n1_; have BK782 := n2_; have HB := n3_; clear n0_ n1_ n2_ n3_))
    have n0_ := Aside0.mk (Kd.R_drew HO794.out)
    have n1_ := Aside0.mk (Kd.R_drew HO797.out)
    have n2_ := Aside0.mk (blk_drew BK782.out)
    have n3_ := Aside0.mk (below_drew1 HB.out)
    clear HO794
    clear HO797
    clear BK782
    clear HB
    have HO794 := n0_
    have HO797 := n1_
    have BK782 := n2_
    have HB := n3_
    clear n0_ n1_ n2_ n3_
    refine start_ (n := 14) (S := fun w' => w'.cell? ⟨gb782, 0, none⟩ = some (.string a3_0) ∧ w'.cell? ⟨gb782, 1, none⟩ = some (.string a3_1) ∧ w'.cell? ⟨gb782, 2, none⟩ = some (.int .i64 a3_2) ∧ w'.cell? ⟨gb782, 3, none⟩ = some (.int .i64 a3_3)) (ds := []) #[O,O,O,O,O,O,O,O,O,O,O,O,O,O] (by kernel_rfl) rfl rfl ⟨(blk_cell BK782.out 0).trans rfl, (blk_cell BK782.out 1).trans rfl, (blk_cell BK782.out 2).trans rfl, (blk_cell BK782.out 3).trans rfl⟩ (fun hHeld => ?_); refine with_tabW law08_PairTells.tab10 law08_PairTells.bits10 (fun HT_ HW_ => ?_)
    generalize w38.drew = w41 at HO794 HO797 BK782 HB hHeld ⊢
    refine sqP (i := 0) (N := some 59) (v := ?_) (a' := ?_) #[I,O,O,O,O,O,O,O,O,O,O,O,O,O] rfl rfl HT_.out (Or.inl ⟨by rfl, ?_⟩) ?_ ?_
    rotate_left
    ·intro w'
     go_simp
     with_reducible rfl
    rotate_left
    ·simp only [Act.put, sqA, sqB, sqC, i64_w, i32_w]
     rfl
    refine sqP (i := 1) (N := some 60) (v := ?_) (a' := ?_) #[I,I,O,O,O,O,O,O,O,O,O,O,O,O] rfl rfl HT_.out (Or.inl ⟨by rfl, ?_⟩) ?_ ?_
    rotate_left
    ·intro w'
     go_simp
     with_reducible rfl
    rotate_left
    ·simp only [Act.put, sqA, sqB, sqC, i64_w, i32_w]
     rfl
    refine sqP (i := 3) (N := some 62) (v := ?_) (a' := ?_) #[I,I,O,I,O,O,O,O,O,O,O,O,O,O] rfl rfl HT_.out (Or.inl ⟨by rfl, ?_⟩) ?_ ?_
    rotate_left
    ·intro w'
     go_simp
     with_reducible rfl
    rotate_left
    ·simp only [Act.put, sqA, sqB, sqC, i64_w, i32_w]
     rfl
    refine sqP (i := 6) (N := some 65) (v := ?_) (a' := ?_) #[I,I,O,I,O,O,I,O,O,O,O,O,O,O] rfl rfl HT_.out (Or.inl ⟨by rfl, ?_⟩) ?_ ?_
    rotate_left
    ·intro w'
     go_simp
     with_reducible rfl
    rotate_left
    ·simp only [Act.put, sqA, sqB, sqC, i64_w, i32_w]
     rfl
    refine sqP (i := 7) (N := some 66) (v := ?_) (a' := ?_) #[I,I,O,I,O,O,I,I,O,O,O,O,O,O] rfl rfl HT_.out (Or.inl ⟨by rfl, ?_⟩) ?_ ?_
    rotate_left
    ·intro w'
     go_simp
     with_reducible rfl
    rotate_left
    ·simp only [Act.put, sqA, sqB, sqC, i64_w, i32_w]
     rfl
    refine sqP (i := 9) (N := some 68) (v := ?_) (a' := ?_) #[I,I,O,I,O,O,I,I,O,I,O,O,O,O] rfl rfl HT_.out (Or.inl ⟨by rfl, ?_⟩) ?_ ?_
    rotate_left
    ·intro w'
     go_simp
     with_reducible rfl
    rotate_left
    ·simp only [Act.put, sqA, sqB, sqC, i64_w, i32_w]
     rfl
    refine take_ (i := 2) (N := some 61) (v := ?_) (a' := ?_) #[I,I,I,I,O,O,I,I,O,I,O,O,O,O] rfl rfl (take_ofW HT_.out HW_.out (by kernel_rfl)) (fun _ _ _ h => h) (Or.inl ⟨by rfl, ?_⟩) hHeld ?_ ?_
    rotate_left
    ·rintro w' ⟨s0, s1, s2, s3⟩
     go_simp
     with_reducible rfl
    rotate_left
    ·simp only [Act.put, sqA, sqB, sqC, i64_w, i32_w]
     rfl
    refine take_ (i := 4) (N := some 63) (v := ?_) (a' := ?_) #[I,I,I,I,I,O,I,I,O,I,O,O,O,O] rfl rfl (take_ofW HT_.out HW_.out (by kernel_rfl)) (fun _ _ _ h => h) (Or.inl ⟨by rfl, ?_⟩) hHeld ?_ ?_
    rotate_left
    ·rintro w' ⟨s0, s1, s2, s3⟩
     go_simp
     with_reducible rfl
    rotate_left
    ·simp only [Act.put, sqA, sqB, sqC, i64_w, i32_w]
     rfl
    refine take_ (i := 8) (N := some 67) (v := ?_) (a' := ?_) #[I,I,I,I,I,O,I,I,I,I,O,O,O,O] rfl rfl (take_ofW HT_.out HW_.out (by kernel_rfl)) (fun _ _ _ h => h) (Or.inl ⟨by rfl, ?_⟩) hHeld ?_ ?_
    rotate_left
    ·rintro w' ⟨s0, s1, s2, s3⟩
     go_simp
     with_reducible rfl
    rotate_left
    ·simp only [Act.put, sqA, sqB, sqC, i64_w, i32_w]
     rfl
    refine take_ (i := 10) (N := some 69) (v := ?_) (a' := ?_) #[I,I,I,I,I,O,I,I,I,I,I,O,O,O] rfl rfl (take_ofW HT_.out HW_.out (by kernel_rfl)) (fun _ _ _ h => h) (Or.inl ⟨by rfl, ?_⟩) hHeld ?_ ?_
    rotate_left
    ·rintro w' ⟨s0, s1, s2, s3⟩
     go_simp
     with_reducible rfl
    rotate_left
    ·simp only [Act.put, sqA, sqB, sqC, i64_w, i32_w]
     rfl
    refine one_ (i := 5) (N := some 64) #[I,I,I,I,I,I,I,I,I,I,I,O,O,O] rfl rfl (one_of HT_.out (by kernel_rfl)) (by decide) (fun K hK => ?_)
    refine goes_ Try.func51 (by kernel_rfl) rfl #[.slice A1 l1.length c1, .string a3_0, .string a3_1] (by rfl) rfl rfl (by (try simp only [List.map_toArray, List.map_cons, List.map_nil]); first | done | rfl | (simp only [List.length_drop, List.length_take]; rfl)) ?_
    with_reducible refine (pair_Del.calls _ _ l1 a3_0 a3_1 t799 _ ?side1 ?side2 A26.out).mono ?_
    (case side1 => repeat (first | exact (Kd.C_below HR1.out HB.out) | (with_reducible refine Kd.C_alloc ?_ _) | (with_reducible refine Kd.C_drewN ?_ _) | (with_reducible refine Kd.C_drew ?_)))
    (case side2 => exact HC1.out)
    rintro e w42 ⟨v800, rfl, ho0, hb⟩
    refine ⟨_, rfl, ?_⟩
    have n0_ := Aside0.mk (Kd.R_elder' (by (with_reducible repeat (first | apply Kd.R_alloc | apply Kd.R_drewN | apply Kd.R_drew)); exact HO794.out) (Kd.R_base ho0) hb)
    have n1_ := Aside0.mk (Kd.R_elder' (by (with_reducible repeat (first | apply Kd.R_alloc | apply Kd.R_drewN | apply Kd.R_drew)); exact HO797.out) (Kd.R_base ho0) hb)
    have n2_ := Aside0.mk (Kd.R_lower (Kd.R_newB (Kd.R_new' (Kd.R_new' ho0 (Kd.R_lt (by (with_reducible repeat (first | apply Kd.R_alloc | apply Kd.R_drewN | apply Kd.R_drew)); exact HO794.out))) (Kd.R_lt (by (with_reducible repeat (first | apply Kd.R_alloc | apply Kd.R_drewN | apply Kd.R_drew)); exact HO797.out))) (g := gb782) (o := .cells #[.string a3_0, .string a3_1, .int .i64 a3_2, .int .i64 a3_3] 57 (0, 0)) (by (with_reducible repeat (first | apply blN | apply blD | apply blA)); exact BK782.out)) (below_size (by repeat (first | (with_reducible first | exact HB.out | apply below_alloc | apply pw_below_drewN | apply below_drew1 | refine below_set ?_ GE782.out) | exact HB.out))))
    have n3_ := Aside0.mk (blk_below (g := gb782) (o := .cells #[.string a3_0, .string a3_1, .int .i64 a3_2, .int .i64 a3_3] 57 (0, 0)) (by (with_reducible repeat (first | apply blN | apply blD | apply blA)); exact BK782.out) hb)
    have n4_ := Aside0.mk (below_step (by repeat (first | (with_reducible first | exact HB.out | apply below_alloc | apply pw_below_drewN | apply below_drew1 | refine below_set ?_ GE782.out) | exact HB.out)) hb)
    clear HO794
    clear HO797
    clear BK782
    clear HB
    have HO794 := n0_
    have HO797 := n1_
    have HO801 := n2_
    have BK782 := n3_
    have HB := n4_
    clear n0_ n1_ n2_ n3_ n4_
    (try clear hb)
    (try clear hb2)
    (try clear hk)
    (try clear hi)
    (try clear ho0)
    refine hK.out _ _ ⟨(blk_cell BK782.out 0).trans rfl, (blk_cell BK782.out 1).trans rfl, (blk_cell BK782.out 2).trans rfl, (blk_cell BK782.out 3).trans rfl⟩ (fun hHeld => ?_)
    clear hK K
    refine norm_ (a' := ?_) ?_ ?_
    rotate_left
    ·show Act.put _ (some 64) _ = _
     simp only [Act.put, sqA, sqB, sqC, i64_w, i32_w]
     rfl
    refine one_ (i := 11) (N := some 70) #[I,I,I,I,I,I,I,I,I,I,I,I,O,O] rfl rfl (one_of HT_.out (by kernel_rfl)) (by decide) (fun K hK => ?_)
    refine goes_ Try.func52 (by kernel_rfl) rfl #[.slice A1 l1.length c1, .string a3_0, .string a3_1] (by rfl) rfl rfl (by (try simp only [List.map_toArray, List.map_cons, List.map_nil]); first | done | rfl | (simp only [List.length_drop, List.length_take]; rfl)) ?_
    with_reducible refine (ref08_Del.calls kj9 _ _ l1 a3_0 a3_1 t802 _ ?side1 ?side2 A27.out).mono ?_
    (case side1 => repeat (first | exact (Kd.C_below HR1.out HB.out) | (with_reducible refine Kd.C_alloc ?_ _) | (with_reducible refine Kd.C_drewN ?_ _) | (with_reducible refine Kd.C_drew ?_)))
    (case side2 => exact HC1.out)
    rintro e w43 ⟨v803, rfl, ho0, hb⟩
    refine ⟨_, rfl, ?_⟩
    have n0_ := Aside0.mk (Kd.R_elder' (by (with_reducible repeat (first | apply Kd.R_alloc | apply Kd.R_drewN | apply Kd.R_drew)); exact HO794.out) (Kd.R_base ho0) hb)
    have n1_ := Aside0.mk (Kd.R_elder' (by (with_reducible repeat (first | apply Kd.R_alloc | apply Kd.R_drewN | apply Kd.R_drew)); exact HO797.out) (Kd.R_base ho0) hb)
    have n2_ := Aside0.mk (Kd.R_elder' (by (with_reducible repeat (first | apply Kd.R_alloc | apply Kd.R_drewN | apply Kd.R_drew)); exact HO801.out) (Kd.R_base ho0) hb)
    have n3_ := Aside0.mk (Kd.R_lower (Kd.R_newB (Kd.R_new' (Kd.R_new' (Kd.R_new' ho0 (Kd.R_lt (by (with_reducible repeat (first | apply Kd.R_alloc | apply Kd.R_drewN | apply Kd.R_drew)); exact HO794.out))) (Kd.R_lt (by (with_reducible repeat (first | apply Kd.R_alloc | apply Kd.R_drewN | apply Kd.R_drew)); exact HO797.out))) (Kd.R_lt (by (with_reducible repeat (first | apply Kd.R_alloc | apply Kd.R_drewN | apply Kd.R_drew)); exact HO801.out))) (g := gb782) (o := .cells #[.string a3_0, .string a3_1, .int .i64 a3_2, .int .i64 a3_3] 57 (0, 0)) (by (with_reducible repeat (first | apply blN | apply blD | apply blA)); exact BK782.out)) (below_size (by repeat (first | (with_reducible first | exact HB.out | apply below_alloc | apply pw_below_drewN | apply below_drew1 | refine below_set ?_ GE782.out) | exact HB.out))))
    have n4_ := Aside0.mk (blk_below (g := gb782) (o := .cells #[.string a3_0, .string a3_1, .int .i64 a3_2, .int .i64 a3_3] 57 (0, 0)) (by (with_reducible repeat (first | apply blN | apply blD | apply blA)); exact BK782.out) hb)
    have n5_ := Aside0.mk (below_step (by repeat (first | (with_reducible first | exact HB.out | apply below_alloc | apply pw_below_drewN | apply below_drew1 | refine below_set ?_ GE782.out) | exact HB.out)) hb)
    clear HO794
    clear HO797
    clear HO801
    clear BK782
    clear HB
    have HO794 := n0_
    have HO797 := n1_
    have HO801 := n2_
    have HO804 := n3_
    have BK782 := n4_
    have HB := n5_
    clear n0_ n1_ n2_ n3_ n4_ n5_
    (try clear hb)
    (try clear hb2)
    (try clear hk)
    (try clear hi)
    (try clear ho0)
    obtain ⟨Ao44, co44, eo44⟩ := Kd.R_slice HO801.out
    (first | subst eo44 | (injection eo44 with f1_ f2_ f3_; have f4_ := f1_.symm; have f5_ := f3_.symm; clear f1_ f2_ f3_; subst f4_; subst f5_))
    obtain ⟨Ao45, co45, eo45⟩ := Kd.R_slice HO804.out
    (first | subst eo45 | (injection eo45 with f1_ f2_ f3_; have f4_ := f1_.symm; have f5_ := f3_.symm; clear f1_ f2_ f3_; subst f4_; subst f5_))
    refine hK.out _ _ ⟨(blk_cell BK782.out 0).trans rfl, (blk_cell BK782.out 1).trans rfl, (blk_cell BK782.out 2).trans rfl, (blk_cell BK782.out 3).trans rfl⟩ (fun hHeld => ?_)
    clear hK K
    refine norm_ (a' := ?_) ?_ ?_
    rotate_left
    ·show Act.put _ (some 70) _ = _
     simp only [Act.put, sqA, sqB, sqC, i64_w, i32_w]
     rfl
    refine one_ (i := 12) (N := some 71) #[I,I,I,I,I,I,I,I,I,I,I,I,I,O] rfl rfl (one_of HT_.out (by kernel_rfl)) (by decide) (fun K hK => ?_)
    refine goes_ Try.func48 (by kernel_rfl) rfl #[.slice Ao44 t799.length co44, .slice Ao45 t802.length co45] (by rfl) rfl rfl (by (try simp only [List.map_toArray, List.map_cons, List.map_nil]); first | done | rfl | (simp only [List.length_drop, List.length_take]; rfl)) ?_
    with_reducible refine (ref08_Same.calls kj9 _ _ t799 _ _ t802 t805 _ ?side1 ?side2 ?side3 ?side4 A28.out).mono ?_
    (case side1 => repeat (first | exact (Kd.R_reads' HO801.out).2.2 | (with_reducible refine Kd.C_alloc ?_ _) | (with_reducible refine Kd.C_drewN ?_ _) | (with_reducible refine Kd.C_drew ?_)))
    (case side2 => exact (Kd.R_reads' HO801.out).2.1)
    (case side3 => repeat (first | exact (Kd.R_reads' HO804.out).2.2 | (with_reducible refine Kd.C_alloc ?_ _) | (with_reducible refine Kd.C_drewN ?_ _) | (with_reducible refine Kd.C_drew ?_)))
    (case side4 => exact (Kd.R_reads' HO804.out).2.1)
    rintro e w' ⟨rfl, ⟨nd, rfl⟩⟩
    refine ⟨_, rfl, ?_⟩
    refine hK.out _ _ ⟨(blk_cell BK782.out 0).trans rfl, (blk_cell BK782.out 1).trans rfl, (blk_cell BK782.out 2).trans rfl, (blk_cell BK782.out 3).trans rfl⟩ (fun hHeld => ?_)
    clear hK K
    refine norm_ (a' := ?_) ?_ ?_
    rotate_left
    ·show Act.put _ (some 71) _ = _
     simp only [Act.put, sqA, sqB, sqC, i64_w, i32_w]
     rfl
    refine sqP (i := 13) (N := some 16) (v := ?_) (a' := ?_) #[I,I,I,I,I,I,I,I,I,I,I,I,I,I] rfl rfl HT_.out (Or.inl ⟨by rfl, ?_⟩) ?_ ?_
    rotate_left
    ·intro w'
     go_simp
     with_reducible rfl
    rotate_left
    ·simp only [Act.put, sqA, sqB, sqC, i64_w, i32_w]
     rfl
    refine done_ (done_of HT_.out (by kernel_rfl)) ?_
    try go_wp2_with (first | ((with_reducible refine gate_callee (f := 53) rfl ?_); refine goesL_ (some 75) rfl rfl Try.func53 (by kernel_rfl) rfl #[.slice A0 l0.length c0, .slice A1 l1.length c1, .slice A2 l2.length c2] rfl (by (try simp only [List.map_toArray, List.map_cons, List.map_nil]); first | done | rfl | (simp only [List.length_drop, List.length_take]; rfl)) ?_; (with_reducible refine (pair_Merge.calls _ _ l0 _ _ l1 _ _ l2 t806 _ ?side1 ?side2 ?side3 ?side4 ?side5 ?side6 A29.out).mono ?_); (case side1 => repeat (first | exact (Kd.C_below HR0.out (by repeat (first | (with_reducible first | exact HB.out | apply below_alloc | apply pw_below_drewN | apply below_drew1 | refine below_set ?_ GE782.out) | exact HB.out))) | (with_reducible refine Kd.C_alloc ?_ _) | (with_reducible refine Kd.C_drewN ?_ _) | (with_reducible refine Kd.C_drew ?_))); (case side2 => exact HC0.out); (case side3 => repeat (first | exact (Kd.C_below HR1.out (by repeat (first | (with_reducible first | exact HB.out | apply below_alloc | apply pw_below_drewN | apply below_drew1 | refine below_set ?_ GE782.out) | exact HB.out))) | (with_reducible refine Kd.C_alloc ?_ _) | (with_reducible refine Kd.C_drewN ?_ _) | (with_reducible refine Kd.C_drew ?_))); (case side4 => exact HC1.out); (case side5 => repeat (first | exact (Kd.C_below HR2.out (by repeat (first | (with_reducible first | exact HB.out | apply below_alloc | apply pw_below_drewN | apply below_drew1 | refine below_set ?_ GE782.out) | exact HB.out))) | (with_reducible refine Kd.C_alloc ?_ _) | (with_reducible refine Kd.C_drewN ?_ _) | (with_reducible refine Kd.C_drew ?_))); (case side6 => exact HC2.out); rintro e w46 ⟨v807, rfl, ho0, hb⟩; refine ⟨_, rfl, ?_⟩; have n0_ := Aside0.mk (Kd.R_elder' (by (with_reducible repeat (first | apply Kd.R_alloc | apply Kd.R_drewN | apply Kd.R_drew)); exact HO794.out) (Kd.R_base ho0) hb); have n1_ := Aside0.mk (Kd.R_elder' (by (with_reducible repeat (first | apply Kd.R_alloc | apply Kd.R_drewN | apply Kd.R_drew)); exact HO797.out) (Kd.R_base ho0) hb); have n2_ := Aside0.mk (Kd.R_elder' (by (with_reducible repeat (first | apply Kd.R_alloc | apply Kd.R_drewN | apply Kd.R_drew)); exact HO801.out) (Kd.R_base ho0) hb); have n3_ := Aside0.mk (Kd.R_elder' (by (with_reducible repeat (first | apply Kd.R_alloc | apply Kd.R_drewN | apply Kd.R_drew)); exact HO804.out) (Kd.R_base ho0) hb); have n4_ := Aside0.mk (Kd.R_lower (Kd.R_newB (Kd.R_new' (Kd.R_new' (Kd.R_new' (Kd.R_new' ho0 (Kd.R_lt (by (with_reducible repeat (first | apply Kd.R_alloc | apply Kd.R_drewN | apply Kd.R_drew)); exact HO794.out))) (Kd.R_lt (by (with_reducible repeat (first | apply Kd.R_alloc | apply Kd.R_drewN | apply Kd.R_drew)); exact HO797.out))) (Kd.R_lt (by (with_reducible repeat (first | apply Kd.R_alloc | apply Kd.R_drewN | apply Kd.R_drew)); exact HO801.out))) (Kd.R_lt (by (with_reducible repeat (first | apply Kd.R_alloc | apply Kd.R_drewN | apply Kd.R_drew)); exact HO804.out))) (g := gb782) (o := .cells #[.string a3_0, .string a3_1, .int .i64 a3_2, .int .i64 a3_3] 57 (0, 0)) (by (with_reducible repeat (first | apply blN | apply blD | apply blA)); exact BK782.out)) (below_size (by repeat (first | (with_reducible first | exact HB.out | apply below_alloc | apply pw_below_drewN | apply below_drew1 | refine below_set ?_ GE782.out) | exact HB.out)))); have n5_ := Aside0.mk (blk_below (g := gb782) (o := .cells #[.string a3_0, .string a3_1, .int .i64 a3_2, .int .i64 a3_3] 57 (0, 0)) (by (with_reducible repeat (first | apply blN | apply blD | apply blA)); exact BK782.out) hb); have n6_ := Aside0.mk (below_step (by repeat (first | (with_reducible first | exact HB.out | apply below_alloc | apply pw_below_drewN | apply below_drew1 | refine below_set ?_ GE782.out) | exact HB.out)) hb); clear HO794; clear HO797; clear HO801; clear HO804; clear BK782; clear HB; have HO794 := n0_; have HO797 := n1_; have HO801 := n2_; have HO804 := n3_; have HO808 := n4_; have BK782 := n5_; have HB := n6_; clear n0_ n1_ n2_ n3_ n4_ n5_ n6_; (try clear hb); (try clear hb2); (try clear hk); (try clear hi); (try clear ho0)) | ((with_reducible refine gate_callee (f := 54) rfl ?_); refine goesL_ (some 79) rfl rfl Try.func54 (by kernel_rfl) rfl #[.slice A0 l0.length c0, .slice A1 l1.length c1, .slice A2 l2.length c2] rfl (by (try simp only [List.map_toArray, List.map_cons, List.map_nil]); first | done | rfl | (simp only [List.length_drop, List.length_take]; rfl)) ?_; (with_reducible refine (ref08_Merge.calls kj9 _ _ l0 _ _ l1 _ _ l2 t809 _ ?side1 ?side2 ?side3 ?side4 ?side5 ?side6 A30.out).mono ?_); (case side1 => repeat (first | exact (Kd.C_below HR0.out HB.out) | (with_reducible refine Kd.C_alloc ?_ _) | (with_reducible refine Kd.C_drewN ?_ _) | (with_reducible refine Kd.C_drew ?_))); (case side2 => exact HC0.out); (case side3 => repeat (first | exact (Kd.C_below HR1.out HB.out) | (with_reducible refine Kd.C_alloc ?_ _) | (with_reducible refine Kd.C_drewN ?_ _) | (with_reducible refine Kd.C_drew ?_))); (case side4 => exact HC1.out); (case side5 => repeat (first | exact (Kd.C_below HR2.out HB.out) | (with_reducible refine Kd.C_alloc ?_ _) | (with_reducible refine Kd.C_drewN ?_ _) | (with_reducible refine Kd.C_drew ?_))); (case side6 => exact HC2.out); rintro e w47 ⟨v810, rfl, ho0, hb⟩; refine ⟨_, rfl, ?_⟩; have n0_ := Aside0.mk (Kd.R_elder' (by (with_reducible repeat (first | apply Kd.R_alloc | apply Kd.R_drewN | apply Kd.R_drew)); exact HO794.out) (Kd.R_base ho0) hb); have n1_ := Aside0.mk (Kd.R_elder' (by (with_reducible repeat (first | apply Kd.R_alloc | apply Kd.R_drewN | apply Kd.R_drew)); exact HO797.out) (Kd.R_base ho0) hb); have n2_ := Aside0.mk (Kd.R_elder' (by (with_reducible repeat (first | apply Kd.R_alloc | apply Kd.R_drewN | apply Kd.R_drew)); exact HO801.out) (Kd.R_base ho0) hb); have n3_ := Aside0.mk (Kd.R_elder' (by (with_reducible repeat (first | apply Kd.R_alloc | apply Kd.R_drewN | apply Kd.R_drew)); exact HO804.out) (Kd.R_base ho0) hb); have n4_ := Aside0.mk (Kd.R_elder' (by (with_reducible repeat (first | apply Kd.R_alloc | apply Kd.R_drewN | apply Kd.R_drew)); exact HO808.out) (Kd.R_base ho0) hb); have n5_ := Aside0.mk (Kd.R_lower (Kd.R_newB (Kd.R_new' (Kd.R_new' (Kd.R_new' (Kd.R_new' (Kd.R_new' ho0 (Kd.R_lt (by (with_reducible repeat (first | apply Kd.R_alloc | apply Kd.R_drewN | apply Kd.R_drew)); exact HO794.out))) (Kd.R_lt (by (with_reducible repeat (first | apply Kd.R_alloc | apply Kd.R_drewN | apply Kd.R_drew)); exact HO797.out))) (Kd.R_lt (by (with_reducible repeat (first | apply Kd.R_alloc | apply Kd.R_drewN | apply Kd.R_drew)); exact HO801.out))) (Kd.R_lt (by (with_reducible repeat (first | apply Kd.R_alloc | apply Kd.R_drewN | apply Kd.R_drew)); exact HO804.out))) (Kd.R_lt (by (with_reducible repeat (first | apply Kd.R_alloc | apply Kd.R_drewN | apply Kd.R_drew)); exact HO808.out))) (g := gb782) (o := .cells #[.string a3_0, .string a3_1, .int .i64 a3_2, .int .i64 a3_3] 57 (0, 0)) (by (with_reducible repeat (first | apply blN | apply blD | apply blA)); exact BK782.out)) (below_size (by repeat (first | (with_reducible first | exact HB.out | apply below_alloc | apply pw_below_drewN | apply below_drew1 | refine below_set ?_ GE782.out) | exact HB.out)))); have n6_ := Aside0.mk (blk_below (g := gb782) (o := .cells #[.string a3_0, .string a3_1, .int .i64 a3_2, .int .i64 a3_3] 57 (0, 0)) (by (with_reducible repeat (first | apply blN | apply blD | apply blA)); exact BK782.out) hb); have n7_ := Aside0.mk (below_step (by repeat (first | (with_reducible first | exact HB.out | apply below_alloc | apply pw_below_drewN | apply below_drew1 | refine below_set ?_ GE782.out) | exact HB.out)) hb); clear HO794; clear HO797; clear HO801; clear HO804; clear HO808; clear BK782; clear HB; have HO794 := n0_; have HO797 := n1_; have HO801 := n2_; have HO804 := n3_; have HO808 := n4_; have HO811 := n5_; have BK782 := n6_; have HB := n7_; clear n0_ n1_ n2_ n3_ n4_ n5_ n6_ n7_; (try clear hb); (try clear hb2); (try clear hk); (try clear hi); (try clear ho0); obtain ⟨Ao48, co48, eo48⟩ := Kd.R_slice HO808.out; subst eo48; obtain ⟨Ao49, co49, eo49⟩ := Kd.R_slice HO811.out; subst eo49) | ((with_reducible refine gate_callee (f := 48) rfl ?_); refine goesL_ (some 80) rfl rfl Try.func48 (by kernel_rfl) rfl #[.slice Ao48 t806.length co48, .slice Ao49 t809.length co49] rfl (by (try simp only [List.map_toArray, List.map_cons, List.map_nil]); first | done | rfl | (simp only [List.length_drop, List.length_take]; rfl)) ?_; (with_reducible refine (ref08_Same.calls kj9 _ _ t806 _ _ t809 t812 _ ?side1 ?side2 ?side3 ?side4 A31.out).mono ?_); (case side1 => repeat (first | exact (Kd.R_reads' HO808.out).2.2 | (with_reducible refine Kd.C_alloc ?_ _) | (with_reducible refine Kd.C_drewN ?_ _) | (with_reducible refine Kd.C_drew ?_))); (case side2 => exact (Kd.R_reads' HO808.out).2.1); (case side3 => repeat (first | exact (Kd.R_reads' HO811.out).2.2 | (with_reducible refine Kd.C_alloc ?_ _) | (with_reducible refine Kd.C_drewN ?_ _) | (with_reducible refine Kd.C_drew ?_))); (case side4 => exact (Kd.R_reads' HO811.out).2.1); rintro e w' ⟨rfl, ⟨nd, rfl⟩⟩; refine ⟨_, rfl, ?_⟩))
    (try (rw [drewN_self w47]; generalize hq_ : World.drewN w47 _ = w47; have n0_ : Aside0 (Kd.R k57 57 w47 w.heap.size (fun k_ => some k_ ≠ (.slice Ao40 t795.length co40 : Value).ownBlock ∧ some k_ ≠ (.slice Ao44 t799.length co44 : Value).ownBlock ∧ some k_ ≠ (.slice Ao45 t802.length co45 : Value).ownBlock ∧ some k_ ≠ (.slice Ao48 t806.length co48 : Value).ownBlock ∧ some k_ ≠ (.slice Ao49 t809.length co49 : Value).ownBlock ∧ k_ ≠ gb782) (.slice Ao39 t792.length co39) t792) := ⟨by rw [← hq_]; exact (by (with_reducible repeat (first | apply Kd.R_alloc | apply Kd.R_drewN | apply Kd.R_drew)); exact Kd.R_mono HO794.out (fun _ hk => by simp only [ne_eq, hk, not_false_eq_true, and_self]))⟩; have n1_ : Aside0 (Kd.R k57 57 w47 w.heap.size (fun k_ => some k_ ≠ (.slice Ao39 t792.length co39 : Value).ownBlock ∧ some k_ ≠ (.slice Ao44 t799.length co44 : Value).ownBlock ∧ some k_ ≠ (.slice Ao45 t802.length co45 : Value).ownBlock ∧ some k_ ≠ (.slice Ao48 t806.length co48 : Value).ownBlock ∧ some k_ ≠ (.slice Ao49 t809.length co49 : Value).ownBlock ∧ k_ ≠ gb782) (.slice Ao40 t795.length co40) t795) := ⟨by rw [← hq_]; exact (by (with_reducible repeat (first | apply Kd.R_alloc | apply Kd.R_drewN | apply Kd.R_drew)); exact Kd.R_mono HO797.out (fun _ hk => by simp only [ne_eq, hk, not_false_eq_true, and_self]))⟩; have n2_ : Aside0 (Kd.R k57 57 w47 w.heap.size (fun k_ => some k_ ≠ (.slice Ao39 t792.length co39 : Value).ownBlock ∧ some k_ ≠ (.slice Ao40 t795.length co40 : Value).ownBlock ∧ some k_ ≠ (.slice Ao45 t802.length co45 : Value).ownBlock ∧ some k_ ≠ (.slice Ao48 t806.length co48 : Value).ownBlock ∧ some k_ ≠ (.slice Ao49 t809.length co49 : Value).ownBlock ∧ k_ ≠ gb782) (.slice Ao44 t799.length co44) t799) := ⟨by rw [← hq_]; exact (by (with_reducible repeat (first | apply Kd.R_alloc | apply Kd.R_drewN | apply Kd.R_drew)); exact Kd.R_mono HO801.out (fun _ hk => by simp only [ne_eq, hk, not_false_eq_true, and_self]))⟩; have n3_ : Aside0 (Kd.R k57 57 w47 w.heap.size (fun k_ => some k_ ≠ (.slice Ao39 t792.length co39 : Value).ownBlock ∧ some k_ ≠ (.slice Ao40 t795.length co40 : Value).ownBlock ∧ some k_ ≠ (.slice Ao44 t799.length co44 : Value).ownBlock ∧ some k_ ≠ (.slice Ao48 t806.length co48 : Value).ownBlock ∧ some k_ ≠ (.slice Ao49 t809.length co49 : Value).ownBlock ∧ k_ ≠ gb782) (.slice Ao45 t802.length co45) t802) := ⟨by rw [← hq_]; exact (by (with_reducible repeat (first | apply Kd.R_alloc | apply Kd.R_drewN | apply Kd.R_drew)); exact Kd.R_mono HO804.out (fun _ hk => by simp only [ne_eq, hk, not_false_eq_true, and_self]))⟩; have n4_ : Aside0 (Kd.R k57 57 w47 w.heap.size (fun k_ => some k_ ≠ (.slice Ao39 t792.length co39 : Value).ownBlock ∧ some k_ ≠ (.slice Ao40 t795.length co40 : Value).ownBlock ∧ some k_ ≠ (.slice Ao44 t799.length co44 : Value).ownBlock ∧ some k_ ≠ (.slice Ao45 t802.length co45 : Value).ownBlock ∧ some k_ ≠ (.slice Ao49 t809.length co49 : Value).ownBlock ∧ k_ ≠ gb782) (.slice Ao48 t806.length co48) t806) := ⟨by rw [← hq_]; exact (by (with_reducible repeat (first | apply Kd.R_alloc | apply Kd.R_drewN | apply Kd.R_drew)); exact Kd.R_mono HO808.out (fun _ hk => by simp only [ne_eq, hk, not_false_eq_true, and_self]))⟩; have n5_ : Aside0 (Kd.R k57 57 w47 w.heap.size (fun k_ => some k_ ≠ (.slice Ao39 t792.length co39 : Value).ownBlock ∧ some k_ ≠ (.slice Ao40 t795.length co40 : Value).ownBlock ∧ some k_ ≠ (.slice Ao44 t799.length co44 : Value).ownBlock ∧ some k_ ≠ (.slice Ao45 t802.length co45 : Value).ownBlock ∧ some k_ ≠ (.slice Ao48 t806.length co48 : Value).ownBlock ∧ k_ ≠ gb782) (.slice Ao49 t809.length co49) t809) := ⟨by rw [← hq_]; exact (by (with_reducible repeat (first | apply Kd.R_alloc | apply Kd.R_drewN | apply Kd.R_drew)); exact Kd.R_mono HO811.out (fun _ hk => by simp only [ne_eq, hk, not_false_eq_true, and_self]))⟩; have n6_ : Aside0 (w47.heap[gb782]? = some (.cells #[.string a3_0, .string a3_1, .int .i64 a3_2, .int .i64 a3_3] 57 (0, 0))) := ⟨by rw [← hq_]; exact (by (with_reducible repeat (first | apply blN | apply blD | apply blA)); exact BK782.out)⟩; have n7_ : Aside0 (Below w.heap.size w w47) := ⟨by rw [← hq_]; exact (by repeat (first | (with_reducible first | exact HB.out | apply below_alloc | apply pw_below_drewN | apply below_drew1 | refine below_set ?_ GE782.out) | exact HB.out))⟩; clear HO794 HO797 HO801 HO804 HO808 HO811 BK782 HB hq_; have HO794 := n0_; have HO797 := n1_; have HO801 := n2_; have HO804 := n3_; have HO808 := n4_; have HO811 := n5_; have BK782 := n6_; have HB := n7_; clear n0_ n1_ n2_ n3_ n4_ n5_ n6_ n7_))
    have n0_ := Aside0.mk (Kd.R_drew HO794.out)
    have n1_ := Aside0.mk (Kd.R_drew HO797.out)
    have n2_ := Aside0.mk (Kd.R_drew HO801.out)
    have n3_ := Aside0.mk (Kd.R_drew HO804.out)
    have n4_ := Aside0.mk (Kd.R_drew HO808.out)
    have n5_ := Aside0.mk (Kd.R_drew HO811.out)
    have n6_ := Aside0.mk (blk_drew BK782.out)
    have n7_ := Aside0.mk (below_drew1 HB.out)
    clear HO794
    clear HO797
    clear HO801
    clear HO804
    clear HO808
    clear HO811
    clear BK782
    clear HB
    have HO794 := n0_
    have HO797 := n1_
    have HO801 := n2_
    have HO804 := n3_
    have HO808 := n4_
    have HO811 := n5_
    have BK782 := n6_
    have HB := n7_
    clear n0_ n1_ n2_ n3_ n4_ n5_ n6_ n7_
    refine start_ (n := 10) (S := fun w' => w'.cell? ⟨gb782, 0, none⟩ = some (.string a3_0) ∧ w'.cell? ⟨gb782, 1, none⟩ = some (.string a3_1) ∧ w'.cell? ⟨gb782, 2, none⟩ = some (.int .i64 a3_2) ∧ w'.cell? ⟨gb782, 3, none⟩ = some (.int .i64 a3_3)) (ds := []) #[O,O,O,O,O,O,O,O,O,O] (by kernel_rfl) rfl rfl ⟨(blk_cell BK782.out 0).trans rfl, (blk_cell BK782.out 1).trans rfl, (blk_cell BK782.out 2).trans rfl, (blk_cell BK782.out 3).trans rfl⟩ (fun hHeld => ?_); refine with_tabW law08_PairTells.tab12 law08_PairTells.bits12 (fun HT_ HW_ => ?_)
    generalize w47.drew = w50 at HO794 HO797 HO801 HO804 HO808 HO811 BK782 HB hHeld ⊢
    refine sqP (i := 0) (N := some 81) (v := ?_) (a' := ?_) #[I,O,O,O,O,O,O,O,O,O] rfl rfl HT_.out (Or.inl ⟨by rfl, ?_⟩) ?_ ?_
    rotate_left
    ·intro w'
     go_simp
     with_reducible rfl
    rotate_left
    ·simp only [Act.put, sqA, sqB, sqC, i64_w, i32_w]
     rfl
    refine sqP (i := 1) (N := some 82) (v := ?_) (a' := ?_) #[I,I,O,O,O,O,O,O,O,O] rfl rfl HT_.out (Or.inl ⟨by rfl, ?_⟩) ?_ ?_
    rotate_left
    ·intro w'
     go_simp
     with_reducible rfl
    rotate_left
    ·simp only [Act.put, sqA, sqB, sqC, i64_w, i32_w]
     rfl
    refine sqP (i := 4) (N := some 85) (v := ?_) (a' := ?_) #[I,I,O,O,I,O,O,O,O,O] rfl rfl HT_.out (Or.inl ⟨by rfl, ?_⟩) ?_ ?_
    rotate_left
    ·intro w'
     go_simp
     with_reducible rfl
    rotate_left
    ·simp only [Act.put, sqA, sqB, sqC, i64_w, i32_w]
     rfl
    refine sqP (i := 5) (N := some 86) (v := ?_) (a' := ?_) #[I,I,O,O,I,I,O,O,O,O] rfl rfl HT_.out (Or.inl ⟨by rfl, ?_⟩) ?_ ?_
    rotate_left
    ·intro w'
     go_simp
     with_reducible rfl
    rotate_left
    ·simp only [Act.put, sqA, sqB, sqC, i64_w, i32_w]
     rfl
    refine take_ (i := 2) (N := some 83) (v := ?_) (a' := ?_) #[I,I,I,O,I,I,O,O,O,O] rfl rfl (take_ofW HT_.out HW_.out (by kernel_rfl)) (fun _ _ _ h => h) (Or.inl ⟨by rfl, ?_⟩) hHeld ?_ ?_
    rotate_left
    ·rintro w' ⟨s0, s1, s2, s3⟩
     go_simp
     with_reducible rfl
    rotate_left
    ·simp only [Act.put, sqA, sqB, sqC, i64_w, i32_w]
     rfl
    refine take_ (i := 6) (N := some 87) (v := ?_) (a' := ?_) #[I,I,I,O,I,I,I,O,O,O] rfl rfl (take_ofW HT_.out HW_.out (by kernel_rfl)) (fun _ _ _ h => h) (Or.inl ⟨by rfl, ?_⟩) hHeld ?_ ?_
    rotate_left
    ·rintro w' ⟨s0, s1, s2, s3⟩
     go_simp
     with_reducible rfl
    rotate_left
    ·simp only [Act.put, sqA, sqB, sqC, i64_w, i32_w]
     rfl
    refine one_ (i := 3) (N := some 84) #[I,I,I,I,I,I,I,O,O,O] rfl rfl (one_of HT_.out (by kernel_rfl)) (by decide) (fun K hK => ?_)
    refine goes_ Try.func56 (by kernel_rfl) rfl #[.slice A1 l1.length c1, .string a3_0] (by rfl) rfl rfl (by (try simp only [List.map_toArray, List.map_cons, List.map_nil]); first | done | rfl | (simp only [List.length_drop, List.length_take]; rfl)) ?_
    with_reducible refine (pair_Elems.calls _ _ l1 a3_0 t813 _ ?side1 ?side2 A32.out).mono ?_
    (case side1 => repeat (first | exact (Kd.C_below HR1.out HB.out) | (with_reducible refine Kd.C_alloc ?_ _) | (with_reducible refine Kd.C_drewN ?_ _) | (with_reducible refine Kd.C_drew ?_)))
    (case side2 => exact HC1.out)
    rintro e w51 ⟨v814, rfl, ho0, hb⟩
    refine ⟨_, rfl, ?_⟩
    have n0_ := Aside0.mk (Kd.R_below (by (with_reducible repeat (first | apply Kd.R_alloc | apply Kd.R_drewN | apply Kd.R_drew)); exact HO794.out) hb)
    have n1_ := Aside0.mk (Kd.R_below (by (with_reducible repeat (first | apply Kd.R_alloc | apply Kd.R_drewN | apply Kd.R_drew)); exact HO797.out) hb)
    have n2_ := Aside0.mk (Kd.R_below (by (with_reducible repeat (first | apply Kd.R_alloc | apply Kd.R_drewN | apply Kd.R_drew)); exact HO801.out) hb)
    have n3_ := Aside0.mk (Kd.R_below (by (with_reducible repeat (first | apply Kd.R_alloc | apply Kd.R_drewN | apply Kd.R_drew)); exact HO804.out) hb)
    have n4_ := Aside0.mk (Kd.R_below (by (with_reducible repeat (first | apply Kd.R_alloc | apply Kd.R_drewN | apply Kd.R_drew)); exact HO808.out) hb)
    have n5_ := Aside0.mk (Kd.R_below (by (with_reducible repeat (first | apply Kd.R_alloc | apply Kd.R_drewN | apply Kd.R_drew)); exact HO811.out) hb)
    have n6_ := Aside0.mk (Kd.R_lower ho0 (below_size (by repeat (first | (with_reducible first | exact HB.out | apply below_alloc | apply pw_below_drewN | apply below_drew1 | refine below_set ?_ GE782.out) | exact HB.out))))
    have n7_ := Aside0.mk (blk_below (g := gb782) (o := .cells #[.string a3_0, .string a3_1, .int .i64 a3_2, .int .i64 a3_3] 57 (0, 0)) (by (with_reducible repeat (first | apply blN | apply blD | apply blA)); exact BK782.out) hb)
    have n8_ := Aside0.mk (below_step (by repeat (first | (with_reducible first | exact HB.out | apply below_alloc | apply pw_below_drewN | apply below_drew1 | refine below_set ?_ GE782.out) | exact HB.out)) hb)
    clear HO794
    clear HO797
    clear HO801
    clear HO804
    clear HO808
    clear HO811
    clear BK782
    clear HB
    have HO794 := n0_
    have HO797 := n1_
    have HO801 := n2_
    have HO804 := n3_
    have HO808 := n4_
    have HO811 := n5_
    have HO815 := n6_
    have BK782 := n7_
    have HB := n8_
    clear n0_ n1_ n2_ n3_ n4_ n5_ n6_ n7_ n8_
    (try clear hb)
    (try clear hb2)
    (try clear hk)
    (try clear hi)
    (try clear ho0)
    refine hK.out _ _ ⟨(blk_cell BK782.out 0).trans rfl, (blk_cell BK782.out 1).trans rfl, (blk_cell BK782.out 2).trans rfl, (blk_cell BK782.out 3).trans rfl⟩ (fun hHeld => ?_)
    clear hK K
    refine norm_ (a' := ?_) ?_ ?_
    rotate_left
    ·show Act.put _ (some 84) _ = _
     simp only [Act.put, sqA, sqB, sqC, i64_w, i32_w]
     rfl
    refine one_ (i := 7) (N := some 88) #[I,I,I,I,I,I,I,I,O,O] rfl rfl (one_of HT_.out (by kernel_rfl)) (by decide) (fun K hK => ?_)
    refine goes_ Try.func57 (by kernel_rfl) rfl #[.slice A1 l1.length c1, .string a3_0] (by rfl) rfl rfl (by (try simp only [List.map_toArray, List.map_cons, List.map_nil]); first | done | rfl | (simp only [List.length_drop, List.length_take]; rfl)) ?_
    with_reducible refine (ref08_Elems.calls kj9 _ _ l1 a3_0 t816 _ ?side1 ?side2 A33.out).mono ?_
    (case side1 => repeat (first | exact (Kd.C_below HR1.out HB.out) | (with_reducible refine Kd.C_alloc ?_ _) | (with_reducible refine Kd.C_drewN ?_ _) | (with_reducible refine Kd.C_drew ?_)))
    (case side2 => exact HC1.out)
    rintro e w52 ⟨v817, rfl, ho0, hb⟩
    refine ⟨_, rfl, ?_⟩
    have n0_ := Aside0.mk (Kd.R_below (by (with_reducible repeat (first | apply Kd.R_alloc | apply Kd.R_drewN | apply Kd.R_drew)); exact HO794.out) hb)
    have n1_ := Aside0.mk (Kd.R_below (by (with_reducible repeat (first | apply Kd.R_alloc | apply Kd.R_drewN | apply Kd.R_drew)); exact HO797.out) hb)
    have n2_ := Aside0.mk (Kd.R_below (by (with_reducible repeat (first | apply Kd.R_alloc | apply Kd.R_drewN | apply Kd.R_drew)); exact HO801.out) hb)
    have n3_ := Aside0.mk (Kd.R_below (by (with_reducible repeat (first | apply Kd.R_alloc | apply Kd.R_drewN | apply Kd.R_drew)); exact HO804.out) hb)
    have n4_ := Aside0.mk (Kd.R_below (by (with_reducible repeat (first | apply Kd.R_alloc | apply Kd.R_drewN | apply Kd.R_drew)); exact HO808.out) hb)
    have n5_ := Aside0.mk (Kd.R_below (by (with_reducible repeat (first | apply Kd.R_alloc | apply Kd.R_drewN | apply Kd.R_drew)); exact HO811.out) hb)
    have n6_ := Aside0.mk (Kd.R_elder' (by (with_reducible repeat (first | apply Kd.R_alloc | apply Kd.R_drewN | apply Kd.R_drew)); exact HO815.out) (Kd.R_base ho0) hb)
    have n7_ := Aside0.mk (Kd.R_lower (Kd.R_new' ho0 (Kd.R_lt (by (with_reducible repeat (first | apply Kd.R_alloc | apply Kd.R_drewN | apply Kd.R_drew)); exact HO815.out))) (below_size (by repeat (first | (with_reducible first | exact HB.out | apply below_alloc | apply pw_below_drewN | apply below_drew1 | refine below_set ?_ GE782.out) | exact HB.out))))
    have n8_ := Aside0.mk (blk_below (g := gb782) (o := .cells #[.string a3_0, .string a3_1, .int .i64 a3_2, .int .i64 a3_3] 57 (0, 0)) (by (with_reducible repeat (first | apply blN | apply blD | apply blA)); exact BK782.out) hb)
    have n9_ := Aside0.mk (below_step (by repeat (first | (with_reducible first | exact HB.out | apply below_alloc | apply pw_below_drewN | apply below_drew1 | refine below_set ?_ GE782.out) | exact HB.out)) hb)
    clear HO794
    clear HO797
    clear HO801
    clear HO804
    clear HO808
    clear HO811
    clear HO815
    clear BK782
    clear HB
    have HO794 := n0_
    have HO797 := n1_
    have HO801 := n2_
    have HO804 := n3_
    have HO808 := n4_
    have HO811 := n5_
    have HO815 := n6_
    have HO818 := n7_
    have BK782 := n8_
    have HB := n9_
    clear n0_ n1_ n2_ n3_ n4_ n5_ n6_ n7_ n8_ n9_
    (try clear hb)
    (try clear hb2)
    (try clear hk)
    (try clear hi)
    (try clear ho0)
    obtain ⟨Ao53, co53, eo53⟩ := Kd.R_slice HO815.out
    (first | subst eo53 | (injection eo53 with f1_ f2_ f3_; have f4_ := f1_.symm; have f5_ := f3_.symm; clear f1_ f2_ f3_; subst f4_; subst f5_))
    obtain ⟨Ao54, co54, eo54⟩ := Kd.R_slice HO818.out
    (first | subst eo54 | (injection eo54 with f1_ f2_ f3_; have f4_ := f1_.symm; have f5_ := f3_.symm; clear f1_ f2_ f3_; subst f4_; subst f5_))
    refine hK.out _ _ ⟨(blk_cell BK782.out 0).trans rfl, (blk_cell BK782.out 1).trans rfl, (blk_cell BK782.out 2).trans rfl, (blk_cell BK782.out 3).trans rfl⟩ (fun hHeld => ?_)
    clear hK K
    refine norm_ (a' := ?_) ?_ ?_
    rotate_left
    ·show Act.put _ (some 88) _ = _
     simp only [Act.put, sqA, sqB, sqC, i64_w, i32_w]
     rfl
    refine one_ (i := 8) (N := some 89) #[I,I,I,I,I,I,I,I,I,O] rfl rfl (one_of HT_.out (by kernel_rfl)) (by decide) (fun K hK => ?_)
    refine goes_ Try.func55 (by kernel_rfl) rfl #[.slice Ao53 t813.length co53, .slice Ao54 t816.length co54] (by rfl) rfl rfl (by (try simp only [List.map_toArray, List.map_cons, List.map_nil]); first | done | rfl | (simp only [List.length_drop, List.length_take]; rfl)) ?_
    with_reducible refine (law08_texts.calls kj9 _ _ t813 _ _ t816 t819 _ ?side1 ?side2 ?side3 ?side4 A34.out).mono ?_
    (case side1 => repeat (first | exact (Kd.R_reads' HO815.out).2.2 | (with_reducible refine Kd.C_alloc ?_ _) | (with_reducible refine Kd.C_drewN ?_ _) | (with_reducible refine Kd.C_drew ?_)))
    (case side2 => exact (Kd.R_reads' HO815.out).2.1)
    (case side3 => repeat (first | exact (Kd.R_reads' HO818.out).2.2 | (with_reducible refine Kd.C_alloc ?_ _) | (with_reducible refine Kd.C_drewN ?_ _) | (with_reducible refine Kd.C_drew ?_)))
    (case side4 => exact (Kd.R_reads' HO818.out).2.1)
    rintro e w' ⟨rfl, ⟨nd, rfl⟩⟩
    refine ⟨_, rfl, ?_⟩
    refine hK.out _ _ ⟨(blk_cell BK782.out 0).trans rfl, (blk_cell BK782.out 1).trans rfl, (blk_cell BK782.out 2).trans rfl, (blk_cell BK782.out 3).trans rfl⟩ (fun hHeld => ?_)
    clear hK K
    refine norm_ (a' := ?_) ?_ ?_
    rotate_left
    ·show Act.put _ (some 89) _ = _
     simp only [Act.put, sqA, sqB, sqC, i64_w, i32_w]
     rfl
    refine sqP (i := 9) (N := some 18) (v := ?_) (a' := ?_) #[I,I,I,I,I,I,I,I,I,I] rfl rfl HT_.out (Or.inl ⟨by rfl, ?_⟩) ?_ ?_
    rotate_left
    ·intro w'
     go_simp
     with_reducible rfl
    rotate_left
    ·simp only [Act.put, sqA, sqB, sqC, i64_w, i32_w]
     rfl
    refine done_ (done_of HT_.out (by kernel_rfl)) ?_
    try go_wp2
    go_loopg [19] kj9 (fun kq v19 w' => ∃ (x19_2 : Int), v19 = .int .i64 x19_2 ∧ Aside0 (law08_PairTells.l0 kq l1 t791 t798 t805 t812 t819 x19_2 a3_0 a3_1 a3_2 a3_3 = some r) ∧ Aside0 (kq ≤ kj9) ∧ Aside0 (w'.heap[gb782]? = some (.cells #[.string a3_0, .string a3_1, .int .i64 a3_2, .int .i64 a3_3] 57 (0, 0))) ∧ Aside0 (Below w.heap.size w w'))
    case atStart => exact ⟨(0), (by first | rfl | (simp; done) | (simp [*]; done)), H', ⟨Nat.le_refl _⟩, ⟨by (with_reducible repeat (first | apply blN | apply blD | apply blA)); exact BK782.out⟩, ⟨by repeat (first | (with_reducible first | exact HB.out | apply below_alloc | apply pw_below_drewN | apply below_drew1 | refine below_set ?_ GE782.out) | exact HB.out)⟩⟩
    case round =>
     clear H'
     try clear c1
     try clear c2
     try clear p2
     try clear c4
     try clear c5
     try clear c47
     try clear c48
     try clear c49
     try clear c50
     try clear c51
     try clear c52
     try clear c53
     try clear c54
     obtain ⟨x19_2, rfl, HA, HK2, BK782, HB⟩ := hrel
     cases gk with
     | zero => exact absurd HA.out (by simp [law08_PairTells.l0])
     | succ k2 =>
      have H := HA.out
      clear HA
      simp only [law08_PairTells.l0] at H
      by_cases c55 : x19_2 < (l1.length : Int)
      ·rw [if_pos c55] at H
       have c55b0 : decide (x19_2 < (l1.length : Int)) = true := decide_eq_true c55
       clear c55
       by_cases c56 : 0 ≤ x19_2
       ·rw [if_pos c56] at H
        have c56b0 : decide (0 ≤ x19_2) = true := decide_eq_true c56
        clear c56
        replace H := Option.bind_eq_some_iff.mp H
        obtain ⟨t822, A570, H⟩ := H
        replace H : ((pair_Less.f k2 ((rd_T57 l1 x19_2).f0) ((rd_T57 l1 x19_2).f1) ((rd_T57 l1 x19_2).f2.f0) ((rd_T57 l1 x19_2).f2.f1) a3_0 a3_1 a3_2 a3_3).bind fun t824 => (if (t824 != t822) = true then (some false) else (law08_PairTells.l0 k2 l1 t791 t798 t805 t812 t819 (wrap64 (x19_2 + 1)) a3_0 a3_1 a3_2 a3_3))) = some r := H
        have A57 := Aside0.mk A570
        clear A570
        replace H := Option.bind_eq_some_iff.mp H
        obtain ⟨t824, A580, H⟩ := H
        replace H : (if (t824 != t822) = true then (some false) else (law08_PairTells.l0 k2 l1 t791 t798 t805 t812 t819 (wrap64 (x19_2 + 1)) a3_0 a3_1 a3_2 a3_3)) = some r := H
        have A58 := Aside0.mk A580
        clear A580
        by_cases c59 : (t824 != t822) = true
        ·rw [if_pos c59] at H
         have c59b0 : (t824 != t822) = true := c59
         (try (have c59b1 : decide (t824 = t822) = false := by simpa using c59))
         (try (have c59b2 : (t824 == t822) = false := by simpa using c59))
         (try (have c59b3 : ¬ (t824 = t822) := by simpa using c59))
         clear c59
         obtain rfl := Option.some.inj H
         try go_wp2
         have n0_ := Aside0.mk (blk_drew BK782.out)
         have n1_ := Aside0.mk (below_drew1 HB.out)
         clear BK782
         clear HB
         have BK782 := n0_
         have HB := n1_
         clear n0_ n1_
         have p821 : 0 ≤ (x19_2 : Int) := of_decide_eq_true (by first | (with_reducible assumption) | assumption)
         have q821 : x19_2 < (l1.length : Int) := of_decide_eq_true (by first | (with_reducible assumption) | assumption)
         obtain ⟨ad821, e821, hx821_0, hx821_1, hx821_2, hx821_3⟩ := at_T57 HR1.out x19_2 p821 q821
         have hw821_3 := hx821_3
         have hw821_2 := hx821_2
         have hw821_1 := hx821_1
         have hw821_0 := hx821_0
         cases e821
         replace hx821_0 := (HB.out.cell (World.block_lt_of_cell? w _ hx821_0)).trans hx821_0
         replace hx821_1 := (HB.out.cell (World.block_lt_of_cell? w _ hx821_1)).trans hx821_1
         replace hx821_2 := (HB.out.cell (World.block_lt_of_cell? w _ hx821_2)).trans hx821_2
         replace hx821_3 := (HB.out.cell (World.block_lt_of_cell? w _ hx821_3)).trans hx821_3
         replace p821 := eq_true p821
         replace q821 := eq_true q821
         refine start_ (n := 7) (S := fun w' => w'.cell? ⟨gb782, 0, none⟩ = some (.string a3_0) ∧ w'.cell? ⟨gb782, 1, none⟩ = some (.string a3_1) ∧ w'.cell? ⟨gb782, 2, none⟩ = some (.int .i64 a3_2) ∧ w'.cell? ⟨gb782, 3, none⟩ = some (.int .i64 a3_3) ∧ w'.cell? (ad821.add ((x19_2).toNat * 4)) = some (.string ((rd_T57 l1 x19_2).f0)) ∧ w'.cell? ⟨(ad821.add ((x19_2).toNat * 4)).block, (ad821.add ((x19_2).toNat * 4)).off + 1, none⟩ = some (.string ((rd_T57 l1 x19_2).f1)) ∧ w'.cell? ⟨(ad821.add ((x19_2).toNat * 4)).block, (ad821.add ((x19_2).toNat * 4)).off + 2, none⟩ = some (.int .i64 ((rd_T57 l1 x19_2).f2.f0)) ∧ w'.cell? ⟨(ad821.add ((x19_2).toNat * 4)).block, (ad821.add ((x19_2).toNat * 4)).off + 3, none⟩ = some (.int .i64 ((rd_T57 l1 x19_2).f2.f1))) (ds := []) #[O,O,O,O,O,O,O] (by kernel_rfl) rfl rfl ⟨(blk_cell BK782.out 0).trans rfl, (blk_cell BK782.out 1).trans rfl, (blk_cell BK782.out 2).trans rfl, (blk_cell BK782.out 3).trans rfl, ((HB.out.cell (World.block_lt_of_cell? w _ hw821_0)).trans hw821_0), ((HB.out.cell (World.block_lt_of_cell? w _ hw821_1)).trans hw821_1), ((HB.out.cell (World.block_lt_of_cell? w _ hw821_2)).trans hw821_2), ((HB.out.cell (World.block_lt_of_cell? w _ hw821_3)).trans hw821_3)⟩ (fun hHeld => ?_)
         generalize wr.drew = w60 at BK782 HB hx821_0 hx821_1 hx821_2 hx821_3 hHeld ⊢
         refine pure_ (i := 0) (N := some 96) (v := ?_) (a' := ?_) #[I,O,O,O,O,O,O] rfl rfl (by kernel_rfl) (fun _ _ _ h => h) (Or.inl ⟨by rfl, ?_⟩) ?_ ?_
         rotate_left
         ·intro w'
          go_simp
          with_reducible rfl
         rotate_left
         ·simp only [Act.put, sqA, sqB, sqC, i64_w, i32_w]
          rfl
         refine pure_ (i := 1) (N := some 97) (v := ?_) (a' := ?_) #[I,I,O,O,O,O,O] rfl rfl (by kernel_rfl) (fun _ _ _ h => h) (Or.inl ⟨by rfl, ?_⟩) ?_ ?_
         rotate_left
         ·intro w'
          go_simp
          with_reducible rfl
         rotate_left
         ·simp only [Act.put, sqA, sqB, sqC, i64_w, i32_w]
          rfl
         refine pure_ (i := 2) (N := some 98) (v := ?_) (a' := ?_) #[I,I,I,O,O,O,O] rfl rfl (by kernel_rfl) (fun _ _ _ h => h) (Or.inl ⟨by rfl, ?_⟩) ?_ ?_
         rotate_left
         ·intro w'
          go_simp
          with_reducible rfl
         rotate_left
         ·simp only [Act.put, sqA, sqB, sqC, i64_w, i32_w]
          rfl
         refine take_ (i := 3) (N := some 99) (v := ?_) (a' := ?_) #[I,I,I,I,O,O,O] rfl rfl (by kernel_rfl) (fun _ _ _ h => h) (Or.inl ⟨by rfl, ?_⟩) hHeld ?_ ?_
         rotate_left
         ·rintro w' ⟨s0, s1, s2, s3, s4, s5, s6, s7⟩
          go_simp
          with_reducible rfl
         rotate_left
         ·simp only [Act.put, sqA, sqB, sqC, i64_w, i32_w]
          rfl
         refine take_ (i := 4) (N := some 100) (v := ?_) (a' := ?_) #[I,I,I,I,I,O,O] rfl rfl (by kernel_rfl) (fun _ _ _ h => h) (Or.inl ⟨by rfl, ?_⟩) hHeld ?_ ?_
         rotate_left
         ·rintro w' ⟨s0, s1, s2, s3, s4, s5, s6, s7⟩
          go_simp
          with_reducible rfl
         rotate_left
         ·simp only [Act.put, sqA, sqB, sqC, i64_w, i32_w]
          rfl
         refine one_ (i := 5) (N := some 101) #[I,I,I,I,I,I,O] rfl rfl (by kernel_rfl) (by decide) (fun K hK => ?_)
         refine goes_ Try.func58 (by kernel_rfl) rfl #[.agg #[.string ((rd_T57 l1 x19_2).f0), .string ((rd_T57 l1 x19_2).f1), .int .i64 ((rd_T57 l1 x19_2).f2.f0), .int .i64 ((rd_T57 l1 x19_2).f2.f1)], .agg #[.string a3_0, .string a3_1, .int .i64 a3_2, .int .i64 a3_3]] (by rfl) rfl rfl (by (try simp only [List.map_toArray, List.map_cons, List.map_nil]); first | done | rfl | (simp only [List.length_drop, List.length_take]; rfl)) ?_
         with_reducible refine (ref08_Less.calls ((rd_T57 l1 x19_2).f0) ((rd_T57 l1 x19_2).f1) ((rd_T57 l1 x19_2).f2.f0) ((rd_T57 l1 x19_2).f2.f1) a3_0 a3_1 a3_2 a3_3 t822 _ A57.out).mono ?_
         rintro e w61 ⟨rfl, hb⟩
         refine ⟨_, rfl, ?_⟩
         have n0_ := Aside0.mk (blk_below (g := gb782) (o := .cells #[.string a3_0, .string a3_1, .int .i64 a3_2, .int .i64 a3_3] 57 (0, 0)) (by (with_reducible repeat (first | apply blN | apply blD | apply blA)); exact BK782.out) hb)
         have n1_ := Aside0.mk (below_step (by repeat (first | (with_reducible first | exact HB.out | apply below_alloc | apply pw_below_drewN | apply below_drew1 | refine below_set ?_ GE782.out) | exact HB.out)) hb)
         clear BK782
         clear HB
         have BK782 := n0_
         have HB := n1_
         clear n0_ n1_
         (try clear hb)
         (try clear hb2)
         (try clear hk)
         (try clear hi)
         refine hK.out _ _ ⟨(blk_cell BK782.out 0).trans rfl, (blk_cell BK782.out 1).trans rfl, (blk_cell BK782.out 2).trans rfl, (blk_cell BK782.out 3).trans rfl, ((HB.out.cell (World.block_lt_of_cell? w _ hw821_0)).trans hw821_0), ((HB.out.cell (World.block_lt_of_cell? w _ hw821_1)).trans hw821_1), ((HB.out.cell (World.block_lt_of_cell? w _ hw821_2)).trans hw821_2), ((HB.out.cell (World.block_lt_of_cell? w _ hw821_3)).trans hw821_3)⟩ (fun hHeld => ?_)
         clear hK K
         refine norm_ (a' := ?_) ?_ ?_
         rotate_left
         ·show Act.put _ (some 101) _ = _
          simp only [Act.put, sqA, sqB, sqC, i64_w, i32_w]
          rfl
         refine pure_ (i := 6) (N := some 20) (v := ?_) (a' := ?_) #[I,I,I,I,I,I,I] rfl rfl (by kernel_rfl) (fun _ _ _ h => h) (Or.inl ⟨by rfl, ?_⟩) ?_ ?_
         rotate_left
         ·intro w'
          go_simp
          with_reducible rfl
         rotate_left
         ·simp only [Act.put, sqA, sqB, sqC, i64_w, i32_w]
          rfl
         refine done_ (by kernel_rfl) ?_
         try go_wp2
         have n0_ := Aside0.mk (blk_drew BK782.out)
         have n1_ := Aside0.mk (below_drew1 HB.out)
         clear BK782
         clear HB
         have BK782 := n0_
         have HB := n1_
         clear n0_ n1_
         have p823 : 0 ≤ (x19_2 : Int) := of_decide_eq_true (by first | (with_reducible assumption) | assumption)
         have q823 : x19_2 < (l1.length : Int) := of_decide_eq_true (by first | (with_reducible assumption) | assumption)
         obtain ⟨ad823, e823, hx823_0, hx823_1, hx823_2, hx823_3⟩ := at_T57 HR1.out x19_2 p823 q823
         have hw823_3 := hx823_3
         have hw823_2 := hx823_2
         have hw823_1 := hx823_1
         have hw823_0 := hx823_0
         obtain rfl : ad821 = ad823 := (by injection e823)
         replace hx823_0 := (HB.out.cell (World.block_lt_of_cell? w _ hx823_0)).trans hx823_0
         replace hx823_1 := (HB.out.cell (World.block_lt_of_cell? w _ hx823_1)).trans hx823_1
         replace hx823_2 := (HB.out.cell (World.block_lt_of_cell? w _ hx823_2)).trans hx823_2
         replace hx823_3 := (HB.out.cell (World.block_lt_of_cell? w _ hx823_3)).trans hx823_3
         replace p823 := eq_true p823
         replace q823 := eq_true q823
         refine start_ (n := 8) (S := fun w' => w'.cell? ⟨gb782, 0, none⟩ = some (.string a3_0) ∧ w'.cell? ⟨gb782, 1, none⟩ = some (.string a3_1) ∧ w'.cell? ⟨gb782, 2, none⟩ = some (.int .i64 a3_2) ∧ w'.cell? ⟨gb782, 3, none⟩ = some (.int .i64 a3_3) ∧ w'.cell? (ad821.add ((x19_2).toNat * 4)) = some (.string ((rd_T57 l1 x19_2).f0)) ∧ w'.cell? ⟨(ad821.add ((x19_2).toNat * 4)).block, (ad821.add ((x19_2).toNat * 4)).off + 1, none⟩ = some (.string ((rd_T57 l1 x19_2).f1)) ∧ w'.cell? ⟨(ad821.add ((x19_2).toNat * 4)).block, (ad821.add ((x19_2).toNat * 4)).off + 2, none⟩ = some (.int .i64 ((rd_T57 l1 x19_2).f2.f0)) ∧ w'.cell? ⟨(ad821.add ((x19_2).toNat * 4)).block, (ad821.add ((x19_2).toNat * 4)).off + 3, none⟩ = some (.int .i64 ((rd_T57 l1 x19_2).f2.f1))) (ds := []) #[O,O,O,O,O,O,O,O] (by kernel_rfl) rfl rfl ⟨(blk_cell BK782.out 0).trans rfl, (blk_cell BK782.out 1).trans rfl, (blk_cell BK782.out 2).trans rfl, (blk_cell BK782.out 3).trans rfl, ((HB.out.cell (World.block_lt_of_cell? w _ hw823_0)).trans hw823_0), ((HB.out.cell (World.block_lt_of_cell? w _ hw823_1)).trans hw823_1), ((HB.out.cell (World.block_lt_of_cell? w _ hw823_2)).trans hw823_2), ((HB.out.cell (World.block_lt_of_cell? w _ hw823_3)).trans hw823_3)⟩ (fun hHeld => ?_); refine with_tabW law08_PairTells.tab17 law08_PairTells.bits17 (fun HT_ HW_ => ?_)
         generalize w61.drew = w62 at BK782 HB hx823_0 hx823_1 hx823_2 hx823_3 hHeld ⊢
         refine sqP (i := 0) (N := some 102) (v := ?_) (a' := ?_) #[I,O,O,O,O,O,O,O] rfl rfl HT_.out (Or.inl ⟨by rfl, ?_⟩) ?_ ?_
         rotate_left
         ·intro w'
          go_simp
          with_reducible rfl
         rotate_left
         ·simp only [Act.put, sqA, sqB, sqC, i64_w, i32_w]
          rfl
         refine sqP (i := 1) (N := some 103) (v := ?_) (a' := ?_) #[I,I,O,O,O,O,O,O] rfl rfl HT_.out (Or.inl ⟨by rfl, ?_⟩) ?_ ?_
         rotate_left
         ·intro w'
          go_simp
          with_reducible rfl
         rotate_left
         ·simp only [Act.put, sqA, sqB, sqC, i64_w, i32_w]
          rfl
         refine sqP (i := 2) (N := some 104) (v := ?_) (a' := ?_) #[I,I,I,O,O,O,O,O] rfl rfl HT_.out (Or.inl ⟨by rfl, ?_⟩) ?_ ?_
         rotate_left
         ·intro w'
          go_simp
          with_reducible rfl
         rotate_left
         ·simp only [Act.put, sqA, sqB, sqC, i64_w, i32_w]
          rfl
         refine sqP (i := 6) (N := some 108) (v := ?_) (a' := ?_) #[I,I,I,O,O,O,I,O] rfl rfl HT_.out (Or.inl ⟨by rfl, ?_⟩) ?_ ?_
         rotate_left
         ·intro w'
          go_simp
          with_reducible rfl
         rotate_left
         ·simp only [Act.put, sqA, sqB, sqC, i64_w, i32_w]
          rfl
         refine take_ (i := 3) (N := some 105) (v := ?_) (a' := ?_) #[I,I,I,I,O,O,I,O] rfl rfl (take_ofW HT_.out HW_.out (by kernel_rfl)) (fun _ _ _ h => h) (Or.inl ⟨by rfl, ?_⟩) hHeld ?_ ?_
         rotate_left
         ·rintro w' ⟨s0, s1, s2, s3, s4, s5, s6, s7⟩
          go_simp
          with_reducible rfl
         rotate_left
         ·simp only [Act.put, sqA, sqB, sqC, i64_w, i32_w]
          rfl
         refine take_ (i := 4) (N := some 106) (v := ?_) (a' := ?_) #[I,I,I,I,I,O,I,O] rfl rfl (take_ofW HT_.out HW_.out (by kernel_rfl)) (fun _ _ _ h => h) (Or.inl ⟨by rfl, ?_⟩) hHeld ?_ ?_
         rotate_left
         ·rintro w' ⟨s0, s1, s2, s3, s4, s5, s6, s7⟩
          go_simp
          with_reducible rfl
         rotate_left
         ·simp only [Act.put, sqA, sqB, sqC, i64_w, i32_w]
          rfl
         refine one_ (i := 5) (N := some 107) #[I,I,I,I,I,I,I,O] rfl rfl (one_of HT_.out (by kernel_rfl)) (by decide) (fun K hK => ?_)
         refine goes_ Try.func59 (by kernel_rfl) rfl #[.agg #[.string ((rd_T57 l1 x19_2).f0), .string ((rd_T57 l1 x19_2).f1), .int .i64 ((rd_T57 l1 x19_2).f2.f0), .int .i64 ((rd_T57 l1 x19_2).f2.f1)], .agg #[.string a3_0, .string a3_1, .int .i64 a3_2, .int .i64 a3_3]] (by rfl) rfl rfl (by (try simp only [List.map_toArray, List.map_cons, List.map_nil]); first | done | rfl | (simp only [List.length_drop, List.length_take]; rfl)) ?_
         with_reducible refine (pair_Less.calls k2 ((rd_T57 l1 x19_2).f0) ((rd_T57 l1 x19_2).f1) ((rd_T57 l1 x19_2).f2.f0) ((rd_T57 l1 x19_2).f2.f1) a3_0 a3_1 a3_2 a3_3 t824 _ A58.out).mono ?_
         rintro e w63 ⟨rfl, hb⟩
         refine ⟨_, rfl, ?_⟩
         have n0_ := Aside0.mk (blk_below (g := gb782) (o := .cells #[.string a3_0, .string a3_1, .int .i64 a3_2, .int .i64 a3_3] 57 (0, 0)) (by (with_reducible repeat (first | apply blN | apply blD | apply blA)); exact BK782.out) hb)
         have n1_ := Aside0.mk (below_step (by repeat (first | (with_reducible first | exact HB.out | apply below_alloc | apply pw_below_drewN | apply below_drew1 | refine below_set ?_ GE782.out) | exact HB.out)) hb)
         clear BK782
         clear HB
         have BK782 := n0_
         have HB := n1_
         clear n0_ n1_
         (try clear hb)
         (try clear hb2)
         (try clear hk)
         (try clear hi)
         refine hK.out _ _ ⟨(blk_cell BK782.out 0).trans rfl, (blk_cell BK782.out 1).trans rfl, (blk_cell BK782.out 2).trans rfl, (blk_cell BK782.out 3).trans rfl, ((HB.out.cell (World.block_lt_of_cell? w _ hw823_0)).trans hw823_0), ((HB.out.cell (World.block_lt_of_cell? w _ hw823_1)).trans hw823_1), ((HB.out.cell (World.block_lt_of_cell? w _ hw823_2)).trans hw823_2), ((HB.out.cell (World.block_lt_of_cell? w _ hw823_3)).trans hw823_3)⟩ (fun hHeld => ?_)
         clear hK K
         refine norm_ (a' := ?_) ?_ ?_
         rotate_left
         ·show Act.put _ (some 107) _ = _
          simp only [Act.put, sqA, sqB, sqC, i64_w, i32_w]
          rfl
         refine sqP (i := 7) (N := some 109) (v := ?_) (a' := ?_) #[I,I,I,I,I,I,I,I] rfl rfl HT_.out (Or.inl ⟨by rfl, ?_⟩) ?_ ?_
         rotate_left
         ·intro w'
          go_simp
          with_reducible rfl
         rotate_left
         ·simp only [Act.put, sqA, sqB, sqC, i64_w, i32_w]
          rfl
         refine done_ (done_of HT_.out (by kernel_rfl)) ?_
         try go_wp2
         go_ret
         exact ⟨by first | rfl | (simp [errW_none, errW_some] <;> rfl) | (simp [*, errW_none, errW_some] <;> rfl), by repeat (first | (with_reducible first | exact HB.out | apply below_alloc | apply pw_below_drewN | apply below_drew1 | refine below_set ?_ GE782.out) | exact HB.out)⟩
        ·rw [if_neg c59] at H
         have c59b0 : (t824 != t822) = false := by simpa using c59
         (try (have c59b1 : decide (t824 = t822) = true := by simpa using c59))
         (try (have c59b2 : (t824 == t822) = true := by simpa using c59))
         clear c59
         have H' := Aside0.mk H
         clear H
         try go_wp2
         have n0_ := Aside0.mk (blk_drew BK782.out)
         have n1_ := Aside0.mk (below_drew1 HB.out)
         clear BK782
         clear HB
         have BK782 := n0_
         have HB := n1_
         clear n0_ n1_
         have p821 : 0 ≤ (x19_2 : Int) := of_decide_eq_true (by first | (with_reducible assumption) | assumption)
         have q821 : x19_2 < (l1.length : Int) := of_decide_eq_true (by first | (with_reducible assumption) | assumption)
         obtain ⟨ad821, e821, hx821_0, hx821_1, hx821_2, hx821_3⟩ := at_T57 HR1.out x19_2 p821 q821
         have hw821_3 := hx821_3
         have hw821_2 := hx821_2
         have hw821_1 := hx821_1
         have hw821_0 := hx821_0
         cases e821
         replace hx821_0 := (HB.out.cell (World.block_lt_of_cell? w _ hx821_0)).trans hx821_0
         replace hx821_1 := (HB.out.cell (World.block_lt_of_cell? w _ hx821_1)).trans hx821_1
         replace hx821_2 := (HB.out.cell (World.block_lt_of_cell? w _ hx821_2)).trans hx821_2
         replace hx821_3 := (HB.out.cell (World.block_lt_of_cell? w _ hx821_3)).trans hx821_3
         replace p821 := eq_true p821
         replace q821 := eq_true q821
         refine start_ (n := 7) (S := fun w' => w'.cell? ⟨gb782, 0, none⟩ = some (.string a3_0) ∧ w'.cell? ⟨gb782, 1, none⟩ = some (.string a3_1) ∧ w'.cell? ⟨gb782, 2, none⟩ = some (.int .i64 a3_2) ∧ w'.cell? ⟨gb782, 3, none⟩ = some (.int .i64 a3_3) ∧ w'.cell? (ad821.add ((x19_2).toNat * 4)) = some (.string ((rd_T57 l1 x19_2).f0)) ∧ w'.cell? ⟨(ad821.add ((x19_2).toNat * 4)).block, (ad821.add ((x19_2).toNat * 4)).off + 1, none⟩ = some (.string ((rd_T57 l1 x19_2).f1)) ∧ w'.cell? ⟨(ad821.add ((x19_2).toNat * 4)).block, (ad821.add ((x19_2).toNat * 4)).off + 2, none⟩ = some (.int .i64 ((rd_T57 l1 x19_2).f2.f0)) ∧ w'.cell? ⟨(ad821.add ((x19_2).toNat * 4)).block, (ad821.add ((x19_2).toNat * 4)).off + 3, none⟩ = some (.int .i64 ((rd_T57 l1 x19_2).f2.f1))) (ds := []) #[O,O,O,O,O,O,O] (by kernel_rfl) rfl rfl ⟨(blk_cell BK782.out 0).trans rfl, (blk_cell BK782.out 1).trans rfl, (blk_cell BK782.out 2).trans rfl, (blk_cell BK782.out 3).trans rfl, ((HB.out.cell (World.block_lt_of_cell? w _ hw821_0)).trans hw821_0), ((HB.out.cell (World.block_lt_of_cell? w _ hw821_1)).trans hw821_1), ((HB.out.cell (World.block_lt_of_cell? w _ hw821_2)).trans hw821_2), ((HB.out.cell (World.block_lt_of_cell? w _ hw821_3)).trans hw821_3)⟩ (fun hHeld => ?_)
         generalize wr.drew = w64 at BK782 HB hx821_0 hx821_1 hx821_2 hx821_3 hHeld ⊢
         refine pure_ (i := 0) (N := some 96) (v := ?_) (a' := ?_) #[I,O,O,O,O,O,O] rfl rfl (by kernel_rfl) (fun _ _ _ h => h) (Or.inl ⟨by rfl, ?_⟩) ?_ ?_
         rotate_left
         ·intro w'
          go_simp
          with_reducible rfl
         rotate_left
         ·simp only [Act.put, sqA, sqB, sqC, i64_w, i32_w]
          rfl
         refine pure_ (i := 1) (N := some 97) (v := ?_) (a' := ?_) #[I,I,O,O,O,O,O] rfl rfl (by kernel_rfl) (fun _ _ _ h => h) (Or.inl ⟨by rfl, ?_⟩) ?_ ?_
         rotate_left
         ·intro w'
          go_simp
          with_reducible rfl
         rotate_left
         ·simp only [Act.put, sqA, sqB, sqC, i64_w, i32_w]
          rfl
         refine pure_ (i := 2) (N := some 98) (v := ?_) (a' := ?_) #[I,I,I,O,O,O,O] rfl rfl (by kernel_rfl) (fun _ _ _ h => h) (Or.inl ⟨by rfl, ?_⟩) ?_ ?_
         rotate_left
         ·intro w'
          go_simp
          with_reducible rfl
         rotate_left
         ·simp only [Act.put, sqA, sqB, sqC, i64_w, i32_w]
          rfl
         refine take_ (i := 3) (N := some 99) (v := ?_) (a' := ?_) #[I,I,I,I,O,O,O] rfl rfl (by kernel_rfl) (fun _ _ _ h => h) (Or.inl ⟨by rfl, ?_⟩) hHeld ?_ ?_
         rotate_left
         ·rintro w' ⟨s0, s1, s2, s3, s4, s5, s6, s7⟩
          go_simp
          with_reducible rfl
         rotate_left
         ·simp only [Act.put, sqA, sqB, sqC, i64_w, i32_w]
          rfl
         refine take_ (i := 4) (N := some 100) (v := ?_) (a' := ?_) #[I,I,I,I,I,O,O] rfl rfl (by kernel_rfl) (fun _ _ _ h => h) (Or.inl ⟨by rfl, ?_⟩) hHeld ?_ ?_
         rotate_left
         ·rintro w' ⟨s0, s1, s2, s3, s4, s5, s6, s7⟩
          go_simp
          with_reducible rfl
         rotate_left
         ·simp only [Act.put, sqA, sqB, sqC, i64_w, i32_w]
          rfl
         refine one_ (i := 5) (N := some 101) #[I,I,I,I,I,I,O] rfl rfl (by kernel_rfl) (by decide) (fun K hK => ?_)
         refine goes_ Try.func58 (by kernel_rfl) rfl #[.agg #[.string ((rd_T57 l1 x19_2).f0), .string ((rd_T57 l1 x19_2).f1), .int .i64 ((rd_T57 l1 x19_2).f2.f0), .int .i64 ((rd_T57 l1 x19_2).f2.f1)], .agg #[.string a3_0, .string a3_1, .int .i64 a3_2, .int .i64 a3_3]] (by rfl) rfl rfl (by (try simp only [List.map_toArray, List.map_cons, List.map_nil]); first | done | rfl | (simp only [List.length_drop, List.length_take]; rfl)) ?_
         with_reducible refine (ref08_Less.calls ((rd_T57 l1 x19_2).f0) ((rd_T57 l1 x19_2).f1) ((rd_T57 l1 x19_2).f2.f0) ((rd_T57 l1 x19_2).f2.f1) a3_0 a3_1 a3_2 a3_3 t822 _ A57.out).mono ?_
         rintro e w65 ⟨rfl, hb⟩
         refine ⟨_, rfl, ?_⟩
         have n0_ := Aside0.mk (blk_below (g := gb782) (o := .cells #[.string a3_0, .string a3_1, .int .i64 a3_2, .int .i64 a3_3] 57 (0, 0)) (by (with_reducible repeat (first | apply blN | apply blD | apply blA)); exact BK782.out) hb)
         have n1_ := Aside0.mk (below_step (by repeat (first | (with_reducible first | exact HB.out | apply below_alloc | apply pw_below_drewN | apply below_drew1 | refine below_set ?_ GE782.out) | exact HB.out)) hb)
         clear BK782
         clear HB
         have BK782 := n0_
         have HB := n1_
         clear n0_ n1_
         (try clear hb)
         (try clear hb2)
         (try clear hk)
         (try clear hi)
         refine hK.out _ _ ⟨(blk_cell BK782.out 0).trans rfl, (blk_cell BK782.out 1).trans rfl, (blk_cell BK782.out 2).trans rfl, (blk_cell BK782.out 3).trans rfl, ((HB.out.cell (World.block_lt_of_cell? w _ hw821_0)).trans hw821_0), ((HB.out.cell (World.block_lt_of_cell? w _ hw821_1)).trans hw821_1), ((HB.out.cell (World.block_lt_of_cell? w _ hw821_2)).trans hw821_2), ((HB.out.cell (World.block_lt_of_cell? w _ hw821_3)).trans hw821_3)⟩ (fun hHeld => ?_)
         clear hK K
         refine norm_ (a' := ?_) ?_ ?_
         rotate_left
         ·show Act.put _ (some 101) _ = _
          simp only [Act.put, sqA, sqB, sqC, i64_w, i32_w]
          rfl
         refine pure_ (i := 6) (N := some 20) (v := ?_) (a' := ?_) #[I,I,I,I,I,I,I] rfl rfl (by kernel_rfl) (fun _ _ _ h => h) (Or.inl ⟨by rfl, ?_⟩) ?_ ?_
         rotate_left
         ·intro w'
          go_simp
          with_reducible rfl
         rotate_left
         ·simp only [Act.put, sqA, sqB, sqC, i64_w, i32_w]
          rfl
         refine done_ (by kernel_rfl) ?_
         try go_wp2
         have n0_ := Aside0.mk (blk_drew BK782.out)
         have n1_ := Aside0.mk (below_drew1 HB.out)
         clear BK782
         clear HB
         have BK782 := n0_
         have HB := n1_
         clear n0_ n1_
         have p823 : 0 ≤ (x19_2 : Int) := of_decide_eq_true (by first | (with_reducible assumption) | assumption)
         have q823 : x19_2 < (l1.length : Int) := of_decide_eq_true (by first | (with_reducible assumption) | assumption)
         obtain ⟨ad823, e823, hx823_0, hx823_1, hx823_2, hx823_3⟩ := at_T57 HR1.out x19_2 p823 q823
         have hw823_3 := hx823_3
         have hw823_2 := hx823_2
         have hw823_1 := hx823_1
         have hw823_0 := hx823_0
         obtain rfl : ad821 = ad823 := (by injection e823)
         replace hx823_0 := (HB.out.cell (World.block_lt_of_cell? w _ hx823_0)).trans hx823_0
         replace hx823_1 := (HB.out.cell (World.block_lt_of_cell? w _ hx823_1)).trans hx823_1
         replace hx823_2 := (HB.out.cell (World.block_lt_of_cell? w _ hx823_2)).trans hx823_2
         replace hx823_3 := (HB.out.cell (World.block_lt_of_cell? w _ hx823_3)).trans hx823_3
         replace p823 := eq_true p823
         replace q823 := eq_true q823
         refine start_ (n := 8) (S := fun w' => w'.cell? ⟨gb782, 0, none⟩ = some (.string a3_0) ∧ w'.cell? ⟨gb782, 1, none⟩ = some (.string a3_1) ∧ w'.cell? ⟨gb782, 2, none⟩ = some (.int .i64 a3_2) ∧ w'.cell? ⟨gb782, 3, none⟩ = some (.int .i64 a3_3) ∧ w'.cell? (ad821.add ((x19_2).toNat * 4)) = some (.string ((rd_T57 l1 x19_2).f0)) ∧ w'.cell? ⟨(ad821.add ((x19_2).toNat * 4)).block, (ad821.add ((x19_2).toNat * 4)).off + 1, none⟩ = some (.string ((rd_T57 l1 x19_2).f1)) ∧ w'.cell? ⟨(ad821.add ((x19_2).toNat * 4)).block, (ad821.add ((x19_2).toNat * 4)).off + 2, none⟩ = some (.int .i64 ((rd_T57 l1 x19_2).f2.f0)) ∧ w'.cell? ⟨(ad821.add ((x19_2).toNat * 4)).block, (ad821.add ((x19_2).toNat * 4)).off + 3, none⟩ = some (.int .i64 ((rd_T57 l1 x19_2).f2.f1))) (ds := []) #[O,O,O,O,O,O,O,O] (by kernel_rfl) rfl rfl ⟨(blk_cell BK782.out 0).trans rfl, (blk_cell BK782.out 1).trans rfl, (blk_cell BK782.out 2).trans rfl, (blk_cell BK782.out 3).trans rfl, ((HB.out.cell (World.block_lt_of_cell? w _ hw823_0)).trans hw823_0), ((HB.out.cell (World.block_lt_of_cell? w _ hw823_1)).trans hw823_1), ((HB.out.cell (World.block_lt_of_cell? w _ hw823_2)).trans hw823_2), ((HB.out.cell (World.block_lt_of_cell? w _ hw823_3)).trans hw823_3)⟩ (fun hHeld => ?_); refine with_tabW law08_PairTells.tab17 law08_PairTells.bits17 (fun HT_ HW_ => ?_)
         generalize w65.drew = w66 at BK782 HB hx823_0 hx823_1 hx823_2 hx823_3 hHeld ⊢
         refine sqP (i := 0) (N := some 102) (v := ?_) (a' := ?_) #[I,O,O,O,O,O,O,O] rfl rfl HT_.out (Or.inl ⟨by rfl, ?_⟩) ?_ ?_
         rotate_left
         ·intro w'
          go_simp
          with_reducible rfl
         rotate_left
         ·simp only [Act.put, sqA, sqB, sqC, i64_w, i32_w]
          rfl
         refine sqP (i := 1) (N := some 103) (v := ?_) (a' := ?_) #[I,I,O,O,O,O,O,O] rfl rfl HT_.out (Or.inl ⟨by rfl, ?_⟩) ?_ ?_
         rotate_left
         ·intro w'
          go_simp
          with_reducible rfl
         rotate_left
         ·simp only [Act.put, sqA, sqB, sqC, i64_w, i32_w]
          rfl
         refine sqP (i := 2) (N := some 104) (v := ?_) (a' := ?_) #[I,I,I,O,O,O,O,O] rfl rfl HT_.out (Or.inl ⟨by rfl, ?_⟩) ?_ ?_
         rotate_left
         ·intro w'
          go_simp
          with_reducible rfl
         rotate_left
         ·simp only [Act.put, sqA, sqB, sqC, i64_w, i32_w]
          rfl
         refine sqP (i := 6) (N := some 108) (v := ?_) (a' := ?_) #[I,I,I,O,O,O,I,O] rfl rfl HT_.out (Or.inl ⟨by rfl, ?_⟩) ?_ ?_
         rotate_left
         ·intro w'
          go_simp
          with_reducible rfl
         rotate_left
         ·simp only [Act.put, sqA, sqB, sqC, i64_w, i32_w]
          rfl
         refine take_ (i := 3) (N := some 105) (v := ?_) (a' := ?_) #[I,I,I,I,O,O,I,O] rfl rfl (take_ofW HT_.out HW_.out (by kernel_rfl)) (fun _ _ _ h => h) (Or.inl ⟨by rfl, ?_⟩) hHeld ?_ ?_
         rotate_left
         ·rintro w' ⟨s0, s1, s2, s3, s4, s5, s6, s7⟩
          go_simp
          with_reducible rfl
         rotate_left
         ·simp only [Act.put, sqA, sqB, sqC, i64_w, i32_w]
          rfl
         refine take_ (i := 4) (N := some 106) (v := ?_) (a' := ?_) #[I,I,I,I,I,O,I,O] rfl rfl (take_ofW HT_.out HW_.out (by kernel_rfl)) (fun _ _ _ h => h) (Or.inl ⟨by rfl, ?_⟩) hHeld ?_ ?_
         rotate_left
         ·rintro w' ⟨s0, s1, s2, s3, s4, s5, s6, s7⟩
          go_simp
          with_reducible rfl
         rotate_left
         ·simp only [Act.put, sqA, sqB, sqC, i64_w, i32_w]
          rfl
         refine one_ (i := 5) (N := some 107) #[I,I,I,I,I,I,I,O] rfl rfl (one_of HT_.out (by kernel_rfl)) (by decide) (fun K hK => ?_)
         refine goes_ Try.func59 (by kernel_rfl) rfl #[.agg #[.string ((rd_T57 l1 x19_2).f0), .string ((rd_T57 l1 x19_2).f1), .int .i64 ((rd_T57 l1 x19_2).f2.f0), .int .i64 ((rd_T57 l1 x19_2).f2.f1)], .agg #[.string a3_0, .string a3_1, .int .i64 a3_2, .int .i64 a3_3]] (by rfl) rfl rfl (by (try simp only [List.map_toArray, List.map_cons, List.map_nil]); first | done | rfl | (simp only [List.length_drop, List.length_take]; rfl)) ?_
         with_reducible refine (pair_Less.calls k2 ((rd_T57 l1 x19_2).f0) ((rd_T57 l1 x19_2).f1) ((rd_T57 l1 x19_2).f2.f0) ((rd_T57 l1 x19_2).f2.f1) a3_0 a3_1 a3_2 a3_3 t824 _ A58.out).mono ?_
         rintro e w67 ⟨rfl, hb⟩
         refine ⟨_, rfl, ?_⟩
         have n0_ := Aside0.mk (blk_below (g := gb782) (o := .cells #[.string a3_0, .string a3_1, .int .i64 a3_2, .int .i64 a3_3] 57 (0, 0)) (by (with_reducible repeat (first | apply blN | apply blD | apply blA)); exact BK782.out) hb)
         have n1_ := Aside0.mk (below_step (by repeat (first | (with_reducible first | exact HB.out | apply below_alloc | apply pw_below_drewN | apply below_drew1 | refine below_set ?_ GE782.out) | exact HB.out)) hb)
         clear BK782
         clear HB
         have BK782 := n0_
         have HB := n1_
         clear n0_ n1_
         (try clear hb)
         (try clear hb2)
         (try clear hk)
         (try clear hi)
         refine hK.out _ _ ⟨(blk_cell BK782.out 0).trans rfl, (blk_cell BK782.out 1).trans rfl, (blk_cell BK782.out 2).trans rfl, (blk_cell BK782.out 3).trans rfl, ((HB.out.cell (World.block_lt_of_cell? w _ hw823_0)).trans hw823_0), ((HB.out.cell (World.block_lt_of_cell? w _ hw823_1)).trans hw823_1), ((HB.out.cell (World.block_lt_of_cell? w _ hw823_2)).trans hw823_2), ((HB.out.cell (World.block_lt_of_cell? w _ hw823_3)).trans hw823_3)⟩ (fun hHeld => ?_)
         clear hK K
         refine norm_ (a' := ?_) ?_ ?_
         rotate_left
         ·show Act.put _ (some 107) _ = _
          simp only [Act.put, sqA, sqB, sqC, i64_w, i32_w]
          rfl
         refine sqP (i := 7) (N := some 109) (v := ?_) (a' := ?_) #[I,I,I,I,I,I,I,I] rfl rfl HT_.out (Or.inl ⟨by rfl, ?_⟩) ?_ ?_
         rotate_left
         ·intro w'
          go_simp
          with_reducible rfl
         rotate_left
         ·simp only [Act.put, sqA, sqB, sqC, i64_w, i32_w]
          rfl
         refine done_ (done_of HT_.out (by kernel_rfl)) ?_
         try go_wp2
         go_roundg k2
         case measure => have := HJ9.out; have := HK2.out; omega
         case rel => exact ⟨(wrap64 (x19_2 + 1)), (by first | rfl | (simp; done) | (simp [*]; done)), H', ⟨by have := HJ9.out; have := HK2.out; omega⟩, ⟨by (with_reducible repeat (first | apply blN | apply blD | apply blA)); exact BK782.out⟩, ⟨by repeat (first | (with_reducible first | exact HB.out | apply below_alloc | apply pw_below_drewN | apply below_drew1 | refine below_set ?_ GE782.out) | exact HB.out)⟩⟩
       ·rw [if_neg c56] at H
        exact absurd H (by simp)
      ·rw [if_neg c55] at H
       have c55b0 : decide (x19_2 < (l1.length : Int)) = false := decide_eq_false c55
       clear c55
       replace H := Option.bind_eq_some_iff.mp H
       obtain ⟨t820, A680, H⟩ := H
       replace H : (if (t820 == t791) = true then (if t798 = true then (if t805 = true then (if t812 = true then (some t819) else (some false)) else (some false)) else (some false)) else (some false)) = some r := H
       have A68 := Aside0.mk A680
       clear A680
       by_cases c69 : (t820 == t791) = true
       ·rw [if_pos c69] at H
        have c69b0 : (t820 == t791) = true := c69
        (try (have c69b1 : decide (t820 = t791) = true := by simpa using c69))
        (try (have c69b2 : (t820 == t791) = true := by simpa using c69))
        clear c69
        by_cases c70 : t798 = true
        ·subst c70
         have H1 : (if t805 = true then (if t812 = true then (some t819) else (some false)) else (some false)) = some r := by rw [if_pos rfl] at H; exact H
         clear H
         have H := H1
         clear H1
         by_cases c71 : t805 = true
         ·subst c71
          have H1 : (if t812 = true then (some t819) else (some false)) = some r := by rw [if_pos rfl] at H; exact H
          clear H
          have H := H1
          clear H1
          by_cases c72 : t812 = true
          ·subst c72
           have H1 : (some t819) = some r := by rw [if_pos rfl] at H; exact H
           clear H
           have H := H1
           clear H1
           obtain rfl := Option.some.inj H
           go_wp2_with (first | ((with_reducible refine gate_callee (f := 60) rfl ?_); refine goesL_ (some 111) rfl rfl Try.func60 (by kernel_rfl) rfl #[.slice A1 l1.length c1] rfl (by (try simp only [List.map_toArray, List.map_cons, List.map_nil]); first | done | rfl | (simp only [List.length_drop, List.length_take]; rfl)) ?_; (with_reducible refine (pair_May.calls k2 _ _ l1 t820 _ ?side1 ?side2 A68.out).mono ?_); (case side1 => repeat (first | exact (Kd.C_below HR1.out HB.out) | (with_reducible refine Kd.C_alloc ?_ _) | (with_reducible refine Kd.C_drewN ?_ _) | (with_reducible refine Kd.C_drew ?_))); (case side2 => exact HC1.out); rintro e w73 ⟨rfl, hb⟩; refine ⟨_, rfl, ?_⟩; have n0_ := Aside0.mk (blk_below (g := gb782) (o := .cells #[.string a3_0, .string a3_1, .int .i64 a3_2, .int .i64 a3_3] 57 (0, 0)) (by (with_reducible repeat (first | apply blN | apply blD | apply blA)); exact BK782.out) hb); have n1_ := Aside0.mk (below_step (by repeat (first | (with_reducible first | exact HB.out | apply below_alloc | apply pw_below_drewN | apply below_drew1 | refine below_set ?_ GE782.out) | exact HB.out)) hb); clear BK782; clear HB; have BK782 := n0_; have HB := n1_; clear n0_ n1_; (try clear hb); (try clear hb2); (try clear hk); (try clear hi)))
           go_ret
           exact ⟨by first | rfl | (simp [errW_none, errW_some] <;> rfl) | (simp [*, errW_none, errW_some] <;> rfl), by repeat (first | (with_reducible first | exact HB.out | apply below_alloc | apply pw_below_drewN | apply below_drew1 | refine below_set ?_ GE782.out) | exact HB.out)⟩
          ·replace c72 := Bool.eq_false_iff.mpr c72
           subst c72
           have H1 : (some false) = some r := by rw [if_neg (show ¬ (false = true) by decide)] at H; exact H
           clear H
           have H := H1
           clear H1
           obtain rfl := Option.some.inj H
           go_wp2_with (first | ((with_reducible refine gate_callee (f := 60) rfl ?_); refine goesL_ (some 111) rfl rfl Try.func60 (by kernel_rfl) rfl #[.slice A1 l1.length c1] rfl (by (try simp only [List.map_toArray, List.map_cons, List.map_nil]); first | done | rfl | (simp only [List.length_drop, List.length_take]; rfl)) ?_; (with_reducible refine (pair_May.calls k2 _ _ l1 t820 _ ?side1 ?side2 A68.out).mono ?_); (case side1 => repeat (first | exact (Kd.C_below HR1.out HB.out) | (with_reducible refine Kd.C_alloc ?_ _) | (with_reducible refine Kd.C_drewN ?_ _) | (with_reducible refine Kd.C_drew ?_))); (case side2 => exact HC1.out); rintro e w74 ⟨rfl, hb⟩; refine ⟨_, rfl, ?_⟩; have n0_ := Aside0.mk (blk_below (g := gb782) (o := .cells #[.string a3_0, .string a3_1, .int .i64 a3_2, .int .i64 a3_3] 57 (0, 0)) (by (with_reducible repeat (first | apply blN | apply blD | apply blA)); exact BK782.out) hb); have n1_ := Aside0.mk (below_step (by repeat (first | (with_reducible first | exact HB.out | apply below_alloc | apply pw_below_drewN | apply below_drew1 | refine below_set ?_ GE782.out) | exact HB.out)) hb); clear BK782; clear HB; have BK782 := n0_; have HB := n1_; clear n0_ n1_; (try clear hb); (try clear hb2); (try clear hk); (try clear hi)))
           go_ret
           exact ⟨by first | rfl | (simp [errW_none, errW_some] <;> rfl) | (simp [*, errW_none, errW_some] <;> rfl), by repeat (first | (with_reducible first | exact HB.out | apply below_alloc | apply pw_below_drewN | apply below_drew1 | refine below_set ?_ GE782.out) | exact HB.out)⟩
         ·replace c71 := Bool.eq_false_iff.mpr c71
          subst c71
          have H1 : (some false) = some r := by rw [if_neg (show ¬ (false = true) by decide)] at H; exact H
          clear H
          have H := H1
          clear H1
          obtain rfl := Option.some.inj H
          go_wp2_with (first | ((with_reducible refine gate_callee (f := 60) rfl ?_); refine goesL_ (some 111) rfl rfl Try.func60 (by kernel_rfl) rfl #[.slice A1 l1.length c1] rfl (by (try simp only [List.map_toArray, List.map_cons, List.map_nil]); first | done | rfl | (simp only [List.length_drop, List.length_take]; rfl)) ?_; (with_reducible refine (pair_May.calls k2 _ _ l1 t820 _ ?side1 ?side2 A68.out).mono ?_); (case side1 => repeat (first | exact (Kd.C_below HR1.out HB.out) | (with_reducible refine Kd.C_alloc ?_ _) | (with_reducible refine Kd.C_drewN ?_ _) | (with_reducible refine Kd.C_drew ?_))); (case side2 => exact HC1.out); rintro e w75 ⟨rfl, hb⟩; refine ⟨_, rfl, ?_⟩; have n0_ := Aside0.mk (blk_below (g := gb782) (o := .cells #[.string a3_0, .string a3_1, .int .i64 a3_2, .int .i64 a3_3] 57 (0, 0)) (by (with_reducible repeat (first | apply blN | apply blD | apply blA)); exact BK782.out) hb); have n1_ := Aside0.mk (below_step (by repeat (first | (with_reducible first | exact HB.out | apply below_alloc | apply pw_below_drewN | apply below_drew1 | refine below_set ?_ GE782.out) | exact HB.out)) hb); clear BK782; clear HB; have BK782 := n0_; have HB := n1_; clear n0_ n1_; (try clear hb); (try clear hb2); (try clear hk); (try clear hi)))
          go_ret
          exact ⟨by first | rfl | (simp [errW_none, errW_some] <;> rfl) | (simp [*, errW_none, errW_some] <;> rfl), by repeat (first | (with_reducible first | exact HB.out | apply below_alloc | apply pw_below_drewN | apply below_drew1 | refine below_set ?_ GE782.out) | exact HB.out)⟩
        ·replace c70 := Bool.eq_false_iff.mpr c70
         subst c70
         have H1 : (some false) = some r := by rw [if_neg (show ¬ (false = true) by decide)] at H; exact H
         clear H
         have H := H1
         clear H1
         obtain rfl := Option.some.inj H
         go_wp2_with (first | ((with_reducible refine gate_callee (f := 60) rfl ?_); refine goesL_ (some 111) rfl rfl Try.func60 (by kernel_rfl) rfl #[.slice A1 l1.length c1] rfl (by (try simp only [List.map_toArray, List.map_cons, List.map_nil]); first | done | rfl | (simp only [List.length_drop, List.length_take]; rfl)) ?_; (with_reducible refine (pair_May.calls k2 _ _ l1 t820 _ ?side1 ?side2 A68.out).mono ?_); (case side1 => repeat (first | exact (Kd.C_below HR1.out HB.out) | (with_reducible refine Kd.C_alloc ?_ _) | (with_reducible refine Kd.C_drewN ?_ _) | (with_reducible refine Kd.C_drew ?_))); (case side2 => exact HC1.out); rintro e w76 ⟨rfl, hb⟩; refine ⟨_, rfl, ?_⟩; have n0_ := Aside0.mk (blk_below (g := gb782) (o := .cells #[.string a3_0, .string a3_1, .int .i64 a3_2, .int .i64 a3_3] 57 (0, 0)) (by (with_reducible repeat (first | apply blN | apply blD | apply blA)); exact BK782.out) hb); have n1_ := Aside0.mk (below_step (by repeat (first | (with_reducible first | exact HB.out | apply below_alloc | apply pw_below_drewN | apply below_drew1 | refine below_set ?_ GE782.out) | exact HB.out)) hb); clear BK782; clear HB; have BK782 := n0_; have HB := n1_; clear n0_ n1_; (try clear hb); (try clear hb2); (try clear hk); (try clear hi)))
         go_ret
         exact ⟨by first | rfl | (simp [errW_none, errW_some] <;> rfl) | (simp [*, errW_none, errW_some] <;> rfl), by repeat (first | (with_reducible first | exact HB.out | apply below_alloc | apply pw_below_drewN | apply below_drew1 | refine below_set ?_ GE782.out) | exact HB.out)⟩
       ·rw [if_neg c69] at H
        have c69b0 : (t820 == t791) = false := by simpa using c69
        (try (have c69b1 : decide (t820 = t791) = false := by simpa using c69))
        (try (have c69b2 : (t820 == t791) = false := by simpa using c69))
        (try (have c69b3 : ¬ (t820 = t791) := by simpa using c69))
        clear c69
        obtain rfl := Option.some.inj H
        go_wp2_with (first | ((with_reducible refine gate_callee (f := 60) rfl ?_); refine goesL_ (some 111) rfl rfl Try.func60 (by kernel_rfl) rfl #[.slice A1 l1.length c1] rfl (by (try simp only [List.map_toArray, List.map_cons, List.map_nil]); first | done | rfl | (simp only [List.length_drop, List.length_take]; rfl)) ?_; (with_reducible refine (pair_May.calls k2 _ _ l1 t820 _ ?side1 ?side2 A68.out).mono ?_); (case side1 => repeat (first | exact (Kd.C_below HR1.out HB.out) | (with_reducible refine Kd.C_alloc ?_ _) | (with_reducible refine Kd.C_drewN ?_ _) | (with_reducible refine Kd.C_drew ?_))); (case side2 => exact HC1.out); rintro e w77 ⟨rfl, hb⟩; refine ⟨_, rfl, ?_⟩; have n0_ := Aside0.mk (blk_below (g := gb782) (o := .cells #[.string a3_0, .string a3_1, .int .i64 a3_2, .int .i64 a3_3] 57 (0, 0)) (by (with_reducible repeat (first | apply blN | apply blD | apply blA)); exact BK782.out) hb); have n1_ := Aside0.mk (below_step (by repeat (first | (with_reducible first | exact HB.out | apply below_alloc | apply pw_below_drewN | apply below_drew1 | refine below_set ?_ GE782.out) | exact HB.out)) hb); clear BK782; clear HB; have BK782 := n0_; have HB := n1_; clear n0_ n1_; (try clear hb); (try clear hb2); (try clear hk); (try clear hi)))
        go_ret
        exact ⟨by first | rfl | (simp [errW_none, errW_some] <;> rfl) | (simp [*, errW_none, errW_some] <;> rfl), by repeat (first | (with_reducible first | exact HB.out | apply below_alloc | apply pw_below_drewN | apply below_drew1 | refine below_set ?_ GE782.out) | exact HB.out)⟩

end Go.Proofs.Ytannmdngejdjkaa.L
