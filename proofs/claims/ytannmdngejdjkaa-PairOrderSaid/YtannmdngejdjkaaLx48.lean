-- PRINTED by print.py (a twelfth state) out of the translation. Not trusted: Lean checks it.
import Derived.Test.YtannmdngejdjkaaLx0
import Derived.Test.YtannmdngejdjkaaLx33
import Derived.Test.YtannmdngejdjkaaLx34
import Derived.Test.YtannmdngejdjkaaLx35
import Derived.Test.YtannmdngejdjkaaLx38
import Derived.Test.YtannmdngejdjkaaLHPairAdd
import Derived.Test.YtannmdngejdjkaaLHPairDel
namespace Go.Proofs.Ytannmdngejdjkaa.L
open Go.RowKit Go.Proofs.YtannmdngejdjkaaW.PrintWords Go.Proofs.YtannmdngejdjkaaW.PrintLast Go.Proofs.YtannmdngejdjkaaW.PrintMore
attribute [local go_sem] max2_int min2_int max_two min_two max_three min_three max_four min_four   -- for this text's walks alone
set_option linter.unusedVariables false
set_option linter.unusedSimpArgs false

/-! ### law08_PairOrder: function 18 -/
mutual
def law08_PairOrder.j0 : Nat → List (S57) → Bool → Bool → ByteArray → ByteArray → Int → Int → ByteArray → ByteArray → Int → Int → Option (Bool)
 | 0, _, _, _, _, _, _, _, _, _, _, _ => none
 | k + 1, x0, x7, x49, x914000, x914001, x914002, x914003, x915000, x915001, x915002, x915003 => if x49 = true then (some x7) else ((pair_Add.f x0 x914000 x914001 x914002 x914003).bind fun t930 => ((pair_Add.f t930 x914000 x914001 x914002 x914003).bind fun t933 => ((ref08_Same.f k t933 t930).bind fun t936 => ((pair_Add.f t930 x915000 x915001 x915002 x915003).bind fun t937 => ((pair_Add.f x0 x915000 x915001 x915002 x915003).bind fun t940 => ((pair_Add.f t940 x914000 x914001 x914002 x914003).bind fun t943 => ((ref08_Same.f k t937 t943).bind fun t946 => ((pair_Del.f x0 x914000 x914001).bind fun t947 => ((pair_Del.f t947 x914000 x914001).bind fun t950 => ((ref08_Same.f k t950 t947).bind fun t953 => (if t936 = true then (if t946 = true then (law08_PairOrder.j1 k x0 (!t953) x914000 x914001 x914002 x914003 x915000 x915001 x915002 x915003) else (law08_PairOrder.j1 k x0 true x914000 x914001 x914002 x914003 x915000 x915001 x915002 x915003)) else (law08_PairOrder.j1 k x0 true x914000 x914001 x914002 x914003 x915000 x915001 x915002 x915003))))))))))))
def law08_PairOrder.j1 : Nat → List (S57) → Bool → ByteArray → ByteArray → Int → Int → ByteArray → ByteArray → Int → Int → Option (Bool)
 | 0, _, _, _, _, _, _, _, _, _, _ => none
 | k + 1, x0, x91, x914000, x914001, x914002, x914003, x915000, x915001, x915002, x915003 => if x91 = true then (some false) else (if x914000.toList = x915000.toList then (law08_PairOrder.j2 k x0 (x914001.toList == x915001.toList) x914000 x914001 x914002 x914003 x915000 x915001 x915002 x915003) else (law08_PairOrder.j2 k x0 false x914000 x914001 x914002 x914003 x915000 x915001 x915002 x915003))
def law08_PairOrder.j2 : Nat → List (S57) → Bool → ByteArray → ByteArray → Int → Int → ByteArray → ByteArray → Int → Int → Option (Bool)
 | 0, _, _, _, _, _, _, _, _, _, _ => none
 | k + 1, x0, x103, x914000, x914001, x914002, x914003, x915000, x915001, x915002, x915003 => if x103 = true then (some true) else ((pair_Add.f x0 x914000 x914001 x914002 x914003).bind fun t954 => ((pair_Del.f t954 x915000 x915001).bind fun t957 => ((pair_Del.f x0 x915000 x915001).bind fun t960 => ((pair_Add.f t960 x914000 x914001 x914002 x914003).bind fun t963 => ((ref08_Same.f k t957 t963).bind fun t966 => (some t966))))))
end
def law08_PairOrder.f (k : Nat) (l0 : List (S57)) (a1_0 : ByteArray) (a1_1 : ByteArray) (a1_2 : Int) (a1_3 : Int) (a2_0 : ByteArray) (a2_1 : ByteArray) (a2_2 : Int) (a2_3 : Int) : Option (Bool) := (law08_awake.f k).bind fun t915 => ((law08_Few.f k l0).bind fun t916 => ((law08_Few.f k (([(⟨a1_0, a1_1, (⟨a1_2, a1_3⟩ : S24)⟩ : S57), (⟨a2_0, a2_1, (⟨a2_2, a2_3⟩ : S24)⟩ : S57)] : List (S57)))).bind fun t920 => (if t915 = true then (if t916 = true then (if t920 = true then ((pair_May.f k l0).bind fun t921 => (if t921 = true then ((pair_May.f k (([(⟨a1_0, a1_1, (⟨a1_2, a1_3⟩ : S24)⟩ : S57)] : List (S57)))).bind fun t925 => (if t925 = true then ((pair_May.f k (([(⟨a2_0, a2_1, (⟨a2_2, a2_3⟩ : S24)⟩ : S57)] : List (S57)))).bind fun t929 => (law08_PairOrder.j0 k l0 t915 (!t929) a1_0 a1_1 a1_2 a1_3 a2_0 a2_1 a2_2 a2_3)) else (law08_PairOrder.j0 k l0 t915 true a1_0 a1_1 a1_2 a1_3 a2_0 a2_1 a2_2 a2_3))) else (law08_PairOrder.j0 k l0 t915 true a1_0 a1_1 a1_2 a1_3 a2_0 a2_1 a2_2 a2_3))) else (law08_PairOrder.j0 k l0 t915 true a1_0 a1_1 a1_2 a1_3 a2_0 a2_1 a2_2 a2_3)) else (law08_PairOrder.j0 k l0 t915 true a1_0 a1_1 a1_2 a1_3 a2_0 a2_1 a2_2 a2_3)) else (law08_PairOrder.j0 k l0 t915 true a1_0 a1_1 a1_2 a1_3 a2_0 a2_1 a2_2 a2_3))))
theorem law08_PairOrder.mono_l : ∀ k, (∀ y0 y1 y2 y3 y4 y5 y6 y7 y8 y9 y10, LeO (law08_PairOrder.j0 k y0 y1 y2 y3 y4 y5 y6 y7 y8 y9 y10) (law08_PairOrder.j0 (k + 1) y0 y1 y2 y3 y4 y5 y6 y7 y8 y9 y10)) ∧ (∀ y0 y1 y2 y3 y4 y5 y6 y7 y8 y9, LeO (law08_PairOrder.j1 k y0 y1 y2 y3 y4 y5 y6 y7 y8 y9) (law08_PairOrder.j1 (k + 1) y0 y1 y2 y3 y4 y5 y6 y7 y8 y9)) ∧ (∀ y0 y1 y2 y3 y4 y5 y6 y7 y8 y9, LeO (law08_PairOrder.j2 k y0 y1 y2 y3 y4 y5 y6 y7 y8 y9) (law08_PairOrder.j2 (k + 1) y0 y1 y2 y3 y4 y5 y6 y7 y8 y9))
 | 0 => ⟨fun _ _ _ _ _ _ _ _ _ _ _ r h => by simp [law08_PairOrder.j0] at h, fun _ _ _ _ _ _ _ _ _ _ r h => by simp [law08_PairOrder.j1] at h, fun _ _ _ _ _ _ _ _ _ _ r h => by simp [law08_PairOrder.j2] at h⟩
 | k + 1 => by
  obtain ⟨ih0, ih1, ih2⟩ := law08_PairOrder.mono_l k
  refine ⟨?_, ?_, ?_⟩
  ·intro y0 y1 y2 y3 y4 y5 y6 y7 y8 y9 y10
   unfold law08_PairOrder.j0
   repeat' first
   | (with_reducible exact ih0 _ _ _ _ _ _ _ _ _ _ _)
   | (with_reducible exact ih1 _ _ _ _ _ _ _ _ _ _)
   | (with_reducible exact ih2 _ _ _ _ _ _ _ _ _ _)
   | (with_reducible exact law08_Few.mono _ _)
   | (with_reducible exact law08_awake.mono _)
   | (with_reducible exact pair_May.mono _ _)
   | (with_reducible exact ref08_Same.mono _ _ _)
   | (with_reducible exact LeO.refl _)
   | (with_reducible exact LeO.none _)
   | (with_reducible refine LeO.ite ?_ ?_)
   | (with_reducible refine LeO.bind ?_ (fun _ => ?_))
   | exact ih0 _ _ _ _ _ _ _ _ _ _ _
   | exact ih1 _ _ _ _ _ _ _ _ _ _
   | exact ih2 _ _ _ _ _ _ _ _ _ _
   | exact law08_Few.mono _ _
   | exact law08_awake.mono _
   | exact pair_May.mono _ _
   | exact ref08_Same.mono _ _ _
   | exact LeO.none _
   | refine LeO.ite ?_ ?_
   | refine LeO.bind ?_ (fun _ => ?_)
  ·intro y0 y1 y2 y3 y4 y5 y6 y7 y8 y9
   unfold law08_PairOrder.j1
   repeat' first
   | (with_reducible exact ih0 _ _ _ _ _ _ _ _ _ _ _)
   | (with_reducible exact ih1 _ _ _ _ _ _ _ _ _ _)
   | (with_reducible exact ih2 _ _ _ _ _ _ _ _ _ _)
   | (with_reducible exact law08_Few.mono _ _)
   | (with_reducible exact law08_awake.mono _)
   | (with_reducible exact pair_May.mono _ _)
   | (with_reducible exact ref08_Same.mono _ _ _)
   | (with_reducible exact LeO.refl _)
   | (with_reducible exact LeO.none _)
   | (with_reducible refine LeO.ite ?_ ?_)
   | (with_reducible refine LeO.bind ?_ (fun _ => ?_))
   | exact ih0 _ _ _ _ _ _ _ _ _ _ _
   | exact ih1 _ _ _ _ _ _ _ _ _ _
   | exact ih2 _ _ _ _ _ _ _ _ _ _
   | exact law08_Few.mono _ _
   | exact law08_awake.mono _
   | exact pair_May.mono _ _
   | exact ref08_Same.mono _ _ _
   | exact LeO.none _
   | refine LeO.ite ?_ ?_
   | refine LeO.bind ?_ (fun _ => ?_)
  ·intro y0 y1 y2 y3 y4 y5 y6 y7 y8 y9
   unfold law08_PairOrder.j2
   repeat' first
   | (with_reducible exact ih0 _ _ _ _ _ _ _ _ _ _ _)
   | (with_reducible exact ih1 _ _ _ _ _ _ _ _ _ _)
   | (with_reducible exact ih2 _ _ _ _ _ _ _ _ _ _)
   | (with_reducible exact law08_Few.mono _ _)
   | (with_reducible exact law08_awake.mono _)
   | (with_reducible exact pair_May.mono _ _)
   | (with_reducible exact ref08_Same.mono _ _ _)
   | (with_reducible exact LeO.refl _)
   | (with_reducible exact LeO.none _)
   | (with_reducible refine LeO.ite ?_ ?_)
   | (with_reducible refine LeO.bind ?_ (fun _ => ?_))
   | exact ih0 _ _ _ _ _ _ _ _ _ _ _
   | exact ih1 _ _ _ _ _ _ _ _ _ _
   | exact ih2 _ _ _ _ _ _ _ _ _ _
   | exact law08_Few.mono _ _
   | exact law08_awake.mono _
   | exact pair_May.mono _ _
   | exact ref08_Same.mono _ _ _
   | exact LeO.none _
   | refine LeO.ite ?_ ?_
   | refine LeO.bind ?_ (fun _ => ?_)
theorem law08_PairOrder.mono : ∀ a0 a1 a2 a3 a4 a5 a6 a7 a8 k, LeO (law08_PairOrder.f k a0 a1 a2 a3 a4 a5 a6 a7 a8) (law08_PairOrder.f (k + 1) a0 a1 a2 a3 a4 a5 a6 a7 a8) := by
 intro a0 a1 a2 a3 a4 a5 a6 a7 a8 k
 obtain ⟨ih0, ih1, ih2⟩ := law08_PairOrder.mono_l k
 unfold law08_PairOrder.f
 repeat' first
   | (with_reducible exact ih0 _ _ _ _ _ _ _ _ _ _ _)
   | (with_reducible exact ih1 _ _ _ _ _ _ _ _ _ _)
   | (with_reducible exact ih2 _ _ _ _ _ _ _ _ _ _)
   | (with_reducible exact law08_Few.mono _ _)
   | (with_reducible exact law08_awake.mono _)
   | (with_reducible exact pair_May.mono _ _)
   | (with_reducible exact ref08_Same.mono _ _ _)
   | (with_reducible exact LeO.refl _)
   | (with_reducible exact LeO.none _)
   | (with_reducible refine LeO.ite ?_ ?_)
   | (with_reducible refine LeO.bind ?_ (fun _ => ?_))
   | exact ih0 _ _ _ _ _ _ _ _ _ _ _
   | exact ih1 _ _ _ _ _ _ _ _ _ _
   | exact ih2 _ _ _ _ _ _ _ _ _ _
   | exact law08_Few.mono _ _
   | exact law08_awake.mono _
   | exact pair_May.mono _ _
   | exact ref08_Same.mono _ _ _
   | exact LeO.none _
   | refine LeO.ite ?_ ?_
   | refine LeO.bind ?_ (fun _ => ?_)
def law08_PairOrder.T8 : Bool × List (List Nat × List Nat) := (true, [([], []), ([], []), ([0, 1], [0, 1]), ([], []), ([], []), ([3, 4, 2], [3, 4]), ([], []), ([5, 6, 5], [5, 6]), ([2, 7, 7], [2, 7]), ([8, 8, 0, 1, 2, 3, 4, 5, 6, 7, 8], [8])])
def law08_PairOrder.B8 : List Nat := [0, 0, 3, 0, 0, 31, 0, 127, 255, 511]
theorem law08_PairOrder.tab8 : rtab .any (opsOf Try.f18 8) = law08_PairOrder.T8 := by kernel_rfl
theorem law08_PairOrder.bits8 : waitsOk law08_PairOrder.T8.2 law08_PairOrder.B8 = true := by kernel_rfl
def law08_PairOrder.T15 : Bool × List (List Nat × List Nat) := (true, [([], []), ([], []), ([0, 1], [0, 1]), ([], []), ([3], [3]), ([], []), ([5], [5]), ([2, 4, 6, 2], [2, 4, 6]), ([], []), ([], []), ([9], [9]), ([], []), ([11], [11]), ([8, 10, 12, 7], [8, 10, 12]), ([], []), ([13, 14, 13], [13, 14]), ([7, 15, 15], [7, 15]), ([16, 16, 0, 1, 2, 3, 4, 5, 6, 7, 8, 9, 10, 11, 12, 13, 14, 15, 16], [16])])
def law08_PairOrder.B15 : List Nat := [0, 0, 3, 0, 8, 0, 32, 127, 0, 0, 512, 0, 2048, 8191, 0, 32767, 65535, 131071]
theorem law08_PairOrder.tab15 : rtab .any (opsOf Try.f18 15) = law08_PairOrder.T15 := by kernel_rfl
theorem law08_PairOrder.bits15 : waitsOk law08_PairOrder.T15.2 law08_PairOrder.B15 = true := by kernel_rfl
set_option maxHeartbeats 8000000 in
set_option maxRecDepth 100000 in
theorem law08_PairOrder.calls (k : Nat) (A0 : Option Addr) (c0 : Nat) (l0 : List (S57)) (a1_0 : ByteArray) (a1_1 : ByteArray) (a1_2 : Int) (a1_3 : Int) (a2_0 : ByteArray) (a2_1 : ByteArray) (a2_2 : Int) (a2_3 : Int) (r : Bool) (w : World) (hr0 : Kd.C k57 w A0 l0.length l0) (hc0 : l0.length ≤ c0) (h : law08_PairOrder.f k l0 a1_0 a1_1 a1_2 a1_3 a2_0 a2_1 a2_2 a2_3 = some r) :
  Calls Try.prog 18 #[.slice A0 l0.length c0, .agg #[.string a1_0, .string a1_1, .int .i64 a1_2, .int .i64 a1_3], .agg #[.string a2_0, .string a2_1, .int .i64 a2_2, .int .i64 a2_3]] w fun e w' => e = .returned (.bool r) ∧ Below w.heap.size w w' := by
 have hu57 := Try.underlying57
 have HR0 := Aside0.mk hr0
 have HC0 := Aside0.mk hc0
 clear hr0 hc0
 have HB := Aside0.mk (Below.refl w.heap.size w)
 have H : ((law08_awake.f k).bind fun t915 => ((law08_Few.f k l0).bind fun t916 => ((law08_Few.f k (([(⟨a1_0, a1_1, (⟨a1_2, a1_3⟩ : S24)⟩ : S57), (⟨a2_0, a2_1, (⟨a2_2, a2_3⟩ : S24)⟩ : S57)] : List (S57)))).bind fun t920 => (if t915 = true then (if t916 = true then (if t920 = true then ((pair_May.f k l0).bind fun t921 => (if t921 = true then ((pair_May.f k (([(⟨a1_0, a1_1, (⟨a1_2, a1_3⟩ : S24)⟩ : S57)] : List (S57)))).bind fun t925 => (if t925 = true then ((pair_May.f k (([(⟨a2_0, a2_1, (⟨a2_2, a2_3⟩ : S24)⟩ : S57)] : List (S57)))).bind fun t929 => (law08_PairOrder.j0 k l0 t915 (!t929) a1_0 a1_1 a1_2 a1_3 a2_0 a2_1 a2_2 a2_3)) else (law08_PairOrder.j0 k l0 t915 true a1_0 a1_1 a1_2 a1_3 a2_0 a2_1 a2_2 a2_3))) else (law08_PairOrder.j0 k l0 t915 true a1_0 a1_1 a1_2 a1_3 a2_0 a2_1 a2_2 a2_3))) else (law08_PairOrder.j0 k l0 t915 true a1_0 a1_1 a1_2 a1_3 a2_0 a2_1 a2_2 a2_3)) else (law08_PairOrder.j0 k l0 t915 true a1_0 a1_1 a1_2 a1_3 a2_0 a2_1 a2_2 a2_3)) else (law08_PairOrder.j0 k l0 t915 true a1_0 a1_1 a1_2 a1_3 a2_0 a2_1 a2_2 a2_3))))) = some r := h
 clear h
 replace H := Option.bind_eq_some_iff.mp H
 obtain ⟨t915, A40, H⟩ := H
 replace H : ((law08_Few.f k l0).bind fun t916 => ((law08_Few.f k (([(⟨a1_0, a1_1, (⟨a1_2, a1_3⟩ : S24)⟩ : S57), (⟨a2_0, a2_1, (⟨a2_2, a2_3⟩ : S24)⟩ : S57)] : List (S57)))).bind fun t920 => (if t915 = true then (if t916 = true then (if t920 = true then ((pair_May.f k l0).bind fun t921 => (if t921 = true then ((pair_May.f k (([(⟨a1_0, a1_1, (⟨a1_2, a1_3⟩ : S24)⟩ : S57)] : List (S57)))).bind fun t925 => (if t925 = true then ((pair_May.f k (([(⟨a2_0, a2_1, (⟨a2_2, a2_3⟩ : S24)⟩ : S57)] : List (S57)))).bind fun t929 => (law08_PairOrder.j0 k l0 t915 (!t929) a1_0 a1_1 a1_2 a1_3 a2_0 a2_1 a2_2 a2_3)) else (law08_PairOrder.j0 k l0 t915 true a1_0 a1_1 a1_2 a1_3 a2_0 a2_1 a2_2 a2_3))) else (law08_PairOrder.j0 k l0 t915 true a1_0 a1_1 a1_2 a1_3 a2_0 a2_1 a2_2 a2_3))) else (law08_PairOrder.j0 k l0 t915 true a1_0 a1_1 a1_2 a1_3 a2_0 a2_1 a2_2 a2_3)) else (law08_PairOrder.j0 k l0 t915 true a1_0 a1_1 a1_2 a1_3 a2_0 a2_1 a2_2 a2_3)) else (law08_PairOrder.j0 k l0 t915 true a1_0 a1_1 a1_2 a1_3 a2_0 a2_1 a2_2 a2_3)))) = some r := H
 have A4 := Aside0.mk A40
 clear A40
 replace H := Option.bind_eq_some_iff.mp H
 obtain ⟨t916, A50, H⟩ := H
 replace H : ((law08_Few.f k (([(⟨a1_0, a1_1, (⟨a1_2, a1_3⟩ : S24)⟩ : S57), (⟨a2_0, a2_1, (⟨a2_2, a2_3⟩ : S24)⟩ : S57)] : List (S57)))).bind fun t920 => (if t915 = true then (if t916 = true then (if t920 = true then ((pair_May.f k l0).bind fun t921 => (if t921 = true then ((pair_May.f k (([(⟨a1_0, a1_1, (⟨a1_2, a1_3⟩ : S24)⟩ : S57)] : List (S57)))).bind fun t925 => (if t925 = true then ((pair_May.f k (([(⟨a2_0, a2_1, (⟨a2_2, a2_3⟩ : S24)⟩ : S57)] : List (S57)))).bind fun t929 => (law08_PairOrder.j0 k l0 t915 (!t929) a1_0 a1_1 a1_2 a1_3 a2_0 a2_1 a2_2 a2_3)) else (law08_PairOrder.j0 k l0 t915 true a1_0 a1_1 a1_2 a1_3 a2_0 a2_1 a2_2 a2_3))) else (law08_PairOrder.j0 k l0 t915 true a1_0 a1_1 a1_2 a1_3 a2_0 a2_1 a2_2 a2_3))) else (law08_PairOrder.j0 k l0 t915 true a1_0 a1_1 a1_2 a1_3 a2_0 a2_1 a2_2 a2_3)) else (law08_PairOrder.j0 k l0 t915 true a1_0 a1_1 a1_2 a1_3 a2_0 a2_1 a2_2 a2_3)) else (law08_PairOrder.j0 k l0 t915 true a1_0 a1_1 a1_2 a1_3 a2_0 a2_1 a2_2 a2_3))) = some r := H
 have A5 := Aside0.mk A50
 clear A50
 obtain ⟨y917, hy917⟩ : ∃ y_ : List (S57), y_ = (([(⟨a1_0, a1_1, (⟨a1_2, a1_3⟩ : S24)⟩ : S57), (⟨a2_0, a2_1, (⟨a2_2, a2_3⟩ : S24)⟩ : S57)] : List (S57))) := ⟨_, rfl⟩
 replace H : ((law08_Few.f k y917).bind fun t920 => (if t915 = true then (if t916 = true then (if t920 = true then ((pair_May.f k l0).bind fun t921 => (if t921 = true then ((pair_May.f k (([(⟨a1_0, a1_1, (⟨a1_2, a1_3⟩ : S24)⟩ : S57)] : List (S57)))).bind fun t925 => (if t925 = true then ((pair_May.f k (([(⟨a2_0, a2_1, (⟨a2_2, a2_3⟩ : S24)⟩ : S57)] : List (S57)))).bind fun t929 => (law08_PairOrder.j0 k l0 t915 (!t929) a1_0 a1_1 a1_2 a1_3 a2_0 a2_1 a2_2 a2_3)) else (law08_PairOrder.j0 k l0 t915 true a1_0 a1_1 a1_2 a1_3 a2_0 a2_1 a2_2 a2_3))) else (law08_PairOrder.j0 k l0 t915 true a1_0 a1_1 a1_2 a1_3 a2_0 a2_1 a2_2 a2_3))) else (law08_PairOrder.j0 k l0 t915 true a1_0 a1_1 a1_2 a1_3 a2_0 a2_1 a2_2 a2_3)) else (law08_PairOrder.j0 k l0 t915 true a1_0 a1_1 a1_2 a1_3 a2_0 a2_1 a2_2 a2_3)) else (law08_PairOrder.j0 k l0 t915 true a1_0 a1_1 a1_2 a1_3 a2_0 a2_1 a2_2 a2_3))) = some r := by first | (rw [hy917]; with_reducible exact H) | (have H2_ := (Option.bind_some _ _).symm.trans H; rw [hy917]; with_reducible exact H2_) | (have H2_ := (Option.bind_some _ _).symm.trans H; with_reducible exact H2_) | with_reducible exact H | (rw [hy917]; exact H) | exact H
 have Ny917 := Aside0.mk hy917
 clear hy917
 replace H := Option.bind_eq_some_iff.mp H
 obtain ⟨t920, A60, H⟩ := H
 replace H : (if t915 = true then (if t916 = true then (if t920 = true then ((pair_May.f k l0).bind fun t921 => (if t921 = true then ((pair_May.f k (([(⟨a1_0, a1_1, (⟨a1_2, a1_3⟩ : S24)⟩ : S57)] : List (S57)))).bind fun t925 => (if t925 = true then ((pair_May.f k (([(⟨a2_0, a2_1, (⟨a2_2, a2_3⟩ : S24)⟩ : S57)] : List (S57)))).bind fun t929 => (law08_PairOrder.j0 k l0 t915 (!t929) a1_0 a1_1 a1_2 a1_3 a2_0 a2_1 a2_2 a2_3)) else (law08_PairOrder.j0 k l0 t915 true a1_0 a1_1 a1_2 a1_3 a2_0 a2_1 a2_2 a2_3))) else (law08_PairOrder.j0 k l0 t915 true a1_0 a1_1 a1_2 a1_3 a2_0 a2_1 a2_2 a2_3))) else (law08_PairOrder.j0 k l0 t915 true a1_0 a1_1 a1_2 a1_3 a2_0 a2_1 a2_2 a2_3)) else (law08_PairOrder.j0 k l0 t915 true a1_0 a1_1 a1_2 a1_3 a2_0 a2_1 a2_2 a2_3)) else (law08_PairOrder.j0 k l0 t915 true a1_0 a1_1 a1_2 a1_3 a2_0 a2_1 a2_2 a2_3)) = some r := H
 have A6 := Aside0.mk A60
 clear A60
 have HC7 := Aside0.mk H
 clear H
 go_enter Try.func18, Try.ntmps18
 go_upto_region 4 with (first | ((with_reducible refine gate_dst (N := 4) rfl ?_); (try (refine gate_guard (by rfl) ?_; dsimp only)); refine box_event ?hg (N := 4) ?hd (cs := #[.string a1_0, .string a1_1, .int .i64 a1_2, .int .i64 a1_3]) (t := 57) ?hr ?_; (case hd => rfl); (case hg => rfl); (case hr => first | (go_simp; done) | (go_simp; rfl)); intro gb913 hg w8 hbox hb; have n0_ := Aside0.mk (below_step (by repeat (first | (with_reducible first | exact HB.out | apply below_alloc | apply pw_below_drewN | apply below_drew1) | exact HB.out)) hb); have n1_ := Aside0.mk (hbox); have n2_ := Aside0.mk ((by rw [hg]; exact (below_size (by repeat (first | (with_reducible first | exact HB.out | apply below_alloc | apply pw_below_drewN | apply below_drew1) | exact HB.out))) : w.heap.size ≤ gb913)); have n3_ := Aside0.mk ((by rw [hg]; exact (below_size (by repeat (first | (with_reducible first | exact HB.out | apply below_alloc | apply pw_below_drewN | apply below_drew1) | exact HB.out))) : w.heap.size ≤ gb913)); clear HB; have HB := n0_; have BK913 := n1_; have GW913 := n2_; have GE913 := n3_; clear n0_ n1_ n2_ n3_; clear hb hbox hg) | ((with_reducible refine gate_dst (N := 5) rfl ?_); (try (refine gate_guard (by rfl) ?_; dsimp only)); refine box_event ?hg (N := 5) ?hd (cs := #[.string a2_0, .string a2_1, .int .i64 a2_2, .int .i64 a2_3]) (t := 57) ?hr ?_; (case hd => rfl); (case hg => rfl); (case hr => first | (go_simp; done) | (go_simp; rfl)); intro gb914 hg w9 hbox hb; have n0_ := Aside0.mk (blk_below (g := gb913) (o := .cells #[.string a1_0, .string a1_1, .int .i64 a1_2, .int .i64 a1_3] 57 (0, 0)) (by (with_reducible repeat (first | refine blk_drewN ?_ _ | refine blk_drew ?_ | refine blk_alloc ?_ _)); exact BK913.out) hb); have n1_ := Aside0.mk (below_step (by repeat (first | (with_reducible first | exact HB.out | apply below_alloc | apply pw_below_drewN | apply below_drew1 | refine below_set ?_ GE913.out) | exact HB.out)) hb); have n2_ := Aside0.mk (hbox); have n3_ := Aside0.mk ((by rw [hg]; exact (below_size (by repeat (first | (with_reducible first | exact HB.out | apply below_alloc | apply pw_below_drewN | apply below_drew1 | refine below_set ?_ GE913.out) | exact HB.out))) : w.heap.size ≤ gb914)); have n4_ := Aside0.mk ((by rw [hg]; exact (below_size (by repeat (first | (with_reducible first | exact HB.out | apply below_alloc | apply pw_below_drewN | apply below_drew1 | refine below_set ?_ GE913.out) | exact HB.out))) : w.heap.size ≤ gb914)); have n5_ := Aside0.mk ((by rw [hg]; exact Nat.ne_of_lt (blk_lt (g := gb913) (o := .cells #[.string a1_0, .string a1_1, .int .i64 a1_2, .int .i64 a1_3] 57 (0, 0)) (by (with_reducible repeat (first | refine blk_drewN ?_ _ | refine blk_drew ?_ | refine blk_alloc ?_ _)); exact BK913.out)) : gb913 ≠ gb914)); have n6_ := Aside0.mk ((by rw [hg]; exact Nat.ne_of_gt (blk_lt (g := gb913) (o := .cells #[.string a1_0, .string a1_1, .int .i64 a1_2, .int .i64 a1_3] 57 (0, 0)) (by (with_reducible repeat (first | refine blk_drewN ?_ _ | refine blk_drew ?_ | refine blk_alloc ?_ _)); exact BK913.out)) : gb914 ≠ gb913)); clear BK913; clear HB; have BK913 := n0_; have HB := n1_; have BK914 := n2_; have GW914 := n3_; have GE914 := n4_; have NB913_914 := n5_; have NB914_913 := n6_; clear n0_ n1_ n2_ n3_ n4_ n5_ n6_; clear hb hbox hg) | ((with_reducible refine gate_callee (f := 45) rfl ?_); refine goesL_ (some 16) rfl rfl Try.func45 (by kernel_rfl) rfl #[] rfl (by (try simp only [List.map_toArray, List.map_cons, List.map_nil]); first | done | rfl | (simp only [List.length_drop, List.length_take]; rfl)) ?_; (with_reducible refine (law08_awake.calls k  t915 _ A4.out).mono ?_); rintro e w10 ⟨rfl, hb⟩; refine ⟨_, rfl, ?_⟩; have n0_ := Aside0.mk (blk_below (g := gb913) (o := .cells #[.string a1_0, .string a1_1, .int .i64 a1_2, .int .i64 a1_3] 57 (0, 0)) (by (with_reducible repeat (first | refine blk_drewN ?_ _ | refine blk_drew ?_ | refine blk_alloc ?_ _)); exact BK913.out) hb); have n1_ := Aside0.mk (blk_below (g := gb914) (o := .cells #[.string a2_0, .string a2_1, .int .i64 a2_2, .int .i64 a2_3] 57 (0, 0)) (by (with_reducible repeat (first | refine blk_drewN ?_ _ | refine blk_drew ?_ | refine blk_alloc ?_ _)); exact BK914.out) hb); have n2_ := Aside0.mk (below_step (by repeat (first | (with_reducible first | exact HB.out | apply below_alloc | apply pw_below_drewN | apply below_drew1 | refine below_set ?_ GE913.out | refine below_set ?_ GE914.out) | exact HB.out)) hb); clear BK913; clear BK914; clear HB; have BK913 := n0_; have BK914 := n1_; have HB := n2_; clear n0_ n1_ n2_; (try clear hb); (try clear hb2); (try clear hk); (try clear hi)) | ((with_reducible refine gate_callee (f := 46) rfl ?_); refine goesL_ (some 18) rfl rfl Try.func46 (by kernel_rfl) rfl #[.slice A0 l0.length c0] rfl (by (try simp only [List.map_toArray, List.map_cons, List.map_nil]); first | done | rfl | (simp only [List.length_drop, List.length_take]; rfl)) ?_; (with_reducible refine (law08_Few.calls k _ _ l0 t916 _ ?side1 ?side2 A5.out).mono ?_); (case side1 => repeat (first | exact (Kd.C_below HR0.out HB.out) | (with_reducible refine Kd.C_alloc ?_ _) | (with_reducible refine Kd.C_drewN ?_ _) | (with_reducible refine Kd.C_drew ?_))); (case side2 => exact HC0.out); rintro e w' ⟨rfl, ⟨nd, rfl⟩⟩; refine ⟨_, rfl, ?_⟩; have hnb11 := NB913_914.out; have hnc11 := NB914_913.out; have hcz12_0 : w10.cell? ⟨gb913, 0, none⟩ = some (.string a1_0) := (blk_cell BK913.out 0).trans rfl; have hcz12_1 : w10.cell? ⟨gb913, 1, none⟩ = some (.string a1_1) := (blk_cell BK913.out 1).trans rfl; have hcz12_2 : w10.cell? ⟨gb913, 2, none⟩ = some (.int .i64 a1_2) := (blk_cell BK913.out 2).trans rfl; have hcz12_3 : w10.cell? ⟨gb913, 3, none⟩ = some (.int .i64 a1_3) := (blk_cell BK913.out 3).trans rfl; have hfz12_0 := blk_frozen BK913.out 0; have hfz12_1 := blk_frozen BK913.out 1; have hfz12_2 := blk_frozen BK913.out 2; have hfz12_3 := blk_frozen BK913.out 3; have hcz13_0 : w10.cell? ⟨gb914, 0, none⟩ = some (.string a2_0) := (blk_cell BK914.out 0).trans rfl; have hcz13_1 : w10.cell? ⟨gb914, 1, none⟩ = some (.string a2_1) := (blk_cell BK914.out 1).trans rfl; have hcz13_2 : w10.cell? ⟨gb914, 2, none⟩ = some (.int .i64 a2_2) := (blk_cell BK914.out 2).trans rfl; have hcz13_3 : w10.cell? ⟨gb914, 3, none⟩ = some (.int .i64 a2_3) := (blk_cell BK914.out 3).trans rfl; have hfz13_0 := blk_frozen BK914.out 0; have hfz13_1 := blk_frozen BK914.out 1; have hfz13_2 := blk_frozen BK914.out 2; have hfz13_3 := blk_frozen BK914.out 3) | ((with_reducible refine gate_dst (N := 21) rfl ?_); (try (refine gate_guard (by rfl) ?_; dsimp only)); refine Kd.R_lit k57 _ 57 ?hg (N := 21) ?hd (xs := ([(⟨a1_0, a1_1, (⟨a1_2, a1_3⟩ : S24)⟩ : S57), (⟨a2_0, a2_1, (⟨a2_2, a2_3⟩ : S24)⟩ : S57)] : List (S57))) (inner := [.string a1_0, .string a1_1, .int .i64 a1_2, .int .i64 a1_3, .string a2_0, .string a2_1, .int .i64 a2_2, .int .i64 a2_3]) (ok := fun _ => True) (okp := fun _ => True) ?hr ?hp (fun _ hk => hk) trivial (Below.refl _ _) (Nat.le_refl _) (by simp) ?_; (case hd => rfl); (case hg => rfl); (case hr => first | (go_simp; done) | (go_simp; rfl)); (case hp => exact (Reps.c4 (show Kd.M k57 _ _ _ (⟨a1_0, a1_1, (⟨a1_2, a1_3⟩ : S24)⟩ : S57) [.string a1_0, .string a1_1, .int .i64 a1_2, .int .i64 a1_3] from (k57_mkM _ _ _ (⟨a1_0, a1_1, (⟨a1_2, a1_3⟩ : S24)⟩ : S57) )) (Reps.c4 (show Kd.M k57 _ _ _ (⟨a2_0, a2_1, (⟨a2_2, a2_3⟩ : S24)⟩ : S57) [.string a2_0, .string a2_1, .int .i64 a2_2, .int .i64 a2_3] from (k57_mkM _ _ _ (⟨a2_0, a2_1, (⟨a2_2, a2_3⟩ : S24)⟩ : S57) )) (Reps.none _ _)))); intro v918 w14 ho15 hb hg_ hnew_; clear hg_ hnew_; (first | rw [← Ny917.out] at ho15 | (simp only [Int.reduceToNat] at ho15; rw [← Ny917.out] at ho15)); have n0_ := Aside0.mk (Kd.R_lower (Kd.R_newB (Kd.R_newB ho15 (g := gb913) (o := .cells #[.string a1_0, .string a1_1, .int .i64 a1_2, .int .i64 a1_3] 57 (0, 0)) (by (with_reducible repeat (first | refine blk_drewN ?_ _ | refine blk_drew ?_ | refine blk_alloc ?_ _)); exact BK913.out)) (g := gb914) (o := .cells #[.string a2_0, .string a2_1, .int .i64 a2_2, .int .i64 a2_3] 57 (0, 0)) (by (with_reducible repeat (first | refine blk_drewN ?_ _ | refine blk_drew ?_ | refine blk_alloc ?_ _)); exact BK914.out)) (below_size (by repeat (first | (with_reducible first | exact HB.out | apply below_alloc | apply pw_below_drewN | apply below_drew1 | refine below_set ?_ GE913.out | refine below_set ?_ GE914.out) | exact HB.out)))); have n1_ := Aside0.mk (blk_below (g := gb913) (o := .cells #[.string a1_0, .string a1_1, .int .i64 a1_2, .int .i64 a1_3] 57 (0, 0)) (by (with_reducible repeat (first | refine blk_drewN ?_ _ | refine blk_drew ?_ | refine blk_alloc ?_ _)); exact BK913.out) hb); have n2_ := Aside0.mk (blk_below (g := gb914) (o := .cells #[.string a2_0, .string a2_1, .int .i64 a2_2, .int .i64 a2_3] 57 (0, 0)) (by (with_reducible repeat (first | refine blk_drewN ?_ _ | refine blk_drew ?_ | refine blk_alloc ?_ _)); exact BK914.out) hb); have n3_ := Aside0.mk (below_step (by repeat (first | (with_reducible first | exact HB.out | apply below_alloc | apply pw_below_drewN | apply below_drew1 | refine below_set ?_ GE913.out | refine below_set ?_ GE914.out) | exact HB.out)) hb); clear BK913; clear BK914; clear HB; have HO919 := n0_; have BK913 := n1_; have BK914 := n2_; have HB := n3_; clear n0_ n1_ n2_ n3_; clear hb ho15; obtain ⟨Ao16, co16, eo16⟩ := Kd.R_slice HO919.out; subst eo16) | ((with_reducible refine gate_callee (f := 46) rfl ?_); refine goesL_ (some 22) rfl rfl Try.func46 (by kernel_rfl) rfl #[.slice Ao16 y917.length co16] rfl (by (try simp only [List.map_toArray, List.map_cons, List.map_nil]); first | done | rfl | (simp only [List.length_drop, List.length_take]; rfl)) ?_; (with_reducible refine (law08_Few.calls k _ _ y917 t920 _ ?side1 ?side2 A6.out).mono ?_); (case side1 => repeat (first | exact (Kd.R_reads' HO919.out).2.2 | (with_reducible refine Kd.C_alloc ?_ _) | (with_reducible refine Kd.C_drewN ?_ _) | (with_reducible refine Kd.C_drew ?_))); (case side2 => exact (Kd.R_reads' HO919.out).2.1); rintro e w' ⟨rfl, ⟨nd, rfl⟩⟩; refine ⟨_, rfl, ?_⟩))
 (try simp only [Act.put, List.setIfInBounds_toArray, List.set_cons_zero, List.set_cons_succ])
 go_cut [49] (fun v49 wc => ∃ (kq : Nat) (x49_6 : Bool), v49 = .bool x49_6 ∧ Aside0 (law08_PairOrder.j0 kq l0 t915 x49_6 a1_0 a1_1 a1_2 a1_3 a2_0 a2_1 a2_2 a2_3 = some r) ∧ Aside0 (kq ≤ k) ∧ Aside0 (wc.heap[gb913]? = some (.cells #[.string a1_0, .string a1_1, .int .i64 a1_2, .int .i64 a1_3] 57 (0, 0))) ∧ Aside0 (wc.heap[gb914]? = some (.cells #[.string a2_0, .string a2_1, .int .i64 a2_2, .int .i64 a2_3] 57 (0, 0))) ∧ Aside0 (Below w.heap.size w wc))
 case first =>
  have H := HC7.out
  clear HC7
  by_cases c17 : t915 = true
  ·subst c17
   have H1 : (if t916 = true then (if t920 = true then ((pair_May.f k l0).bind fun t921 => (if t921 = true then ((pair_May.f k (([(⟨a1_0, a1_1, (⟨a1_2, a1_3⟩ : S24)⟩ : S57)] : List (S57)))).bind fun t925 => (if t925 = true then ((pair_May.f k (([(⟨a2_0, a2_1, (⟨a2_2, a2_3⟩ : S24)⟩ : S57)] : List (S57)))).bind fun t929 => (law08_PairOrder.j0 k l0 true (!t929) a1_0 a1_1 a1_2 a1_3 a2_0 a2_1 a2_2 a2_3)) else (law08_PairOrder.j0 k l0 true true a1_0 a1_1 a1_2 a1_3 a2_0 a2_1 a2_2 a2_3))) else (law08_PairOrder.j0 k l0 true true a1_0 a1_1 a1_2 a1_3 a2_0 a2_1 a2_2 a2_3))) else (law08_PairOrder.j0 k l0 true true a1_0 a1_1 a1_2 a1_3 a2_0 a2_1 a2_2 a2_3)) else (law08_PairOrder.j0 k l0 true true a1_0 a1_1 a1_2 a1_3 a2_0 a2_1 a2_2 a2_3)) = some r := by rw [if_pos rfl] at H; exact H
   clear H
   have H := H1
   clear H1
   by_cases c18 : t916 = true
   ·subst c18
    have H1 : (if t920 = true then ((pair_May.f k l0).bind fun t921 => (if t921 = true then ((pair_May.f k (([(⟨a1_0, a1_1, (⟨a1_2, a1_3⟩ : S24)⟩ : S57)] : List (S57)))).bind fun t925 => (if t925 = true then ((pair_May.f k (([(⟨a2_0, a2_1, (⟨a2_2, a2_3⟩ : S24)⟩ : S57)] : List (S57)))).bind fun t929 => (law08_PairOrder.j0 k l0 true (!t929) a1_0 a1_1 a1_2 a1_3 a2_0 a2_1 a2_2 a2_3)) else (law08_PairOrder.j0 k l0 true true a1_0 a1_1 a1_2 a1_3 a2_0 a2_1 a2_2 a2_3))) else (law08_PairOrder.j0 k l0 true true a1_0 a1_1 a1_2 a1_3 a2_0 a2_1 a2_2 a2_3))) else (law08_PairOrder.j0 k l0 true true a1_0 a1_1 a1_2 a1_3 a2_0 a2_1 a2_2 a2_3)) = some r := by rw [if_pos rfl] at H; exact H
    clear H
    have H := H1
    clear H1
    by_cases c19 : t920 = true
    ·subst c19
     have H1 : ((pair_May.f k l0).bind fun t921 => (if t921 = true then ((pair_May.f k (([(⟨a1_0, a1_1, (⟨a1_2, a1_3⟩ : S24)⟩ : S57)] : List (S57)))).bind fun t925 => (if t925 = true then ((pair_May.f k (([(⟨a2_0, a2_1, (⟨a2_2, a2_3⟩ : S24)⟩ : S57)] : List (S57)))).bind fun t929 => (law08_PairOrder.j0 k l0 true (!t929) a1_0 a1_1 a1_2 a1_3 a2_0 a2_1 a2_2 a2_3)) else (law08_PairOrder.j0 k l0 true true a1_0 a1_1 a1_2 a1_3 a2_0 a2_1 a2_2 a2_3))) else (law08_PairOrder.j0 k l0 true true a1_0 a1_1 a1_2 a1_3 a2_0 a2_1 a2_2 a2_3))) = some r := by rw [if_pos rfl] at H; exact H
     clear H
     have H := H1
     clear H1
     replace H := Option.bind_eq_some_iff.mp H
     obtain ⟨t921, A200, H⟩ := H
     replace H : (if t921 = true then ((pair_May.f k (([(⟨a1_0, a1_1, (⟨a1_2, a1_3⟩ : S24)⟩ : S57)] : List (S57)))).bind fun t925 => (if t925 = true then ((pair_May.f k (([(⟨a2_0, a2_1, (⟨a2_2, a2_3⟩ : S24)⟩ : S57)] : List (S57)))).bind fun t929 => (law08_PairOrder.j0 k l0 true (!t929) a1_0 a1_1 a1_2 a1_3 a2_0 a2_1 a2_2 a2_3)) else (law08_PairOrder.j0 k l0 true true a1_0 a1_1 a1_2 a1_3 a2_0 a2_1 a2_2 a2_3))) else (law08_PairOrder.j0 k l0 true true a1_0 a1_1 a1_2 a1_3 a2_0 a2_1 a2_2 a2_3)) = some r := H
     have A20 := Aside0.mk A200
     clear A200
     by_cases c21 : t921 = true
     ·subst c21
      have H1 : ((pair_May.f k (([(⟨a1_0, a1_1, (⟨a1_2, a1_3⟩ : S24)⟩ : S57)] : List (S57)))).bind fun t925 => (if t925 = true then ((pair_May.f k (([(⟨a2_0, a2_1, (⟨a2_2, a2_3⟩ : S24)⟩ : S57)] : List (S57)))).bind fun t929 => (law08_PairOrder.j0 k l0 true (!t929) a1_0 a1_1 a1_2 a1_3 a2_0 a2_1 a2_2 a2_3)) else (law08_PairOrder.j0 k l0 true true a1_0 a1_1 a1_2 a1_3 a2_0 a2_1 a2_2 a2_3))) = some r := by rw [if_pos rfl] at H; exact H
      clear H
      have H := H1
      clear H1
      obtain ⟨y922, hy922⟩ : ∃ y_ : List (S57), y_ = (([(⟨a1_0, a1_1, (⟨a1_2, a1_3⟩ : S24)⟩ : S57)] : List (S57))) := ⟨_, rfl⟩
      replace H : ((pair_May.f k y922).bind fun t925 => (if t925 = true then ((pair_May.f k (([(⟨a2_0, a2_1, (⟨a2_2, a2_3⟩ : S24)⟩ : S57)] : List (S57)))).bind fun t929 => (law08_PairOrder.j0 k l0 true (!t929) a1_0 a1_1 a1_2 a1_3 a2_0 a2_1 a2_2 a2_3)) else (law08_PairOrder.j0 k l0 true true a1_0 a1_1 a1_2 a1_3 a2_0 a2_1 a2_2 a2_3))) = some r := by first | (rw [hy922]; with_reducible exact H) | (have H2_ := (Option.bind_some _ _).symm.trans H; rw [hy922]; with_reducible exact H2_) | (have H2_ := (Option.bind_some _ _).symm.trans H; with_reducible exact H2_) | with_reducible exact H | (rw [hy922]; exact H) | exact H
      have Ny922 := Aside0.mk hy922
      clear hy922
      replace H := Option.bind_eq_some_iff.mp H
      obtain ⟨t925, A220, H⟩ := H
      replace H : (if t925 = true then ((pair_May.f k (([(⟨a2_0, a2_1, (⟨a2_2, a2_3⟩ : S24)⟩ : S57)] : List (S57)))).bind fun t929 => (law08_PairOrder.j0 k l0 true (!t929) a1_0 a1_1 a1_2 a1_3 a2_0 a2_1 a2_2 a2_3)) else (law08_PairOrder.j0 k l0 true true a1_0 a1_1 a1_2 a1_3 a2_0 a2_1 a2_2 a2_3)) = some r := H
      have A22 := Aside0.mk A220
      clear A220
      by_cases c23 : t925 = true
      ·subst c23
       have H1 : ((pair_May.f k (([(⟨a2_0, a2_1, (⟨a2_2, a2_3⟩ : S24)⟩ : S57)] : List (S57)))).bind fun t929 => (law08_PairOrder.j0 k l0 true (!t929) a1_0 a1_1 a1_2 a1_3 a2_0 a2_1 a2_2 a2_3)) = some r := by rw [if_pos rfl] at H; exact H
       clear H
       have H := H1
       clear H1
       obtain ⟨y926, hy926⟩ : ∃ y_ : List (S57), y_ = (([(⟨a2_0, a2_1, (⟨a2_2, a2_3⟩ : S24)⟩ : S57)] : List (S57))) := ⟨_, rfl⟩
       replace H : ((pair_May.f k y926).bind fun t929 => (law08_PairOrder.j0 k l0 true (!t929) a1_0 a1_1 a1_2 a1_3 a2_0 a2_1 a2_2 a2_3)) = some r := by first | (rw [hy926]; with_reducible exact H) | (have H2_ := (Option.bind_some _ _).symm.trans H; rw [hy926]; with_reducible exact H2_) | (have H2_ := (Option.bind_some _ _).symm.trans H; with_reducible exact H2_) | with_reducible exact H | (rw [hy926]; exact H) | exact H
       have Ny926 := Aside0.mk hy926
       clear hy926
       replace H := Option.bind_eq_some_iff.mp H
       obtain ⟨t929, A240, H⟩ := H
       replace H : (law08_PairOrder.j0 k l0 true (!t929) a1_0 a1_1 a1_2 a1_3 a2_0 a2_1 a2_2 a2_3) = some r := H
       have A24 := Aside0.mk A240
       clear A240
       have H' := Aside0.mk H
       clear H
       go_wp2_with (first | (go_at_call 60; (with_reducible refine (pair_May.calls k _ _ l0 true _ ?side1 ?side2 A20.out).mono ?_); (case side1 => repeat (first | exact (Kd.C_below HR0.out HB.out) | (with_reducible refine Kd.C_alloc ?_ _) | (with_reducible refine Kd.C_drewN ?_ _) | (with_reducible refine Kd.C_drew ?_))); (case side2 => exact HC0.out); rintro e w25 ⟨rfl, hb⟩; have n0_ := Aside0.mk (Kd.R_below (by (with_reducible repeat (first | apply Kd.R_alloc | apply Kd.R_drewN | apply Kd.R_drew)); exact HO919.out) hb); have n1_ := Aside0.mk (blk_below (g := gb913) (o := .cells #[.string a1_0, .string a1_1, .int .i64 a1_2, .int .i64 a1_3] 57 (0, 0)) (by (with_reducible repeat (first | refine blk_drewN ?_ _ | refine blk_drew ?_ | refine blk_alloc ?_ _)); exact BK913.out) hb); have n2_ := Aside0.mk (blk_below (g := gb914) (o := .cells #[.string a2_0, .string a2_1, .int .i64 a2_2, .int .i64 a2_3] 57 (0, 0)) (by (with_reducible repeat (first | refine blk_drewN ?_ _ | refine blk_drew ?_ | refine blk_alloc ?_ _)); exact BK914.out) hb); have n3_ := Aside0.mk (below_step (by repeat (first | (with_reducible first | exact HB.out | apply below_alloc | apply pw_below_drewN | apply below_drew1 | refine below_set ?_ GE913.out | refine below_set ?_ GE914.out) | exact HB.out)) hb); clear HO919; clear BK913; clear BK914; clear HB; have HO919 := n0_; have BK913 := n1_; have BK914 := n2_; have HB := n3_; clear n0_ n1_ n2_ n3_; (try clear hb); (try clear hb2); (try clear hk); (try clear hi); have hnb26 := NB913_914.out; have hnc26 := NB914_913.out; have hcz27_0 : w25.cell? ⟨gb913, 0, none⟩ = some (.string a1_0) := (blk_cell BK913.out 0).trans rfl; have hcz27_1 : w25.cell? ⟨gb913, 1, none⟩ = some (.string a1_1) := (blk_cell BK913.out 1).trans rfl; have hcz27_2 : w25.cell? ⟨gb913, 2, none⟩ = some (.int .i64 a1_2) := (blk_cell BK913.out 2).trans rfl; have hcz27_3 : w25.cell? ⟨gb913, 3, none⟩ = some (.int .i64 a1_3) := (blk_cell BK913.out 3).trans rfl; have hfz27_0 := blk_frozen BK913.out 0; have hfz27_1 := blk_frozen BK913.out 1; have hfz27_2 := blk_frozen BK913.out 2; have hfz27_3 := blk_frozen BK913.out 3) | ((with_reducible refine gate_dst (N := 40) rfl ?_); (try (refine gate_guard (by rfl) ?_; dsimp only)); refine Kd.R_lit k57 _ 57 ?hg (N := 40) ?hd (xs := ([(⟨a1_0, a1_1, (⟨a1_2, a1_3⟩ : S24)⟩ : S57)] : List (S57))) (inner := [.string a1_0, .string a1_1, .int .i64 a1_2, .int .i64 a1_3]) (ok := fun _ => True) (okp := fun _ => True) ?hr ?hp (fun _ hk => hk) trivial (Below.refl _ _) (Nat.le_refl _) (by simp) ?_; (case hd => rfl); (case hg => rfl); (case hr => first | (go_simp; done) | (go_simp; rfl)); (case hp => exact (Reps.c4 (show Kd.M k57 _ _ _ (⟨a1_0, a1_1, (⟨a1_2, a1_3⟩ : S24)⟩ : S57) [.string a1_0, .string a1_1, .int .i64 a1_2, .int .i64 a1_3] from (k57_mkM _ _ _ (⟨a1_0, a1_1, (⟨a1_2, a1_3⟩ : S24)⟩ : S57) )) (Reps.none _ _))); intro v923 w28 ho29 hb hg_ hnew_; clear hg_ hnew_; (first | rw [← Ny922.out] at ho29 | (simp only [Int.reduceToNat] at ho29; rw [← Ny922.out] at ho29)); have n0_ := Aside0.mk (Kd.R_elder' (by (with_reducible repeat (first | apply Kd.R_alloc | apply Kd.R_drewN | apply Kd.R_drew)); exact HO919.out) (Kd.R_base ho29) hb); have n1_ := Aside0.mk (Kd.R_lower (Kd.R_newB (Kd.R_newB (Kd.R_new' ho29 (Kd.R_lt (by (with_reducible repeat (first | apply Kd.R_alloc | apply Kd.R_drewN | apply Kd.R_drew)); exact HO919.out))) (g := gb913) (o := .cells #[.string a1_0, .string a1_1, .int .i64 a1_2, .int .i64 a1_3] 57 (0, 0)) (by (with_reducible repeat (first | refine blk_drewN ?_ _ | refine blk_drew ?_ | refine blk_alloc ?_ _)); exact BK913.out)) (g := gb914) (o := .cells #[.string a2_0, .string a2_1, .int .i64 a2_2, .int .i64 a2_3] 57 (0, 0)) (by (with_reducible repeat (first | refine blk_drewN ?_ _ | refine blk_drew ?_ | refine blk_alloc ?_ _)); exact BK914.out)) (below_size (by repeat (first | (with_reducible first | exact HB.out | apply below_alloc | apply pw_below_drewN | apply below_drew1 | refine below_set ?_ GE913.out | refine below_set ?_ GE914.out) | exact HB.out)))); have n2_ := Aside0.mk (blk_below (g := gb913) (o := .cells #[.string a1_0, .string a1_1, .int .i64 a1_2, .int .i64 a1_3] 57 (0, 0)) (by (with_reducible repeat (first | refine blk_drewN ?_ _ | refine blk_drew ?_ | refine blk_alloc ?_ _)); exact BK913.out) hb); have n3_ := Aside0.mk (blk_below (g := gb914) (o := .cells #[.string a2_0, .string a2_1, .int .i64 a2_2, .int .i64 a2_3] 57 (0, 0)) (by (with_reducible repeat (first | refine blk_drewN ?_ _ | refine blk_drew ?_ | refine blk_alloc ?_ _)); exact BK914.out) hb); have n4_ := Aside0.mk (below_step (by repeat (first | (with_reducible first | exact HB.out | apply below_alloc | apply pw_below_drewN | apply below_drew1 | refine below_set ?_ GE913.out | refine below_set ?_ GE914.out) | exact HB.out)) hb); clear HO919; clear BK913; clear BK914; clear HB; have HO919 := n0_; have HO924 := n1_; have BK913 := n2_; have BK914 := n3_; have HB := n4_; clear n0_ n1_ n2_ n3_ n4_; clear hb ho29; obtain ⟨Ao30, co30, eo30⟩ := Kd.R_slice HO924.out; subst eo30) | (go_at_call 60; (with_reducible refine (pair_May.calls k _ _ y922 true _ ?side1 ?side2 A22.out).mono ?_); (case side1 => repeat (first | exact (Kd.R_reads' HO924.out).2.2 | (with_reducible refine Kd.C_alloc ?_ _) | (with_reducible refine Kd.C_drewN ?_ _) | (with_reducible refine Kd.C_drew ?_))); (case side2 => exact (Kd.R_reads' HO924.out).2.1); rintro e w31 ⟨rfl, hb⟩; have n0_ := Aside0.mk (Kd.R_below (by (with_reducible repeat (first | apply Kd.R_alloc | apply Kd.R_drewN | apply Kd.R_drew)); exact HO919.out) hb); have n1_ := Aside0.mk (Kd.R_below (by (with_reducible repeat (first | apply Kd.R_alloc | apply Kd.R_drewN | apply Kd.R_drew)); exact HO924.out) hb); have n2_ := Aside0.mk (blk_below (g := gb913) (o := .cells #[.string a1_0, .string a1_1, .int .i64 a1_2, .int .i64 a1_3] 57 (0, 0)) (by (with_reducible repeat (first | refine blk_drewN ?_ _ | refine blk_drew ?_ | refine blk_alloc ?_ _)); exact BK913.out) hb); have n3_ := Aside0.mk (blk_below (g := gb914) (o := .cells #[.string a2_0, .string a2_1, .int .i64 a2_2, .int .i64 a2_3] 57 (0, 0)) (by (with_reducible repeat (first | refine blk_drewN ?_ _ | refine blk_drew ?_ | refine blk_alloc ?_ _)); exact BK914.out) hb); have n4_ := Aside0.mk (below_step (by repeat (first | (with_reducible first | exact HB.out | apply below_alloc | apply pw_below_drewN | apply below_drew1 | refine below_set ?_ GE913.out | refine below_set ?_ GE914.out) | exact HB.out)) hb); clear HO919; clear HO924; clear BK913; clear BK914; clear HB; have HO919 := n0_; have HO924 := n1_; have BK913 := n2_; have BK914 := n3_; have HB := n4_; clear n0_ n1_ n2_ n3_ n4_; (try clear hb); (try clear hb2); (try clear hk); (try clear hi); have hcz32_0 : w31.cell? ⟨gb914, 0, none⟩ = some (.string a2_0) := (blk_cell BK914.out 0).trans rfl; have hcz32_1 : w31.cell? ⟨gb914, 1, none⟩ = some (.string a2_1) := (blk_cell BK914.out 1).trans rfl; have hcz32_2 : w31.cell? ⟨gb914, 2, none⟩ = some (.int .i64 a2_2) := (blk_cell BK914.out 2).trans rfl; have hcz32_3 : w31.cell? ⟨gb914, 3, none⟩ = some (.int .i64 a2_3) := (blk_cell BK914.out 3).trans rfl; have hfz32_0 := blk_frozen BK914.out 0; have hfz32_1 := blk_frozen BK914.out 1; have hfz32_2 := blk_frozen BK914.out 2; have hfz32_3 := blk_frozen BK914.out 3) | ((with_reducible refine gate_dst (N := 46) rfl ?_); (try (refine gate_guard (by rfl) ?_; dsimp only)); refine Kd.R_lit k57 _ 57 ?hg (N := 46) ?hd (xs := ([(⟨a2_0, a2_1, (⟨a2_2, a2_3⟩ : S24)⟩ : S57)] : List (S57))) (inner := [.string a2_0, .string a2_1, .int .i64 a2_2, .int .i64 a2_3]) (ok := fun _ => True) (okp := fun _ => True) ?hr ?hp (fun _ hk => hk) trivial (Below.refl _ _) (Nat.le_refl _) (by simp) ?_; (case hd => rfl); (case hg => rfl); (case hr => first | (go_simp; done) | (go_simp; rfl)); (case hp => exact (Reps.c4 (show Kd.M k57 _ _ _ (⟨a2_0, a2_1, (⟨a2_2, a2_3⟩ : S24)⟩ : S57) [.string a2_0, .string a2_1, .int .i64 a2_2, .int .i64 a2_3] from (k57_mkM _ _ _ (⟨a2_0, a2_1, (⟨a2_2, a2_3⟩ : S24)⟩ : S57) )) (Reps.none _ _))); intro v927 w33 ho34 hb hg_ hnew_; clear hg_ hnew_; (first | rw [← Ny926.out] at ho34 | (simp only [Int.reduceToNat] at ho34; rw [← Ny926.out] at ho34)); have n0_ := Aside0.mk (Kd.R_elder' (by (with_reducible repeat (first | apply Kd.R_alloc | apply Kd.R_drewN | apply Kd.R_drew)); exact HO919.out) (Kd.R_base ho34) hb); have n1_ := Aside0.mk (Kd.R_elder' (by (with_reducible repeat (first | apply Kd.R_alloc | apply Kd.R_drewN | apply Kd.R_drew)); exact HO924.out) (Kd.R_base ho34) hb); have n2_ := Aside0.mk (Kd.R_lower (Kd.R_newB (Kd.R_newB (Kd.R_new' (Kd.R_new' ho34 (Kd.R_lt (by (with_reducible repeat (first | apply Kd.R_alloc | apply Kd.R_drewN | apply Kd.R_drew)); exact HO919.out))) (Kd.R_lt (by (with_reducible repeat (first | apply Kd.R_alloc | apply Kd.R_drewN | apply Kd.R_drew)); exact HO924.out))) (g := gb913) (o := .cells #[.string a1_0, .string a1_1, .int .i64 a1_2, .int .i64 a1_3] 57 (0, 0)) (by (with_reducible repeat (first | refine blk_drewN ?_ _ | refine blk_drew ?_ | refine blk_alloc ?_ _)); exact BK913.out)) (g := gb914) (o := .cells #[.string a2_0, .string a2_1, .int .i64 a2_2, .int .i64 a2_3] 57 (0, 0)) (by (with_reducible repeat (first | refine blk_drewN ?_ _ | refine blk_drew ?_ | refine blk_alloc ?_ _)); exact BK914.out)) (below_size (by repeat (first | (with_reducible first | exact HB.out | apply below_alloc | apply pw_below_drewN | apply below_drew1 | refine below_set ?_ GE913.out | refine below_set ?_ GE914.out) | exact HB.out)))); have n3_ := Aside0.mk (blk_below (g := gb913) (o := .cells #[.string a1_0, .string a1_1, .int .i64 a1_2, .int .i64 a1_3] 57 (0, 0)) (by (with_reducible repeat (first | refine blk_drewN ?_ _ | refine blk_drew ?_ | refine blk_alloc ?_ _)); exact BK913.out) hb); have n4_ := Aside0.mk (blk_below (g := gb914) (o := .cells #[.string a2_0, .string a2_1, .int .i64 a2_2, .int .i64 a2_3] 57 (0, 0)) (by (with_reducible repeat (first | refine blk_drewN ?_ _ | refine blk_drew ?_ | refine blk_alloc ?_ _)); exact BK914.out) hb); have n5_ := Aside0.mk (below_step (by repeat (first | (with_reducible first | exact HB.out | apply below_alloc | apply pw_below_drewN | apply below_drew1 | refine below_set ?_ GE913.out | refine below_set ?_ GE914.out) | exact HB.out)) hb); clear HO919; clear HO924; clear BK913; clear BK914; clear HB; have HO919 := n0_; have HO924 := n1_; have HO928 := n2_; have BK913 := n3_; have BK914 := n4_; have HB := n5_; clear n0_ n1_ n2_ n3_ n4_ n5_; clear hb ho34; obtain ⟨Ao35, co35, eo35⟩ := Kd.R_slice HO928.out; subst eo35) | (go_at_call 60; (with_reducible refine (pair_May.calls k _ _ y926 t929 _ ?side1 ?side2 A24.out).mono ?_); (case side1 => repeat (first | exact (Kd.R_reads' HO928.out).2.2 | (with_reducible refine Kd.C_alloc ?_ _) | (with_reducible refine Kd.C_drewN ?_ _) | (with_reducible refine Kd.C_drew ?_))); (case side2 => exact (Kd.R_reads' HO928.out).2.1); rintro e w36 ⟨rfl, hb⟩; have n0_ := Aside0.mk (Kd.R_below (by (with_reducible repeat (first | apply Kd.R_alloc | apply Kd.R_drewN | apply Kd.R_drew)); exact HO919.out) hb); have n1_ := Aside0.mk (Kd.R_below (by (with_reducible repeat (first | apply Kd.R_alloc | apply Kd.R_drewN | apply Kd.R_drew)); exact HO924.out) hb); have n2_ := Aside0.mk (Kd.R_below (by (with_reducible repeat (first | apply Kd.R_alloc | apply Kd.R_drewN | apply Kd.R_drew)); exact HO928.out) hb); have n3_ := Aside0.mk (blk_below (g := gb913) (o := .cells #[.string a1_0, .string a1_1, .int .i64 a1_2, .int .i64 a1_3] 57 (0, 0)) (by (with_reducible repeat (first | refine blk_drewN ?_ _ | refine blk_drew ?_ | refine blk_alloc ?_ _)); exact BK913.out) hb); have n4_ := Aside0.mk (blk_below (g := gb914) (o := .cells #[.string a2_0, .string a2_1, .int .i64 a2_2, .int .i64 a2_3] 57 (0, 0)) (by (with_reducible repeat (first | refine blk_drewN ?_ _ | refine blk_drew ?_ | refine blk_alloc ?_ _)); exact BK914.out) hb); have n5_ := Aside0.mk (below_step (by repeat (first | (with_reducible first | exact HB.out | apply below_alloc | apply pw_below_drewN | apply below_drew1 | refine below_set ?_ GE913.out | refine below_set ?_ GE914.out) | exact HB.out)) hb); clear HO919; clear HO924; clear HO928; clear BK913; clear BK914; clear HB; have HO919 := n0_; have HO924 := n1_; have HO928 := n2_; have BK913 := n3_; have BK914 := n4_; have HB := n5_; clear n0_ n1_ n2_ n3_ n4_ n5_; (try clear hb); (try clear hb2); (try clear hk); (try clear hi)))
       go_meet
       case rel => exact ⟨_, (!t929), (by first | rfl | (simp; done) | (simp [*]; done)), H', ⟨by first | omega | exact Nat.le_refl _⟩, ⟨by (with_reducible repeat (first | refine blk_drewN ?_ _ | refine blk_drew ?_ | refine blk_alloc ?_ _)); exact BK913.out⟩, ⟨by (with_reducible repeat (first | refine blk_drewN ?_ _ | refine blk_drew ?_ | refine blk_alloc ?_ _)); exact BK914.out⟩, ⟨by repeat (first | (with_reducible first | exact HB.out | apply below_alloc | apply pw_below_drewN | apply below_drew1 | refine below_set ?_ GE913.out | refine below_set ?_ GE914.out) | exact HB.out)⟩⟩
      ·replace c23 := Bool.eq_false_iff.mpr c23
       subst c23
       have H1 : (law08_PairOrder.j0 k l0 true true a1_0 a1_1 a1_2 a1_3 a2_0 a2_1 a2_2 a2_3) = some r := by rw [if_neg (show ¬ (false = true) by decide)] at H; exact H
       clear H
       have H := H1
       clear H1
       have H' := Aside0.mk H
       clear H
       go_wp2_with (first | (go_at_call 60; (with_reducible refine (pair_May.calls k _ _ l0 true _ ?side1 ?side2 A20.out).mono ?_); (case side1 => repeat (first | exact (Kd.C_below HR0.out HB.out) | (with_reducible refine Kd.C_alloc ?_ _) | (with_reducible refine Kd.C_drewN ?_ _) | (with_reducible refine Kd.C_drew ?_))); (case side2 => exact HC0.out); rintro e w37 ⟨rfl, hb⟩; have n0_ := Aside0.mk (Kd.R_below (by (with_reducible repeat (first | apply Kd.R_alloc | apply Kd.R_drewN | apply Kd.R_drew)); exact HO919.out) hb); have n1_ := Aside0.mk (blk_below (g := gb913) (o := .cells #[.string a1_0, .string a1_1, .int .i64 a1_2, .int .i64 a1_3] 57 (0, 0)) (by (with_reducible repeat (first | refine blk_drewN ?_ _ | refine blk_drew ?_ | refine blk_alloc ?_ _)); exact BK913.out) hb); have n2_ := Aside0.mk (blk_below (g := gb914) (o := .cells #[.string a2_0, .string a2_1, .int .i64 a2_2, .int .i64 a2_3] 57 (0, 0)) (by (with_reducible repeat (first | refine blk_drewN ?_ _ | refine blk_drew ?_ | refine blk_alloc ?_ _)); exact BK914.out) hb); have n3_ := Aside0.mk (below_step (by repeat (first | (with_reducible first | exact HB.out | apply below_alloc | apply pw_below_drewN | apply below_drew1 | refine below_set ?_ GE913.out | refine below_set ?_ GE914.out) | exact HB.out)) hb); clear HO919; clear BK913; clear BK914; clear HB; have HO919 := n0_; have BK913 := n1_; have BK914 := n2_; have HB := n3_; clear n0_ n1_ n2_ n3_; (try clear hb); (try clear hb2); (try clear hk); (try clear hi); have hnb38 := NB913_914.out; have hnc38 := NB914_913.out; have hcz39_0 : w37.cell? ⟨gb913, 0, none⟩ = some (.string a1_0) := (blk_cell BK913.out 0).trans rfl; have hcz39_1 : w37.cell? ⟨gb913, 1, none⟩ = some (.string a1_1) := (blk_cell BK913.out 1).trans rfl; have hcz39_2 : w37.cell? ⟨gb913, 2, none⟩ = some (.int .i64 a1_2) := (blk_cell BK913.out 2).trans rfl; have hcz39_3 : w37.cell? ⟨gb913, 3, none⟩ = some (.int .i64 a1_3) := (blk_cell BK913.out 3).trans rfl; have hfz39_0 := blk_frozen BK913.out 0; have hfz39_1 := blk_frozen BK913.out 1; have hfz39_2 := blk_frozen BK913.out 2; have hfz39_3 := blk_frozen BK913.out 3) | ((with_reducible refine gate_dst (N := 40) rfl ?_); (try (refine gate_guard (by rfl) ?_; dsimp only)); refine Kd.R_lit k57 _ 57 ?hg (N := 40) ?hd (xs := ([(⟨a1_0, a1_1, (⟨a1_2, a1_3⟩ : S24)⟩ : S57)] : List (S57))) (inner := [.string a1_0, .string a1_1, .int .i64 a1_2, .int .i64 a1_3]) (ok := fun _ => True) (okp := fun _ => True) ?hr ?hp (fun _ hk => hk) trivial (Below.refl _ _) (Nat.le_refl _) (by simp) ?_; (case hd => rfl); (case hg => rfl); (case hr => first | (go_simp; done) | (go_simp; rfl)); (case hp => exact (Reps.c4 (show Kd.M k57 _ _ _ (⟨a1_0, a1_1, (⟨a1_2, a1_3⟩ : S24)⟩ : S57) [.string a1_0, .string a1_1, .int .i64 a1_2, .int .i64 a1_3] from (k57_mkM _ _ _ (⟨a1_0, a1_1, (⟨a1_2, a1_3⟩ : S24)⟩ : S57) )) (Reps.none _ _))); intro v923 w40 ho41 hb hg_ hnew_; clear hg_ hnew_; (first | rw [← Ny922.out] at ho41 | (simp only [Int.reduceToNat] at ho41; rw [← Ny922.out] at ho41)); have n0_ := Aside0.mk (Kd.R_elder' (by (with_reducible repeat (first | apply Kd.R_alloc | apply Kd.R_drewN | apply Kd.R_drew)); exact HO919.out) (Kd.R_base ho41) hb); have n1_ := Aside0.mk (Kd.R_lower (Kd.R_newB (Kd.R_newB (Kd.R_new' ho41 (Kd.R_lt (by (with_reducible repeat (first | apply Kd.R_alloc | apply Kd.R_drewN | apply Kd.R_drew)); exact HO919.out))) (g := gb913) (o := .cells #[.string a1_0, .string a1_1, .int .i64 a1_2, .int .i64 a1_3] 57 (0, 0)) (by (with_reducible repeat (first | refine blk_drewN ?_ _ | refine blk_drew ?_ | refine blk_alloc ?_ _)); exact BK913.out)) (g := gb914) (o := .cells #[.string a2_0, .string a2_1, .int .i64 a2_2, .int .i64 a2_3] 57 (0, 0)) (by (with_reducible repeat (first | refine blk_drewN ?_ _ | refine blk_drew ?_ | refine blk_alloc ?_ _)); exact BK914.out)) (below_size (by repeat (first | (with_reducible first | exact HB.out | apply below_alloc | apply pw_below_drewN | apply below_drew1 | refine below_set ?_ GE913.out | refine below_set ?_ GE914.out) | exact HB.out)))); have n2_ := Aside0.mk (blk_below (g := gb913) (o := .cells #[.string a1_0, .string a1_1, .int .i64 a1_2, .int .i64 a1_3] 57 (0, 0)) (by (with_reducible repeat (first | refine blk_drewN ?_ _ | refine blk_drew ?_ | refine blk_alloc ?_ _)); exact BK913.out) hb); have n3_ := Aside0.mk (blk_below (g := gb914) (o := .cells #[.string a2_0, .string a2_1, .int .i64 a2_2, .int .i64 a2_3] 57 (0, 0)) (by (with_reducible repeat (first | refine blk_drewN ?_ _ | refine blk_drew ?_ | refine blk_alloc ?_ _)); exact BK914.out) hb); have n4_ := Aside0.mk (below_step (by repeat (first | (with_reducible first | exact HB.out | apply below_alloc | apply pw_below_drewN | apply below_drew1 | refine below_set ?_ GE913.out | refine below_set ?_ GE914.out) | exact HB.out)) hb); clear HO919; clear BK913; clear BK914; clear HB; have HO919 := n0_; have HO924 := n1_; have BK913 := n2_; have BK914 := n3_; have HB := n4_; clear n0_ n1_ n2_ n3_ n4_; clear hb ho41; obtain ⟨Ao42, co42, eo42⟩ := Kd.R_slice HO924.out; subst eo42) | (go_at_call 60; (with_reducible refine (pair_May.calls k _ _ y922 false _ ?side1 ?side2 A22.out).mono ?_); (case side1 => repeat (first | exact (Kd.R_reads' HO924.out).2.2 | (with_reducible refine Kd.C_alloc ?_ _) | (with_reducible refine Kd.C_drewN ?_ _) | (with_reducible refine Kd.C_drew ?_))); (case side2 => exact (Kd.R_reads' HO924.out).2.1); rintro e w43 ⟨rfl, hb⟩; have n0_ := Aside0.mk (Kd.R_below (by (with_reducible repeat (first | apply Kd.R_alloc | apply Kd.R_drewN | apply Kd.R_drew)); exact HO919.out) hb); have n1_ := Aside0.mk (Kd.R_below (by (with_reducible repeat (first | apply Kd.R_alloc | apply Kd.R_drewN | apply Kd.R_drew)); exact HO924.out) hb); have n2_ := Aside0.mk (blk_below (g := gb913) (o := .cells #[.string a1_0, .string a1_1, .int .i64 a1_2, .int .i64 a1_3] 57 (0, 0)) (by (with_reducible repeat (first | refine blk_drewN ?_ _ | refine blk_drew ?_ | refine blk_alloc ?_ _)); exact BK913.out) hb); have n3_ := Aside0.mk (blk_below (g := gb914) (o := .cells #[.string a2_0, .string a2_1, .int .i64 a2_2, .int .i64 a2_3] 57 (0, 0)) (by (with_reducible repeat (first | refine blk_drewN ?_ _ | refine blk_drew ?_ | refine blk_alloc ?_ _)); exact BK914.out) hb); have n4_ := Aside0.mk (below_step (by repeat (first | (with_reducible first | exact HB.out | apply below_alloc | apply pw_below_drewN | apply below_drew1 | refine below_set ?_ GE913.out | refine below_set ?_ GE914.out) | exact HB.out)) hb); clear HO919; clear HO924; clear BK913; clear BK914; clear HB; have HO919 := n0_; have HO924 := n1_; have BK913 := n2_; have BK914 := n3_; have HB := n4_; clear n0_ n1_ n2_ n3_ n4_; (try clear hb); (try clear hb2); (try clear hk); (try clear hi)))
       go_meet
       case rel => exact ⟨_, (true), (by first | rfl | (simp; done) | (simp [*]; done)), H', ⟨by first | omega | exact Nat.le_refl _⟩, ⟨by (with_reducible repeat (first | refine blk_drewN ?_ _ | refine blk_drew ?_ | refine blk_alloc ?_ _)); exact BK913.out⟩, ⟨by (with_reducible repeat (first | refine blk_drewN ?_ _ | refine blk_drew ?_ | refine blk_alloc ?_ _)); exact BK914.out⟩, ⟨by repeat (first | (with_reducible first | exact HB.out | apply below_alloc | apply pw_below_drewN | apply below_drew1 | refine below_set ?_ GE913.out | refine below_set ?_ GE914.out) | exact HB.out)⟩⟩
     ·replace c21 := Bool.eq_false_iff.mpr c21
      subst c21
      have H1 : (law08_PairOrder.j0 k l0 true true a1_0 a1_1 a1_2 a1_3 a2_0 a2_1 a2_2 a2_3) = some r := by rw [if_neg (show ¬ (false = true) by decide)] at H; exact H
      clear H
      have H := H1
      clear H1
      have H' := Aside0.mk H
      clear H
      go_wp2_with (first | (go_at_call 60; (with_reducible refine (pair_May.calls k _ _ l0 false _ ?side1 ?side2 A20.out).mono ?_); (case side1 => repeat (first | exact (Kd.C_below HR0.out HB.out) | (with_reducible refine Kd.C_alloc ?_ _) | (with_reducible refine Kd.C_drewN ?_ _) | (with_reducible refine Kd.C_drew ?_))); (case side2 => exact HC0.out); rintro e w44 ⟨rfl, hb⟩; have n0_ := Aside0.mk (Kd.R_below (by (with_reducible repeat (first | apply Kd.R_alloc | apply Kd.R_drewN | apply Kd.R_drew)); exact HO919.out) hb); have n1_ := Aside0.mk (blk_below (g := gb913) (o := .cells #[.string a1_0, .string a1_1, .int .i64 a1_2, .int .i64 a1_3] 57 (0, 0)) (by (with_reducible repeat (first | refine blk_drewN ?_ _ | refine blk_drew ?_ | refine blk_alloc ?_ _)); exact BK913.out) hb); have n2_ := Aside0.mk (blk_below (g := gb914) (o := .cells #[.string a2_0, .string a2_1, .int .i64 a2_2, .int .i64 a2_3] 57 (0, 0)) (by (with_reducible repeat (first | refine blk_drewN ?_ _ | refine blk_drew ?_ | refine blk_alloc ?_ _)); exact BK914.out) hb); have n3_ := Aside0.mk (below_step (by repeat (first | (with_reducible first | exact HB.out | apply below_alloc | apply pw_below_drewN | apply below_drew1 | refine below_set ?_ GE913.out | refine below_set ?_ GE914.out) | exact HB.out)) hb); clear HO919; clear BK913; clear BK914; clear HB; have HO919 := n0_; have BK913 := n1_; have BK914 := n2_; have HB := n3_; clear n0_ n1_ n2_ n3_; (try clear hb); (try clear hb2); (try clear hk); (try clear hi)))
      go_meet
      case rel => exact ⟨_, (true), (by first | rfl | (simp; done) | (simp [*]; done)), H', ⟨by first | omega | exact Nat.le_refl _⟩, ⟨by (with_reducible repeat (first | refine blk_drewN ?_ _ | refine blk_drew ?_ | refine blk_alloc ?_ _)); exact BK913.out⟩, ⟨by (with_reducible repeat (first | refine blk_drewN ?_ _ | refine blk_drew ?_ | refine blk_alloc ?_ _)); exact BK914.out⟩, ⟨by repeat (first | (with_reducible first | exact HB.out | apply below_alloc | apply pw_below_drewN | apply below_drew1 | refine below_set ?_ GE913.out | refine below_set ?_ GE914.out) | exact HB.out)⟩⟩
    ·replace c19 := Bool.eq_false_iff.mpr c19
     subst c19
     have H1 : (law08_PairOrder.j0 k l0 true true a1_0 a1_1 a1_2 a1_3 a2_0 a2_1 a2_2 a2_3) = some r := by rw [if_neg (show ¬ (false = true) by decide)] at H; exact H
     clear H
     have H := H1
     clear H1
     have H' := Aside0.mk H
     clear H
     go_wp2
     go_meet
     case rel => exact ⟨_, (true), (by first | rfl | (simp; done) | (simp [*]; done)), H', ⟨by first | omega | exact Nat.le_refl _⟩, ⟨by (with_reducible repeat (first | refine blk_drewN ?_ _ | refine blk_drew ?_ | refine blk_alloc ?_ _)); exact BK913.out⟩, ⟨by (with_reducible repeat (first | refine blk_drewN ?_ _ | refine blk_drew ?_ | refine blk_alloc ?_ _)); exact BK914.out⟩, ⟨by repeat (first | (with_reducible first | exact HB.out | apply below_alloc | apply pw_below_drewN | apply below_drew1 | refine below_set ?_ GE913.out | refine below_set ?_ GE914.out) | exact HB.out)⟩⟩
   ·replace c18 := Bool.eq_false_iff.mpr c18
    subst c18
    have H1 : (law08_PairOrder.j0 k l0 true true a1_0 a1_1 a1_2 a1_3 a2_0 a2_1 a2_2 a2_3) = some r := by rw [if_neg (show ¬ (false = true) by decide)] at H; exact H
    clear H
    have H := H1
    clear H1
    have H' := Aside0.mk H
    clear H
    go_wp2
    go_meet
    case rel => exact ⟨_, (true), (by first | rfl | (simp; done) | (simp [*]; done)), H', ⟨by first | omega | exact Nat.le_refl _⟩, ⟨by (with_reducible repeat (first | refine blk_drewN ?_ _ | refine blk_drew ?_ | refine blk_alloc ?_ _)); exact BK913.out⟩, ⟨by (with_reducible repeat (first | refine blk_drewN ?_ _ | refine blk_drew ?_ | refine blk_alloc ?_ _)); exact BK914.out⟩, ⟨by repeat (first | (with_reducible first | exact HB.out | apply below_alloc | apply pw_below_drewN | apply below_drew1 | refine below_set ?_ GE913.out | refine below_set ?_ GE914.out) | exact HB.out)⟩⟩
  ·replace c17 := Bool.eq_false_iff.mpr c17
   subst c17
   have H1 : (law08_PairOrder.j0 k l0 false true a1_0 a1_1 a1_2 a1_3 a2_0 a2_1 a2_2 a2_3) = some r := by rw [if_neg (show ¬ (false = true) by decide)] at H; exact H
   clear H
   have H := H1
   clear H1
   have H' := Aside0.mk H
   clear H
   go_wp2
   go_meet
   case rel => exact ⟨_, (true), (by first | rfl | (simp; done) | (simp [*]; done)), H', ⟨by first | omega | exact Nat.le_refl _⟩, ⟨by (with_reducible repeat (first | refine blk_drewN ?_ _ | refine blk_drew ?_ | refine blk_alloc ?_ _)); exact BK913.out⟩, ⟨by (with_reducible repeat (first | refine blk_drewN ?_ _ | refine blk_drew ?_ | refine blk_alloc ?_ _)); exact BK914.out⟩, ⟨by repeat (first | (with_reducible first | exact HB.out | apply below_alloc | apply pw_below_drewN | apply below_drew1 | refine below_set ?_ GE913.out | refine below_set ?_ GE914.out) | exact HB.out)⟩⟩
 case rest =>
  clear HC7
  try clear c1
  try clear c2
  try clear p2
  try clear c3
  try clear c4
  try clear c11
  try clear c17
  try clear c18
  try clear c19
  try clear c21
  try clear c23
  try clear c26
  try clear c38
  try clear hcz12_0
  try clear hcz12_1
  try clear hcz12_2
  try clear hcz12_3
  try clear hcz13_0
  try clear hcz13_1
  try clear hcz13_2
  try clear hcz13_3
  try clear hcz27_0
  try clear hcz27_1
  try clear hcz27_2
  try clear hcz27_3
  try clear hcz32_0
  try clear hcz32_1
  try clear hcz32_2
  try clear hcz32_3
  try clear hcz39_0
  try clear hcz39_1
  try clear hcz39_2
  try clear hcz39_3
  try clear hfz12_0
  try clear hfz12_1
  try clear hfz12_2
  try clear hfz12_3
  try clear hfz13_0
  try clear hfz13_1
  try clear hfz13_2
  try clear hfz13_3
  try clear hfz27_0
  try clear hfz27_1
  try clear hfz27_2
  try clear hfz27_3
  try clear hfz32_0
  try clear hfz32_1
  try clear hfz32_2
  try clear hfz32_3
  try clear hfz39_0
  try clear hfz39_1
  try clear hfz39_2
  try clear hfz39_3
  obtain ⟨kq, x49_6, rfl, HA, HJ6, BK913, BK914, HB⟩ := hcut
  cases kq with
  | zero => exact absurd HA.out (by simp [law08_PairOrder.j0])
  | succ kj6 =>
   have H := HA.out
   clear HA
   simp only [law08_PairOrder.j0] at H
   by_cases c45 : x49_6 = true
   ·subst c45
    have H1 : (some t915) = some r := by rw [if_pos rfl] at H; exact H
    clear H
    have H := H1
    clear H1
    obtain rfl := Option.some.inj H
    go_wp2
    go_ret
    exact ⟨by first | rfl | (simp [errW_none, errW_some] <;> rfl) | (simp [*, errW_none, errW_some] <;> rfl), by repeat (first | (with_reducible first | exact HB.out | apply below_alloc | apply pw_below_drewN | apply below_drew1 | refine below_set ?_ GE913.out | refine below_set ?_ GE914.out) | exact HB.out)⟩
   ·replace c45 := Bool.eq_false_iff.mpr c45
    subst c45
    have H1 : ((pair_Add.f l0 a1_0 a1_1 a1_2 a1_3).bind fun t930 => ((pair_Add.f t930 a1_0 a1_1 a1_2 a1_3).bind fun t933 => ((ref08_Same.f kj6 t933 t930).bind fun t936 => ((pair_Add.f t930 a2_0 a2_1 a2_2 a2_3).bind fun t937 => ((pair_Add.f l0 a2_0 a2_1 a2_2 a2_3).bind fun t940 => ((pair_Add.f t940 a1_0 a1_1 a1_2 a1_3).bind fun t943 => ((ref08_Same.f kj6 t937 t943).bind fun t946 => ((pair_Del.f l0 a1_0 a1_1).bind fun t947 => ((pair_Del.f t947 a1_0 a1_1).bind fun t950 => ((ref08_Same.f kj6 t950 t947).bind fun t953 => (if t936 = true then (if t946 = true then (law08_PairOrder.j1 kj6 l0 (!t953) a1_0 a1_1 a1_2 a1_3 a2_0 a2_1 a2_2 a2_3) else (law08_PairOrder.j1 kj6 l0 true a1_0 a1_1 a1_2 a1_3 a2_0 a2_1 a2_2 a2_3)) else (law08_PairOrder.j1 kj6 l0 true a1_0 a1_1 a1_2 a1_3 a2_0 a2_1 a2_2 a2_3)))))))))))) = some r := by rw [if_neg (show ¬ (false = true) by decide)] at H; exact H
    clear H
    have H := H1
    clear H1
    replace H := Option.bind_eq_some_iff.mp H
    obtain ⟨t930, A460, H⟩ := H
    replace H : ((pair_Add.f t930 a1_0 a1_1 a1_2 a1_3).bind fun t933 => ((ref08_Same.f kj6 t933 t930).bind fun t936 => ((pair_Add.f t930 a2_0 a2_1 a2_2 a2_3).bind fun t937 => ((pair_Add.f l0 a2_0 a2_1 a2_2 a2_3).bind fun t940 => ((pair_Add.f t940 a1_0 a1_1 a1_2 a1_3).bind fun t943 => ((ref08_Same.f kj6 t937 t943).bind fun t946 => ((pair_Del.f l0 a1_0 a1_1).bind fun t947 => ((pair_Del.f t947 a1_0 a1_1).bind fun t950 => ((ref08_Same.f kj6 t950 t947).bind fun t953 => (if t936 = true then (if t946 = true then (law08_PairOrder.j1 kj6 l0 (!t953) a1_0 a1_1 a1_2 a1_3 a2_0 a2_1 a2_2 a2_3) else (law08_PairOrder.j1 kj6 l0 true a1_0 a1_1 a1_2 a1_3 a2_0 a2_1 a2_2 a2_3)) else (law08_PairOrder.j1 kj6 l0 true a1_0 a1_1 a1_2 a1_3 a2_0 a2_1 a2_2 a2_3))))))))))) = some r := H
    have A46 := Aside0.mk A460
    clear A460
    replace H := Option.bind_eq_some_iff.mp H
    obtain ⟨t933, A470, H⟩ := H
    replace H : ((ref08_Same.f kj6 t933 t930).bind fun t936 => ((pair_Add.f t930 a2_0 a2_1 a2_2 a2_3).bind fun t937 => ((pair_Add.f l0 a2_0 a2_1 a2_2 a2_3).bind fun t940 => ((pair_Add.f t940 a1_0 a1_1 a1_2 a1_3).bind fun t943 => ((ref08_Same.f kj6 t937 t943).bind fun t946 => ((pair_Del.f l0 a1_0 a1_1).bind fun t947 => ((pair_Del.f t947 a1_0 a1_1).bind fun t950 => ((ref08_Same.f kj6 t950 t947).bind fun t953 => (if t936 = true then (if t946 = true then (law08_PairOrder.j1 kj6 l0 (!t953) a1_0 a1_1 a1_2 a1_3 a2_0 a2_1 a2_2 a2_3) else (law08_PairOrder.j1 kj6 l0 true a1_0 a1_1 a1_2 a1_3 a2_0 a2_1 a2_2 a2_3)) else (law08_PairOrder.j1 kj6 l0 true a1_0 a1_1 a1_2 a1_3 a2_0 a2_1 a2_2 a2_3)))))))))) = some r := H
    have A47 := Aside0.mk A470
    clear A470
    replace H := Option.bind_eq_some_iff.mp H
    obtain ⟨t936, A480, H⟩ := H
    replace H : ((pair_Add.f t930 a2_0 a2_1 a2_2 a2_3).bind fun t937 => ((pair_Add.f l0 a2_0 a2_1 a2_2 a2_3).bind fun t940 => ((pair_Add.f t940 a1_0 a1_1 a1_2 a1_3).bind fun t943 => ((ref08_Same.f kj6 t937 t943).bind fun t946 => ((pair_Del.f l0 a1_0 a1_1).bind fun t947 => ((pair_Del.f t947 a1_0 a1_1).bind fun t950 => ((ref08_Same.f kj6 t950 t947).bind fun t953 => (if t936 = true then (if t946 = true then (law08_PairOrder.j1 kj6 l0 (!t953) a1_0 a1_1 a1_2 a1_3 a2_0 a2_1 a2_2 a2_3) else (law08_PairOrder.j1 kj6 l0 true a1_0 a1_1 a1_2 a1_3 a2_0 a2_1 a2_2 a2_3)) else (law08_PairOrder.j1 kj6 l0 true a1_0 a1_1 a1_2 a1_3 a2_0 a2_1 a2_2 a2_3))))))))) = some r := H
    have A48 := Aside0.mk A480
    clear A480
    replace H := Option.bind_eq_some_iff.mp H
    obtain ⟨t937, A490, H⟩ := H
    replace H : ((pair_Add.f l0 a2_0 a2_1 a2_2 a2_3).bind fun t940 => ((pair_Add.f t940 a1_0 a1_1 a1_2 a1_3).bind fun t943 => ((ref08_Same.f kj6 t937 t943).bind fun t946 => ((pair_Del.f l0 a1_0 a1_1).bind fun t947 => ((pair_Del.f t947 a1_0 a1_1).bind fun t950 => ((ref08_Same.f kj6 t950 t947).bind fun t953 => (if t936 = true then (if t946 = true then (law08_PairOrder.j1 kj6 l0 (!t953) a1_0 a1_1 a1_2 a1_3 a2_0 a2_1 a2_2 a2_3) else (law08_PairOrder.j1 kj6 l0 true a1_0 a1_1 a1_2 a1_3 a2_0 a2_1 a2_2 a2_3)) else (law08_PairOrder.j1 kj6 l0 true a1_0 a1_1 a1_2 a1_3 a2_0 a2_1 a2_2 a2_3)))))))) = some r := H
    have A49 := Aside0.mk A490
    clear A490
    replace H := Option.bind_eq_some_iff.mp H
    obtain ⟨t940, A500, H⟩ := H
    replace H : ((pair_Add.f t940 a1_0 a1_1 a1_2 a1_3).bind fun t943 => ((ref08_Same.f kj6 t937 t943).bind fun t946 => ((pair_Del.f l0 a1_0 a1_1).bind fun t947 => ((pair_Del.f t947 a1_0 a1_1).bind fun t950 => ((ref08_Same.f kj6 t950 t947).bind fun t953 => (if t936 = true then (if t946 = true then (law08_PairOrder.j1 kj6 l0 (!t953) a1_0 a1_1 a1_2 a1_3 a2_0 a2_1 a2_2 a2_3) else (law08_PairOrder.j1 kj6 l0 true a1_0 a1_1 a1_2 a1_3 a2_0 a2_1 a2_2 a2_3)) else (law08_PairOrder.j1 kj6 l0 true a1_0 a1_1 a1_2 a1_3 a2_0 a2_1 a2_2 a2_3))))))) = some r := H
    have A50 := Aside0.mk A500
    clear A500
    replace H := Option.bind_eq_some_iff.mp H
    obtain ⟨t943, A510, H⟩ := H
    replace H : ((ref08_Same.f kj6 t937 t943).bind fun t946 => ((pair_Del.f l0 a1_0 a1_1).bind fun t947 => ((pair_Del.f t947 a1_0 a1_1).bind fun t950 => ((ref08_Same.f kj6 t950 t947).bind fun t953 => (if t936 = true then (if t946 = true then (law08_PairOrder.j1 kj6 l0 (!t953) a1_0 a1_1 a1_2 a1_3 a2_0 a2_1 a2_2 a2_3) else (law08_PairOrder.j1 kj6 l0 true a1_0 a1_1 a1_2 a1_3 a2_0 a2_1 a2_2 a2_3)) else (law08_PairOrder.j1 kj6 l0 true a1_0 a1_1 a1_2 a1_3 a2_0 a2_1 a2_2 a2_3)))))) = some r := H
    have A51 := Aside0.mk A510
    clear A510
    replace H := Option.bind_eq_some_iff.mp H
    obtain ⟨t946, A520, H⟩ := H
    replace H : ((pair_Del.f l0 a1_0 a1_1).bind fun t947 => ((pair_Del.f t947 a1_0 a1_1).bind fun t950 => ((ref08_Same.f kj6 t950 t947).bind fun t953 => (if t936 = true then (if t946 = true then (law08_PairOrder.j1 kj6 l0 (!t953) a1_0 a1_1 a1_2 a1_3 a2_0 a2_1 a2_2 a2_3) else (law08_PairOrder.j1 kj6 l0 true a1_0 a1_1 a1_2 a1_3 a2_0 a2_1 a2_2 a2_3)) else (law08_PairOrder.j1 kj6 l0 true a1_0 a1_1 a1_2 a1_3 a2_0 a2_1 a2_2 a2_3))))) = some r := H
    have A52 := Aside0.mk A520
    clear A520
    replace H := Option.bind_eq_some_iff.mp H
    obtain ⟨t947, A530, H⟩ := H
    replace H : ((pair_Del.f t947 a1_0 a1_1).bind fun t950 => ((ref08_Same.f kj6 t950 t947).bind fun t953 => (if t936 = true then (if t946 = true then (law08_PairOrder.j1 kj6 l0 (!t953) a1_0 a1_1 a1_2 a1_3 a2_0 a2_1 a2_2 a2_3) else (law08_PairOrder.j1 kj6 l0 true a1_0 a1_1 a1_2 a1_3 a2_0 a2_1 a2_2 a2_3)) else (law08_PairOrder.j1 kj6 l0 true a1_0 a1_1 a1_2 a1_3 a2_0 a2_1 a2_2 a2_3)))) = some r := H
    have A53 := Aside0.mk A530
    clear A530
    replace H := Option.bind_eq_some_iff.mp H
    obtain ⟨t950, A540, H⟩ := H
    replace H : ((ref08_Same.f kj6 t950 t947).bind fun t953 => (if t936 = true then (if t946 = true then (law08_PairOrder.j1 kj6 l0 (!t953) a1_0 a1_1 a1_2 a1_3 a2_0 a2_1 a2_2 a2_3) else (law08_PairOrder.j1 kj6 l0 true a1_0 a1_1 a1_2 a1_3 a2_0 a2_1 a2_2 a2_3)) else (law08_PairOrder.j1 kj6 l0 true a1_0 a1_1 a1_2 a1_3 a2_0 a2_1 a2_2 a2_3))) = some r := H
    have A54 := Aside0.mk A540
    clear A540
    replace H := Option.bind_eq_some_iff.mp H
    obtain ⟨t953, A550, H⟩ := H
    replace H : (if t936 = true then (if t946 = true then (law08_PairOrder.j1 kj6 l0 (!t953) a1_0 a1_1 a1_2 a1_3 a2_0 a2_1 a2_2 a2_3) else (law08_PairOrder.j1 kj6 l0 true a1_0 a1_1 a1_2 a1_3 a2_0 a2_1 a2_2 a2_3)) else (law08_PairOrder.j1 kj6 l0 true a1_0 a1_1 a1_2 a1_3 a2_0 a2_1 a2_2 a2_3)) = some r := H
    have A55 := Aside0.mk A550
    clear A550
    have HC56 := Aside0.mk H
    clear H
    have hnb57 := NB913_914.out
    have hnc57 := NB914_913.out
    have hcz58_0 : wc.cell? ⟨gb913, 0, none⟩ = some (.string a1_0) := (blk_cell BK913.out 0).trans rfl
    have hcz58_1 : wc.cell? ⟨gb913, 1, none⟩ = some (.string a1_1) := (blk_cell BK913.out 1).trans rfl
    have hcz58_2 : wc.cell? ⟨gb913, 2, none⟩ = some (.int .i64 a1_2) := (blk_cell BK913.out 2).trans rfl
    have hcz58_3 : wc.cell? ⟨gb913, 3, none⟩ = some (.int .i64 a1_3) := (blk_cell BK913.out 3).trans rfl
    have hfz58_0 := blk_frozen BK913.out 0
    have hfz58_1 := blk_frozen BK913.out 1
    have hfz58_2 := blk_frozen BK913.out 2
    have hfz58_3 := blk_frozen BK913.out 3
    try go_wp2_with (first | ((with_reducible refine gate_callee (f := 49) rfl ?_); refine goesL_ (some 53) rfl rfl Try.func49 (by kernel_rfl) rfl #[.slice A0 l0.length c0, .agg #[.string a1_0, .string a1_1, .int .i64 a1_2, .int .i64 a1_3]] rfl (by (try simp only [List.map_toArray, List.map_cons, List.map_nil]); first | done | rfl | (simp only [List.length_drop, List.length_take]; rfl)) ?_; (with_reducible refine (pair_Add.calls _ _ l0 a1_0 a1_1 a1_2 a1_3 t930 _ ?side1 ?side2 A46.out).mono ?_); (case side1 => repeat (first | exact (Kd.C_below HR0.out HB.out) | (with_reducible refine Kd.C_alloc ?_ _) | (with_reducible refine Kd.C_drewN ?_ _) | (with_reducible refine Kd.C_drew ?_))); (case side2 => exact HC0.out); rintro e w59 ⟨v931, rfl, ho0, hb⟩; refine ⟨_, rfl, ?_⟩; have n0_ := Aside0.mk (Kd.R_lower (Kd.R_newB (Kd.R_newB ho0 (g := gb913) (o := .cells #[.string a1_0, .string a1_1, .int .i64 a1_2, .int .i64 a1_3] 57 (0, 0)) (by (with_reducible repeat (first | refine blk_drewN ?_ _ | refine blk_drew ?_ | refine blk_alloc ?_ _)); exact BK913.out)) (g := gb914) (o := .cells #[.string a2_0, .string a2_1, .int .i64 a2_2, .int .i64 a2_3] 57 (0, 0)) (by (with_reducible repeat (first | refine blk_drewN ?_ _ | refine blk_drew ?_ | refine blk_alloc ?_ _)); exact BK914.out)) (below_size (by repeat (first | (with_reducible first | exact HB.out | apply below_alloc | apply pw_below_drewN | apply below_drew1 | refine below_set ?_ GE913.out | refine below_set ?_ GE914.out) | exact HB.out)))); have n1_ := Aside0.mk (blk_below (g := gb913) (o := .cells #[.string a1_0, .string a1_1, .int .i64 a1_2, .int .i64 a1_3] 57 (0, 0)) (by (with_reducible repeat (first | refine blk_drewN ?_ _ | refine blk_drew ?_ | refine blk_alloc ?_ _)); exact BK913.out) hb); have n2_ := Aside0.mk (blk_below (g := gb914) (o := .cells #[.string a2_0, .string a2_1, .int .i64 a2_2, .int .i64 a2_3] 57 (0, 0)) (by (with_reducible repeat (first | refine blk_drewN ?_ _ | refine blk_drew ?_ | refine blk_alloc ?_ _)); exact BK914.out) hb); have n3_ := Aside0.mk (below_step (by repeat (first | (with_reducible first | exact HB.out | apply below_alloc | apply pw_below_drewN | apply below_drew1 | refine below_set ?_ GE913.out | refine below_set ?_ GE914.out) | exact HB.out)) hb); clear BK913; clear BK914; clear HB; have HO932 := n0_; have BK913 := n1_; have BK914 := n2_; have HB := n3_; clear n0_ n1_ n2_ n3_; (try clear hb); (try clear hb2); (try clear hk); (try clear hi); (try clear ho0); have hcz60_0 : w59.cell? ⟨gb913, 0, none⟩ = some (.string a1_0) := (blk_cell BK913.out 0).trans rfl; have hcz60_1 : w59.cell? ⟨gb913, 1, none⟩ = some (.string a1_1) := (blk_cell BK913.out 1).trans rfl; have hcz60_2 : w59.cell? ⟨gb913, 2, none⟩ = some (.int .i64 a1_2) := (blk_cell BK913.out 2).trans rfl; have hcz60_3 : w59.cell? ⟨gb913, 3, none⟩ = some (.int .i64 a1_3) := (blk_cell BK913.out 3).trans rfl; have hfz60_0 := blk_frozen BK913.out 0; have hfz60_1 := blk_frozen BK913.out 1; have hfz60_2 := blk_frozen BK913.out 2; have hfz60_3 := blk_frozen BK913.out 3; obtain ⟨Ao61, co61, eo61⟩ := Kd.R_slice HO932.out; subst eo61) | ((with_reducible refine gate_callee (f := 49) rfl ?_); refine goesL_ (some 56) rfl rfl Try.func49 (by kernel_rfl) rfl #[.slice Ao61 t930.length co61, .agg #[.string a1_0, .string a1_1, .int .i64 a1_2, .int .i64 a1_3]] rfl (by (try simp only [List.map_toArray, List.map_cons, List.map_nil]); first | done | rfl | (simp only [List.length_drop, List.length_take]; rfl)) ?_; (with_reducible refine (pair_Add.calls _ _ t930 a1_0 a1_1 a1_2 a1_3 t933 _ ?side1 ?side2 A47.out).mono ?_); (case side1 => repeat (first | exact (Kd.R_reads' HO932.out).2.2 | (with_reducible refine Kd.C_alloc ?_ _) | (with_reducible refine Kd.C_drewN ?_ _) | (with_reducible refine Kd.C_drew ?_))); (case side2 => exact (Kd.R_reads' HO932.out).2.1); rintro e w62 ⟨v934, rfl, ho0, hb⟩; refine ⟨_, rfl, ?_⟩; have n0_ := Aside0.mk (Kd.R_elder' (by (with_reducible repeat (first | apply Kd.R_alloc | apply Kd.R_drewN | apply Kd.R_drew)); exact HO932.out) (Kd.R_base ho0) hb); have n1_ := Aside0.mk (Kd.R_lower (Kd.R_newB (Kd.R_newB (Kd.R_new' ho0 (Kd.R_lt (by (with_reducible repeat (first | apply Kd.R_alloc | apply Kd.R_drewN | apply Kd.R_drew)); exact HO932.out))) (g := gb913) (o := .cells #[.string a1_0, .string a1_1, .int .i64 a1_2, .int .i64 a1_3] 57 (0, 0)) (by (with_reducible repeat (first | refine blk_drewN ?_ _ | refine blk_drew ?_ | refine blk_alloc ?_ _)); exact BK913.out)) (g := gb914) (o := .cells #[.string a2_0, .string a2_1, .int .i64 a2_2, .int .i64 a2_3] 57 (0, 0)) (by (with_reducible repeat (first | refine blk_drewN ?_ _ | refine blk_drew ?_ | refine blk_alloc ?_ _)); exact BK914.out)) (below_size (by repeat (first | (with_reducible first | exact HB.out | apply below_alloc | apply pw_below_drewN | apply below_drew1 | refine below_set ?_ GE913.out | refine below_set ?_ GE914.out) | exact HB.out)))); have n2_ := Aside0.mk (blk_below (g := gb913) (o := .cells #[.string a1_0, .string a1_1, .int .i64 a1_2, .int .i64 a1_3] 57 (0, 0)) (by (with_reducible repeat (first | refine blk_drewN ?_ _ | refine blk_drew ?_ | refine blk_alloc ?_ _)); exact BK913.out) hb); have n3_ := Aside0.mk (blk_below (g := gb914) (o := .cells #[.string a2_0, .string a2_1, .int .i64 a2_2, .int .i64 a2_3] 57 (0, 0)) (by (with_reducible repeat (first | refine blk_drewN ?_ _ | refine blk_drew ?_ | refine blk_alloc ?_ _)); exact BK914.out) hb); have n4_ := Aside0.mk (below_step (by repeat (first | (with_reducible first | exact HB.out | apply below_alloc | apply pw_below_drewN | apply below_drew1 | refine below_set ?_ GE913.out | refine below_set ?_ GE914.out) | exact HB.out)) hb); clear HO932; clear BK913; clear BK914; clear HB; have HO932 := n0_; have HO935 := n1_; have BK913 := n2_; have BK914 := n3_; have HB := n4_; clear n0_ n1_ n2_ n3_ n4_; (try clear hb); (try clear hb2); (try clear hk); (try clear hi); (try clear ho0); obtain ⟨Ao63, co63, eo63⟩ := Kd.R_slice HO935.out; subst eo63) | ((with_reducible refine gate_callee (f := 48) rfl ?_); refine goesL_ (some 58) rfl rfl Try.func48 (by kernel_rfl) rfl #[.slice Ao63 t933.length co63, .slice Ao61 t930.length co61] rfl (by (try simp only [List.map_toArray, List.map_cons, List.map_nil]); first | done | rfl | (simp only [List.length_drop, List.length_take]; rfl)) ?_; (with_reducible refine (ref08_Same.calls kj6 _ _ t933 _ _ t930 t936 _ ?side1 ?side2 ?side3 ?side4 A48.out).mono ?_); (case side1 => repeat (first | exact (Kd.R_reads' HO935.out).2.2 | (with_reducible refine Kd.C_alloc ?_ _) | (with_reducible refine Kd.C_drewN ?_ _) | (with_reducible refine Kd.C_drew ?_))); (case side2 => exact (Kd.R_reads' HO935.out).2.1); (case side3 => repeat (first | exact (Kd.R_reads' HO932.out).2.2 | (with_reducible refine Kd.C_alloc ?_ _) | (with_reducible refine Kd.C_drewN ?_ _) | (with_reducible refine Kd.C_drew ?_))); (case side4 => exact (Kd.R_reads' HO932.out).2.1); rintro e w' ⟨rfl, ⟨nd, rfl⟩⟩; refine ⟨_, rfl, ?_⟩))
    (try (rw [drewN_self w62]; generalize hq_ : World.drewN w62 _ = w62; have n0_ : Aside0 (Kd.R k57 57 w62 w.heap.size (fun k_ => some k_ ≠ (.slice Ao63 t933.length co63 : Value).ownBlock ∧ k_ ≠ gb913 ∧ k_ ≠ gb914) (.slice Ao61 t930.length co61) t930) := ⟨by rw [← hq_]; exact (by (with_reducible repeat (first | apply Kd.R_alloc | apply Kd.R_drewN | apply Kd.R_drew)); exact Kd.R_mono HO932.out (fun _ hk => ⟨hk.2, ⟨hk.1.1.2, hk.1.2⟩⟩))⟩; have n1_ : Aside0 (Kd.R k57 57 w62 w.heap.size (fun k_ => some k_ ≠ (.slice Ao61 t930.length co61 : Value).ownBlock ∧ k_ ≠ gb913 ∧ k_ ≠ gb914) (.slice Ao63 t933.length co63) t933) := ⟨by rw [← hq_]; exact (by (with_reducible repeat (first | apply Kd.R_alloc | apply Kd.R_drewN | apply Kd.R_drew)); exact Kd.R_mono HO935.out (fun _ hk => ⟨hk.1.1.2, ⟨hk.1.2, hk.2⟩⟩))⟩; have n2_ : Aside0 (w62.heap[gb913]? = some (.cells #[.string a1_0, .string a1_1, .int .i64 a1_2, .int .i64 a1_3] 57 (0, 0))) := ⟨by rw [← hq_]; exact (by (with_reducible repeat (first | refine blk_drewN ?_ _ | refine blk_drew ?_ | refine blk_alloc ?_ _)); exact BK913.out)⟩; have n3_ : Aside0 (w62.heap[gb914]? = some (.cells #[.string a2_0, .string a2_1, .int .i64 a2_2, .int .i64 a2_3] 57 (0, 0))) := ⟨by rw [← hq_]; exact (by (with_reducible repeat (first | refine blk_drewN ?_ _ | refine blk_drew ?_ | refine blk_alloc ?_ _)); exact BK914.out)⟩; have n4_ : Aside0 (Below w.heap.size w w62) := ⟨by rw [← hq_]; exact (by repeat (first | (with_reducible first | exact HB.out | apply below_alloc | apply pw_below_drewN | apply below_drew1 | refine below_set ?_ GE913.out | refine below_set ?_ GE914.out) | exact HB.out))⟩; clear HO932 HO935 BK913 BK914 HB hq_; have HO932 := n0_; have HO935 := n1_; have BK913 := n2_; have BK914 := n3_; have HB := n4_; clear n0_ n1_ n2_ n3_ n4_))
    have n0_ := Aside0.mk (Kd.R_drew HO932.out)
    have n1_ := Aside0.mk (Kd.R_drew HO935.out)
    have n2_ := Aside0.mk (blk_drew BK913.out)
    have n3_ := Aside0.mk (blk_drew BK914.out)
    have n4_ := Aside0.mk (below_drew1 HB.out)
    clear HO932
    clear HO935
    clear BK913
    clear BK914
    clear HB
    have HO932 := n0_
    have HO935 := n1_
    have BK913 := n2_
    have BK914 := n3_
    have HB := n4_
    clear n0_ n1_ n2_ n3_ n4_
    refine start_ (n := 10) (S := fun w' => w'.cell? ⟨gb914, 0, none⟩ = some (.string a2_0) ∧ w'.cell? ⟨gb914, 1, none⟩ = some (.string a2_1) ∧ w'.cell? ⟨gb914, 2, none⟩ = some (.int .i64 a2_2) ∧ w'.cell? ⟨gb914, 3, none⟩ = some (.int .i64 a2_3) ∧ w'.cell? ⟨gb913, 0, none⟩ = some (.string a1_0) ∧ w'.cell? ⟨gb913, 1, none⟩ = some (.string a1_1) ∧ w'.cell? ⟨gb913, 2, none⟩ = some (.int .i64 a1_2) ∧ w'.cell? ⟨gb913, 3, none⟩ = some (.int .i64 a1_3)) (ds := []) #[false,false,false,false,false,false,false,false,false,false] (by kernel_rfl) rfl rfl ⟨(blk_cell BK914.out 0).trans rfl, (blk_cell BK914.out 1).trans rfl, (blk_cell BK914.out 2).trans rfl, (blk_cell BK914.out 3).trans rfl, (blk_cell BK913.out 0).trans rfl, (blk_cell BK913.out 1).trans rfl, (blk_cell BK913.out 2).trans rfl, (blk_cell BK913.out 3).trans rfl⟩ (fun hHeld => ?_); refine with_tabW law08_PairOrder.tab8 law08_PairOrder.bits8 (fun HT_ HW_ => ?_)
    generalize w62.drew = w64 at HO932 HO935 BK913 BK914 HB hHeld ⊢
    refine pure_ (i := 0) (N := some 59) (v := ?_) (a' := ?_) #[true,false,false,false,false,false,false,false,false,false] rfl rfl (any_of HT_.out (by kernel_rfl)) (fun _ _ _ h => h) (Or.inl ⟨by rfl, ?_⟩) ?_ ?_
    rotate_left
    ·intro w'
     go_simp
     with_reducible rfl
    rotate_left
    ·simp only [Act.put, List.setIfInBounds_toArray, List.set_cons_zero, List.set_cons_succ, i64_w, i32_w]
     rfl
    refine pure_ (i := 3) (N := some 62) (v := ?_) (a' := ?_) #[true,false,false,true,false,false,false,false,false,false] rfl rfl (any_of HT_.out (by kernel_rfl)) (fun _ _ _ h => h) (Or.inl ⟨by rfl, ?_⟩) ?_ ?_
    rotate_left
    ·intro w'
     go_simp
     with_reducible rfl
    rotate_left
    ·simp only [Act.put, List.setIfInBounds_toArray, List.set_cons_zero, List.set_cons_succ, i64_w, i32_w]
     rfl
    refine take_ (i := 1) (N := some 60) (v := ?_) (a' := ?_) #[true,true,false,true,false,false,false,false,false,false] rfl rfl (take_ofW HT_.out HW_.out (by kernel_rfl)) (fun _ _ _ h => h) (Or.inl ⟨by rfl, ?_⟩) hHeld ?_ ?_
    rotate_left
    ·rintro w' ⟨s0, s1, s2, s3, s4, s5, s6, s7⟩
     go_simp
     with_reducible rfl
    rotate_left
    ·simp only [Act.put, List.setIfInBounds_toArray, List.set_cons_zero, List.set_cons_succ, i64_w, i32_w]
     rfl
    refine take_ (i := 4) (N := some 63) (v := ?_) (a' := ?_) #[true,true,false,true,true,false,false,false,false,false] rfl rfl (take_ofW HT_.out HW_.out (by kernel_rfl)) (fun _ _ _ h => h) (Or.inl ⟨by rfl, ?_⟩) hHeld ?_ ?_
    rotate_left
    ·rintro w' ⟨s0, s1, s2, s3, s4, s5, s6, s7⟩
     go_simp
     with_reducible rfl
    rotate_left
    ·simp only [Act.put, List.setIfInBounds_toArray, List.set_cons_zero, List.set_cons_succ, i64_w, i32_w]
     rfl
    refine take_ (i := 6) (N := some 65) (v := ?_) (a' := ?_) #[true,true,false,true,true,false,true,false,false,false] rfl rfl (take_ofW HT_.out HW_.out (by kernel_rfl)) (fun _ _ _ h => h) (Or.inl ⟨by rfl, ?_⟩) hHeld ?_ ?_
    rotate_left
    ·rintro w' ⟨s0, s1, s2, s3, s4, s5, s6, s7⟩
     go_simp
     with_reducible rfl
    rotate_left
    ·simp only [Act.put, List.setIfInBounds_toArray, List.set_cons_zero, List.set_cons_succ, i64_w, i32_w]
     rfl
    refine one_ (i := 2) (N := some 61) #[true,true,true,true,true,false,true,false,false,false] rfl rfl (one_of HT_.out (by kernel_rfl)) (by decide) (fun K hK => ?_)
    refine goes_ Try.func49 (by kernel_rfl) rfl #[.slice Ao61 t930.length co61, .agg #[.string a2_0, .string a2_1, .int .i64 a2_2, .int .i64 a2_3]] (by rfl) rfl rfl (by (try simp only [List.map_toArray, List.map_cons, List.map_nil]); first | done | rfl | (simp only [List.length_drop, List.length_take]; rfl)) ?_
    with_reducible refine (pair_Add.calls _ _ t930 a2_0 a2_1 a2_2 a2_3 t937 _ ?side1 ?side2 A49.out).mono ?_
    (case side1 => repeat (first | exact (Kd.R_reads' HO932.out).2.2 | (with_reducible refine Kd.C_alloc ?_ _) | (with_reducible refine Kd.C_drewN ?_ _) | (with_reducible refine Kd.C_drew ?_)))
    (case side2 => exact (Kd.R_reads' HO932.out).2.1)
    rintro e w65 ⟨v938, rfl, ho0, hb⟩
    refine ⟨_, rfl, ?_⟩
    have n0_ := Aside0.mk (Kd.R_elder' (by (with_reducible repeat (first | apply Kd.R_alloc | apply Kd.R_drewN | apply Kd.R_drew)); exact HO932.out) (Kd.R_base ho0) hb)
    have n1_ := Aside0.mk (Kd.R_elder' (by (with_reducible repeat (first | apply Kd.R_alloc | apply Kd.R_drewN | apply Kd.R_drew)); exact HO935.out) (Kd.R_base ho0) hb)
    have n2_ := Aside0.mk (Kd.R_lower (Kd.R_newB (Kd.R_newB (Kd.R_new' (Kd.R_new' ho0 (Kd.R_lt (by (with_reducible repeat (first | apply Kd.R_alloc | apply Kd.R_drewN | apply Kd.R_drew)); exact HO932.out))) (Kd.R_lt (by (with_reducible repeat (first | apply Kd.R_alloc | apply Kd.R_drewN | apply Kd.R_drew)); exact HO935.out))) (g := gb913) (o := .cells #[.string a1_0, .string a1_1, .int .i64 a1_2, .int .i64 a1_3] 57 (0, 0)) (by (with_reducible repeat (first | refine blk_drewN ?_ _ | refine blk_drew ?_ | refine blk_alloc ?_ _)); exact BK913.out)) (g := gb914) (o := .cells #[.string a2_0, .string a2_1, .int .i64 a2_2, .int .i64 a2_3] 57 (0, 0)) (by (with_reducible repeat (first | refine blk_drewN ?_ _ | refine blk_drew ?_ | refine blk_alloc ?_ _)); exact BK914.out)) (below_size (by repeat (first | (with_reducible first | exact HB.out | apply below_alloc | apply pw_below_drewN | apply below_drew1 | refine below_set ?_ GE913.out | refine below_set ?_ GE914.out) | exact HB.out))))
    have n3_ := Aside0.mk (blk_below (g := gb913) (o := .cells #[.string a1_0, .string a1_1, .int .i64 a1_2, .int .i64 a1_3] 57 (0, 0)) (by (with_reducible repeat (first | refine blk_drewN ?_ _ | refine blk_drew ?_ | refine blk_alloc ?_ _)); exact BK913.out) hb)
    have n4_ := Aside0.mk (blk_below (g := gb914) (o := .cells #[.string a2_0, .string a2_1, .int .i64 a2_2, .int .i64 a2_3] 57 (0, 0)) (by (with_reducible repeat (first | refine blk_drewN ?_ _ | refine blk_drew ?_ | refine blk_alloc ?_ _)); exact BK914.out) hb)
    have n5_ := Aside0.mk (below_step (by repeat (first | (with_reducible first | exact HB.out | apply below_alloc | apply pw_below_drewN | apply below_drew1 | refine below_set ?_ GE913.out | refine below_set ?_ GE914.out) | exact HB.out)) hb)
    clear HO932
    clear HO935
    clear BK913
    clear BK914
    clear HB
    have HO932 := n0_
    have HO935 := n1_
    have HO939 := n2_
    have BK913 := n3_
    have BK914 := n4_
    have HB := n5_
    clear n0_ n1_ n2_ n3_ n4_ n5_
    (try clear hb)
    (try clear hb2)
    (try clear hk)
    (try clear hi)
    (try clear ho0)
    refine hK.out _ _ ⟨(blk_cell BK914.out 0).trans rfl, (blk_cell BK914.out 1).trans rfl, (blk_cell BK914.out 2).trans rfl, (blk_cell BK914.out 3).trans rfl, (blk_cell BK913.out 0).trans rfl, (blk_cell BK913.out 1).trans rfl, (blk_cell BK913.out 2).trans rfl, (blk_cell BK913.out 3).trans rfl⟩ (fun hHeld => ?_)
    clear hK K
    refine norm_ (a' := ?_) ?_ ?_
    rotate_left
    ·show Act.put _ (some 61) _ = _
     simp only [Act.put, List.setIfInBounds_toArray, List.set_cons_zero, List.set_cons_succ, i64_w, i32_w]
     rfl
    refine one_ (i := 5) (N := some 64) #[true,true,true,true,true,true,true,false,false,false] rfl rfl (one_of HT_.out (by kernel_rfl)) (by decide) (fun K hK => ?_)
    refine goes_ Try.func49 (by kernel_rfl) rfl #[.slice A0 l0.length c0, .agg #[.string a2_0, .string a2_1, .int .i64 a2_2, .int .i64 a2_3]] (by rfl) rfl rfl (by (try simp only [List.map_toArray, List.map_cons, List.map_nil]); first | done | rfl | (simp only [List.length_drop, List.length_take]; rfl)) ?_
    with_reducible refine (pair_Add.calls _ _ l0 a2_0 a2_1 a2_2 a2_3 t940 _ ?side1 ?side2 A50.out).mono ?_
    (case side1 => repeat (first | exact (Kd.C_below HR0.out HB.out) | (with_reducible refine Kd.C_alloc ?_ _) | (with_reducible refine Kd.C_drewN ?_ _) | (with_reducible refine Kd.C_drew ?_)))
    (case side2 => exact HC0.out)
    rintro e w66 ⟨v941, rfl, ho0, hb⟩
    refine ⟨_, rfl, ?_⟩
    have n0_ := Aside0.mk (Kd.R_elder' (by (with_reducible repeat (first | apply Kd.R_alloc | apply Kd.R_drewN | apply Kd.R_drew)); exact HO932.out) (Kd.R_base ho0) hb)
    have n1_ := Aside0.mk (Kd.R_elder' (by (with_reducible repeat (first | apply Kd.R_alloc | apply Kd.R_drewN | apply Kd.R_drew)); exact HO935.out) (Kd.R_base ho0) hb)
    have n2_ := Aside0.mk (Kd.R_elder' (by (with_reducible repeat (first | apply Kd.R_alloc | apply Kd.R_drewN | apply Kd.R_drew)); exact HO939.out) (Kd.R_base ho0) hb)
    have n3_ := Aside0.mk (Kd.R_lower (Kd.R_newB (Kd.R_newB (Kd.R_new' (Kd.R_new' (Kd.R_new' ho0 (Kd.R_lt (by (with_reducible repeat (first | apply Kd.R_alloc | apply Kd.R_drewN | apply Kd.R_drew)); exact HO932.out))) (Kd.R_lt (by (with_reducible repeat (first | apply Kd.R_alloc | apply Kd.R_drewN | apply Kd.R_drew)); exact HO935.out))) (Kd.R_lt (by (with_reducible repeat (first | apply Kd.R_alloc | apply Kd.R_drewN | apply Kd.R_drew)); exact HO939.out))) (g := gb913) (o := .cells #[.string a1_0, .string a1_1, .int .i64 a1_2, .int .i64 a1_3] 57 (0, 0)) (by (with_reducible repeat (first | refine blk_drewN ?_ _ | refine blk_drew ?_ | refine blk_alloc ?_ _)); exact BK913.out)) (g := gb914) (o := .cells #[.string a2_0, .string a2_1, .int .i64 a2_2, .int .i64 a2_3] 57 (0, 0)) (by (with_reducible repeat (first | refine blk_drewN ?_ _ | refine blk_drew ?_ | refine blk_alloc ?_ _)); exact BK914.out)) (below_size (by repeat (first | (with_reducible first | exact HB.out | apply below_alloc | apply pw_below_drewN | apply below_drew1 | refine below_set ?_ GE913.out | refine below_set ?_ GE914.out) | exact HB.out))))
    have n4_ := Aside0.mk (blk_below (g := gb913) (o := .cells #[.string a1_0, .string a1_1, .int .i64 a1_2, .int .i64 a1_3] 57 (0, 0)) (by (with_reducible repeat (first | refine blk_drewN ?_ _ | refine blk_drew ?_ | refine blk_alloc ?_ _)); exact BK913.out) hb)
    have n5_ := Aside0.mk (blk_below (g := gb914) (o := .cells #[.string a2_0, .string a2_1, .int .i64 a2_2, .int .i64 a2_3] 57 (0, 0)) (by (with_reducible repeat (first | refine blk_drewN ?_ _ | refine blk_drew ?_ | refine blk_alloc ?_ _)); exact BK914.out) hb)
    have n6_ := Aside0.mk (below_step (by repeat (first | (with_reducible first | exact HB.out | apply below_alloc | apply pw_below_drewN | apply below_drew1 | refine below_set ?_ GE913.out | refine below_set ?_ GE914.out) | exact HB.out)) hb)
    clear HO932
    clear HO935
    clear HO939
    clear BK913
    clear BK914
    clear HB
    have HO932 := n0_
    have HO935 := n1_
    have HO939 := n2_
    have HO942 := n3_
    have BK913 := n4_
    have BK914 := n5_
    have HB := n6_
    clear n0_ n1_ n2_ n3_ n4_ n5_ n6_
    (try clear hb)
    (try clear hb2)
    (try clear hk)
    (try clear hi)
    (try clear ho0)
    obtain ⟨Ao67, co67, eo67⟩ := Kd.R_slice HO942.out
    (first | subst eo67 | (injection eo67 with f1_ f2_ f3_; have f4_ := f1_.symm; have f5_ := f3_.symm; clear f1_ f2_ f3_; subst f4_; subst f5_))
    refine hK.out _ _ ⟨(blk_cell BK914.out 0).trans rfl, (blk_cell BK914.out 1).trans rfl, (blk_cell BK914.out 2).trans rfl, (blk_cell BK914.out 3).trans rfl, (blk_cell BK913.out 0).trans rfl, (blk_cell BK913.out 1).trans rfl, (blk_cell BK913.out 2).trans rfl, (blk_cell BK913.out 3).trans rfl⟩ (fun hHeld => ?_)
    clear hK K
    refine norm_ (a' := ?_) ?_ ?_
    rotate_left
    ·show Act.put _ (some 64) _ = _
     simp only [Act.put, List.setIfInBounds_toArray, List.set_cons_zero, List.set_cons_succ, i64_w, i32_w]
     rfl
    refine one_ (i := 7) (N := some 66) #[true,true,true,true,true,true,true,true,false,false] rfl rfl (one_of HT_.out (by kernel_rfl)) (by decide) (fun K hK => ?_)
    refine goes_ Try.func49 (by kernel_rfl) rfl #[.slice Ao67 t940.length co67, .agg #[.string a1_0, .string a1_1, .int .i64 a1_2, .int .i64 a1_3]] (by rfl) rfl rfl (by (try simp only [List.map_toArray, List.map_cons, List.map_nil]); first | done | rfl | (simp only [List.length_drop, List.length_take]; rfl)) ?_
    with_reducible refine (pair_Add.calls _ _ t940 a1_0 a1_1 a1_2 a1_3 t943 _ ?side1 ?side2 A51.out).mono ?_
    (case side1 => repeat (first | exact (Kd.R_reads' HO942.out).2.2 | (with_reducible refine Kd.C_alloc ?_ _) | (with_reducible refine Kd.C_drewN ?_ _) | (with_reducible refine Kd.C_drew ?_)))
    (case side2 => exact (Kd.R_reads' HO942.out).2.1)
    rintro e w68 ⟨v944, rfl, ho0, hb⟩
    refine ⟨_, rfl, ?_⟩
    have n0_ := Aside0.mk (Kd.R_elder' (by (with_reducible repeat (first | apply Kd.R_alloc | apply Kd.R_drewN | apply Kd.R_drew)); exact HO932.out) (Kd.R_base ho0) hb)
    have n1_ := Aside0.mk (Kd.R_elder' (by (with_reducible repeat (first | apply Kd.R_alloc | apply Kd.R_drewN | apply Kd.R_drew)); exact HO935.out) (Kd.R_base ho0) hb)
    have n2_ := Aside0.mk (Kd.R_elder' (by (with_reducible repeat (first | apply Kd.R_alloc | apply Kd.R_drewN | apply Kd.R_drew)); exact HO939.out) (Kd.R_base ho0) hb)
    have n3_ := Aside0.mk (Kd.R_elder' (by (with_reducible repeat (first | apply Kd.R_alloc | apply Kd.R_drewN | apply Kd.R_drew)); exact HO942.out) (Kd.R_base ho0) hb)
    have n4_ := Aside0.mk (Kd.R_lower (Kd.R_newB (Kd.R_newB (Kd.R_new' (Kd.R_new' (Kd.R_new' (Kd.R_new' ho0 (Kd.R_lt (by (with_reducible repeat (first | apply Kd.R_alloc | apply Kd.R_drewN | apply Kd.R_drew)); exact HO932.out))) (Kd.R_lt (by (with_reducible repeat (first | apply Kd.R_alloc | apply Kd.R_drewN | apply Kd.R_drew)); exact HO935.out))) (Kd.R_lt (by (with_reducible repeat (first | apply Kd.R_alloc | apply Kd.R_drewN | apply Kd.R_drew)); exact HO939.out))) (Kd.R_lt (by (with_reducible repeat (first | apply Kd.R_alloc | apply Kd.R_drewN | apply Kd.R_drew)); exact HO942.out))) (g := gb913) (o := .cells #[.string a1_0, .string a1_1, .int .i64 a1_2, .int .i64 a1_3] 57 (0, 0)) (by (with_reducible repeat (first | refine blk_drewN ?_ _ | refine blk_drew ?_ | refine blk_alloc ?_ _)); exact BK913.out)) (g := gb914) (o := .cells #[.string a2_0, .string a2_1, .int .i64 a2_2, .int .i64 a2_3] 57 (0, 0)) (by (with_reducible repeat (first | refine blk_drewN ?_ _ | refine blk_drew ?_ | refine blk_alloc ?_ _)); exact BK914.out)) (below_size (by repeat (first | (with_reducible first | exact HB.out | apply below_alloc | apply pw_below_drewN | apply below_drew1 | refine below_set ?_ GE913.out | refine below_set ?_ GE914.out) | exact HB.out))))
    have n5_ := Aside0.mk (blk_below (g := gb913) (o := .cells #[.string a1_0, .string a1_1, .int .i64 a1_2, .int .i64 a1_3] 57 (0, 0)) (by (with_reducible repeat (first | refine blk_drewN ?_ _ | refine blk_drew ?_ | refine blk_alloc ?_ _)); exact BK913.out) hb)
    have n6_ := Aside0.mk (blk_below (g := gb914) (o := .cells #[.string a2_0, .string a2_1, .int .i64 a2_2, .int .i64 a2_3] 57 (0, 0)) (by (with_reducible repeat (first | refine blk_drewN ?_ _ | refine blk_drew ?_ | refine blk_alloc ?_ _)); exact BK914.out) hb)
    have n7_ := Aside0.mk (below_step (by repeat (first | (with_reducible first | exact HB.out | apply below_alloc | apply pw_below_drewN | apply below_drew1 | refine below_set ?_ GE913.out | refine below_set ?_ GE914.out) | exact HB.out)) hb)
    clear HO932
    clear HO935
    clear HO939
    clear HO942
    clear BK913
    clear BK914
    clear HB
    have HO932 := n0_
    have HO935 := n1_
    have HO939 := n2_
    have HO942 := n3_
    have HO945 := n4_
    have BK913 := n5_
    have BK914 := n6_
    have HB := n7_
    clear n0_ n1_ n2_ n3_ n4_ n5_ n6_ n7_
    (try clear hb)
    (try clear hb2)
    (try clear hk)
    (try clear hi)
    (try clear ho0)
    obtain ⟨Ao69, co69, eo69⟩ := Kd.R_slice HO939.out
    (first | subst eo69 | (injection eo69 with f1_ f2_ f3_; have f4_ := f1_.symm; have f5_ := f3_.symm; clear f1_ f2_ f3_; subst f4_; subst f5_))
    obtain ⟨Ao70, co70, eo70⟩ := Kd.R_slice HO945.out
    (first | subst eo70 | (injection eo70 with f1_ f2_ f3_; have f4_ := f1_.symm; have f5_ := f3_.symm; clear f1_ f2_ f3_; subst f4_; subst f5_))
    refine hK.out _ _ ⟨(blk_cell BK914.out 0).trans rfl, (blk_cell BK914.out 1).trans rfl, (blk_cell BK914.out 2).trans rfl, (blk_cell BK914.out 3).trans rfl, (blk_cell BK913.out 0).trans rfl, (blk_cell BK913.out 1).trans rfl, (blk_cell BK913.out 2).trans rfl, (blk_cell BK913.out 3).trans rfl⟩ (fun hHeld => ?_)
    clear hK K
    refine norm_ (a' := ?_) ?_ ?_
    rotate_left
    ·show Act.put _ (some 66) _ = _
     simp only [Act.put, List.setIfInBounds_toArray, List.set_cons_zero, List.set_cons_succ, i64_w, i32_w]
     rfl
    refine one_ (i := 8) (N := some 67) #[true,true,true,true,true,true,true,true,true,false] rfl rfl (one_of HT_.out (by kernel_rfl)) (by decide) (fun K hK => ?_)
    refine goes_ Try.func48 (by kernel_rfl) rfl #[.slice Ao69 t937.length co69, .slice Ao70 t943.length co70] (by rfl) rfl rfl (by (try simp only [List.map_toArray, List.map_cons, List.map_nil]); first | done | rfl | (simp only [List.length_drop, List.length_take]; rfl)) ?_
    with_reducible refine (ref08_Same.calls kj6 _ _ t937 _ _ t943 t946 _ ?side1 ?side2 ?side3 ?side4 A52.out).mono ?_
    (case side1 => repeat (first | exact (Kd.R_reads' HO939.out).2.2 | (with_reducible refine Kd.C_alloc ?_ _) | (with_reducible refine Kd.C_drewN ?_ _) | (with_reducible refine Kd.C_drew ?_)))
    (case side2 => exact (Kd.R_reads' HO939.out).2.1)
    (case side3 => repeat (first | exact (Kd.R_reads' HO945.out).2.2 | (with_reducible refine Kd.C_alloc ?_ _) | (with_reducible refine Kd.C_drewN ?_ _) | (with_reducible refine Kd.C_drew ?_)))
    (case side4 => exact (Kd.R_reads' HO945.out).2.1)
    rintro e w' ⟨rfl, ⟨nd, rfl⟩⟩
    refine ⟨_, rfl, ?_⟩
    refine hK.out _ _ ⟨(blk_cell BK914.out 0).trans rfl, (blk_cell BK914.out 1).trans rfl, (blk_cell BK914.out 2).trans rfl, (blk_cell BK914.out 3).trans rfl, (blk_cell BK913.out 0).trans rfl, (blk_cell BK913.out 1).trans rfl, (blk_cell BK913.out 2).trans rfl, (blk_cell BK913.out 3).trans rfl⟩ (fun hHeld => ?_)
    clear hK K
    refine norm_ (a' := ?_) ?_ ?_
    rotate_left
    ·show Act.put _ (some 67) _ = _
     simp only [Act.put, List.setIfInBounds_toArray, List.set_cons_zero, List.set_cons_succ, i64_w, i32_w]
     rfl
    refine pure_ (i := 9) (N := some 12) (v := ?_) (a' := ?_) #[true,true,true,true,true,true,true,true,true,true] rfl rfl (any_of HT_.out (by kernel_rfl)) (fun _ _ _ h => h) (Or.inl ⟨by rfl, ?_⟩) ?_ ?_
    rotate_left
    ·intro w'
     go_simp
     with_reducible rfl
    rotate_left
    ·simp only [Act.put, List.setIfInBounds_toArray, List.set_cons_zero, List.set_cons_succ, i64_w, i32_w]
     rfl
    refine done_ (done_of HT_.out (by kernel_rfl)) ?_
    have hcz71_0 : w68.cell? ⟨gb913, 0, none⟩ = some (.string a1_0) := (blk_cell BK913.out 0).trans rfl
    have hcz71_1 : w68.cell? ⟨gb913, 1, none⟩ = some (.string a1_1) := (blk_cell BK913.out 1).trans rfl
    have hcz71_2 : w68.cell? ⟨gb913, 2, none⟩ = some (.int .i64 a1_2) := (blk_cell BK913.out 2).trans rfl
    have hcz71_3 : w68.cell? ⟨gb913, 3, none⟩ = some (.int .i64 a1_3) := (blk_cell BK913.out 3).trans rfl
    have hfz71_0 := blk_frozen BK913.out 0
    have hfz71_1 := blk_frozen BK913.out 1
    have hfz71_2 := blk_frozen BK913.out 2
    have hfz71_3 := blk_frozen BK913.out 3
    go_upto_region 11 with (first | ((with_reducible refine gate_callee (f := 51) rfl ?_); refine goesL_ (some 73) rfl rfl Try.func51 (by kernel_rfl) rfl #[.slice A0 l0.length c0, .string a1_0, .string a1_1] rfl (by (try simp only [List.map_toArray, List.map_cons, List.map_nil]); first | done | rfl | (simp only [List.length_drop, List.length_take]; rfl)) ?_; (with_reducible refine (pair_Del.calls _ _ l0 a1_0 a1_1 t947 _ ?side1 ?side2 A53.out).mono ?_); (case side1 => repeat (first | exact (Kd.C_below HR0.out (by repeat (first | (with_reducible first | exact HB.out | apply below_alloc | apply pw_below_drewN | apply below_drew1 | refine below_set ?_ GE913.out | refine below_set ?_ GE914.out) | exact HB.out))) | (with_reducible refine Kd.C_alloc ?_ _) | (with_reducible refine Kd.C_drewN ?_ _) | (with_reducible refine Kd.C_drew ?_))); (case side2 => exact HC0.out); rintro e w72 ⟨v948, rfl, ho0, hb⟩; refine ⟨_, rfl, ?_⟩; have n0_ := Aside0.mk (Kd.R_elder' (by (with_reducible repeat (first | apply Kd.R_alloc | apply Kd.R_drewN | apply Kd.R_drew)); exact HO932.out) (Kd.R_base ho0) hb); have n1_ := Aside0.mk (Kd.R_elder' (by (with_reducible repeat (first | apply Kd.R_alloc | apply Kd.R_drewN | apply Kd.R_drew)); exact HO935.out) (Kd.R_base ho0) hb); have n2_ := Aside0.mk (Kd.R_elder' (by (with_reducible repeat (first | apply Kd.R_alloc | apply Kd.R_drewN | apply Kd.R_drew)); exact HO939.out) (Kd.R_base ho0) hb); have n3_ := Aside0.mk (Kd.R_elder' (by (with_reducible repeat (first | apply Kd.R_alloc | apply Kd.R_drewN | apply Kd.R_drew)); exact HO942.out) (Kd.R_base ho0) hb); have n4_ := Aside0.mk (Kd.R_elder' (by (with_reducible repeat (first | apply Kd.R_alloc | apply Kd.R_drewN | apply Kd.R_drew)); exact HO945.out) (Kd.R_base ho0) hb); have n5_ := Aside0.mk (Kd.R_lower (Kd.R_newB (Kd.R_newB (Kd.R_new' (Kd.R_new' (Kd.R_new' (Kd.R_new' (Kd.R_new' ho0 (Kd.R_lt (by (with_reducible repeat (first | apply Kd.R_alloc | apply Kd.R_drewN | apply Kd.R_drew)); exact HO932.out))) (Kd.R_lt (by (with_reducible repeat (first | apply Kd.R_alloc | apply Kd.R_drewN | apply Kd.R_drew)); exact HO935.out))) (Kd.R_lt (by (with_reducible repeat (first | apply Kd.R_alloc | apply Kd.R_drewN | apply Kd.R_drew)); exact HO939.out))) (Kd.R_lt (by (with_reducible repeat (first | apply Kd.R_alloc | apply Kd.R_drewN | apply Kd.R_drew)); exact HO942.out))) (Kd.R_lt (by (with_reducible repeat (first | apply Kd.R_alloc | apply Kd.R_drewN | apply Kd.R_drew)); exact HO945.out))) (g := gb913) (o := .cells #[.string a1_0, .string a1_1, .int .i64 a1_2, .int .i64 a1_3] 57 (0, 0)) (by (with_reducible repeat (first | refine blk_drewN ?_ _ | refine blk_drew ?_ | refine blk_alloc ?_ _)); exact BK913.out)) (g := gb914) (o := .cells #[.string a2_0, .string a2_1, .int .i64 a2_2, .int .i64 a2_3] 57 (0, 0)) (by (with_reducible repeat (first | refine blk_drewN ?_ _ | refine blk_drew ?_ | refine blk_alloc ?_ _)); exact BK914.out)) (below_size (by repeat (first | (with_reducible first | exact HB.out | apply below_alloc | apply pw_below_drewN | apply below_drew1 | refine below_set ?_ GE913.out | refine below_set ?_ GE914.out) | exact HB.out)))); have n6_ := Aside0.mk (blk_below (g := gb913) (o := .cells #[.string a1_0, .string a1_1, .int .i64 a1_2, .int .i64 a1_3] 57 (0, 0)) (by (with_reducible repeat (first | refine blk_drewN ?_ _ | refine blk_drew ?_ | refine blk_alloc ?_ _)); exact BK913.out) hb); have n7_ := Aside0.mk (blk_below (g := gb914) (o := .cells #[.string a2_0, .string a2_1, .int .i64 a2_2, .int .i64 a2_3] 57 (0, 0)) (by (with_reducible repeat (first | refine blk_drewN ?_ _ | refine blk_drew ?_ | refine blk_alloc ?_ _)); exact BK914.out) hb); have n8_ := Aside0.mk (below_step (by repeat (first | (with_reducible first | exact HB.out | apply below_alloc | apply pw_below_drewN | apply below_drew1 | refine below_set ?_ GE913.out | refine below_set ?_ GE914.out) | exact HB.out)) hb); clear HO932; clear HO935; clear HO939; clear HO942; clear HO945; clear BK913; clear BK914; clear HB; have HO932 := n0_; have HO935 := n1_; have HO939 := n2_; have HO942 := n3_; have HO945 := n4_; have HO949 := n5_; have BK913 := n6_; have BK914 := n7_; have HB := n8_; clear n0_ n1_ n2_ n3_ n4_ n5_ n6_ n7_ n8_; (try clear hb); (try clear hb2); (try clear hk); (try clear hi); (try clear ho0); have hcz73_0 : w72.cell? ⟨gb913, 0, none⟩ = some (.string a1_0) := (blk_cell BK913.out 0).trans rfl; have hcz73_1 : w72.cell? ⟨gb913, 1, none⟩ = some (.string a1_1) := (blk_cell BK913.out 1).trans rfl; have hcz73_2 : w72.cell? ⟨gb913, 2, none⟩ = some (.int .i64 a1_2) := (blk_cell BK913.out 2).trans rfl; have hcz73_3 : w72.cell? ⟨gb913, 3, none⟩ = some (.int .i64 a1_3) := (blk_cell BK913.out 3).trans rfl; have hfz73_0 := blk_frozen BK913.out 0; have hfz73_1 := blk_frozen BK913.out 1; have hfz73_2 := blk_frozen BK913.out 2; have hfz73_3 := blk_frozen BK913.out 3; obtain ⟨Ao74, co74, eo74⟩ := Kd.R_slice HO949.out; subst eo74) | ((with_reducible refine gate_callee (f := 51) rfl ?_); refine goesL_ (some 79) rfl rfl Try.func51 (by kernel_rfl) rfl #[.slice Ao74 t947.length co74, .string a1_0, .string a1_1] rfl (by (try simp only [List.map_toArray, List.map_cons, List.map_nil]); first | done | rfl | (simp only [List.length_drop, List.length_take]; rfl)) ?_; (with_reducible refine (pair_Del.calls _ _ t947 a1_0 a1_1 t950 _ ?side1 ?side2 A54.out).mono ?_); (case side1 => repeat (first | exact (Kd.R_reads' HO949.out).2.2 | (with_reducible refine Kd.C_alloc ?_ _) | (with_reducible refine Kd.C_drewN ?_ _) | (with_reducible refine Kd.C_drew ?_))); (case side2 => exact (Kd.R_reads' HO949.out).2.1); rintro e w75 ⟨v951, rfl, ho0, hb⟩; refine ⟨_, rfl, ?_⟩; have n0_ := Aside0.mk (Kd.R_elder' (by (with_reducible repeat (first | apply Kd.R_alloc | apply Kd.R_drewN | apply Kd.R_drew)); exact HO932.out) (Kd.R_base ho0) hb); have n1_ := Aside0.mk (Kd.R_elder' (by (with_reducible repeat (first | apply Kd.R_alloc | apply Kd.R_drewN | apply Kd.R_drew)); exact HO935.out) (Kd.R_base ho0) hb); have n2_ := Aside0.mk (Kd.R_elder' (by (with_reducible repeat (first | apply Kd.R_alloc | apply Kd.R_drewN | apply Kd.R_drew)); exact HO939.out) (Kd.R_base ho0) hb); have n3_ := Aside0.mk (Kd.R_elder' (by (with_reducible repeat (first | apply Kd.R_alloc | apply Kd.R_drewN | apply Kd.R_drew)); exact HO942.out) (Kd.R_base ho0) hb); have n4_ := Aside0.mk (Kd.R_elder' (by (with_reducible repeat (first | apply Kd.R_alloc | apply Kd.R_drewN | apply Kd.R_drew)); exact HO945.out) (Kd.R_base ho0) hb); have n5_ := Aside0.mk (Kd.R_elder' (by (with_reducible repeat (first | apply Kd.R_alloc | apply Kd.R_drewN | apply Kd.R_drew)); exact HO949.out) (Kd.R_base ho0) hb); have n6_ := Aside0.mk (Kd.R_lower (Kd.R_newB (Kd.R_newB (Kd.R_new' (Kd.R_new' (Kd.R_new' (Kd.R_new' (Kd.R_new' (Kd.R_new' ho0 (Kd.R_lt (by (with_reducible repeat (first | apply Kd.R_alloc | apply Kd.R_drewN | apply Kd.R_drew)); exact HO932.out))) (Kd.R_lt (by (with_reducible repeat (first | apply Kd.R_alloc | apply Kd.R_drewN | apply Kd.R_drew)); exact HO935.out))) (Kd.R_lt (by (with_reducible repeat (first | apply Kd.R_alloc | apply Kd.R_drewN | apply Kd.R_drew)); exact HO939.out))) (Kd.R_lt (by (with_reducible repeat (first | apply Kd.R_alloc | apply Kd.R_drewN | apply Kd.R_drew)); exact HO942.out))) (Kd.R_lt (by (with_reducible repeat (first | apply Kd.R_alloc | apply Kd.R_drewN | apply Kd.R_drew)); exact HO945.out))) (Kd.R_lt (by (with_reducible repeat (first | apply Kd.R_alloc | apply Kd.R_drewN | apply Kd.R_drew)); exact HO949.out))) (g := gb913) (o := .cells #[.string a1_0, .string a1_1, .int .i64 a1_2, .int .i64 a1_3] 57 (0, 0)) (by (with_reducible repeat (first | refine blk_drewN ?_ _ | refine blk_drew ?_ | refine blk_alloc ?_ _)); exact BK913.out)) (g := gb914) (o := .cells #[.string a2_0, .string a2_1, .int .i64 a2_2, .int .i64 a2_3] 57 (0, 0)) (by (with_reducible repeat (first | refine blk_drewN ?_ _ | refine blk_drew ?_ | refine blk_alloc ?_ _)); exact BK914.out)) (below_size (by repeat (first | (with_reducible first | exact HB.out | apply below_alloc | apply pw_below_drewN | apply below_drew1 | refine below_set ?_ GE913.out | refine below_set ?_ GE914.out) | exact HB.out)))); have n7_ := Aside0.mk (blk_below (g := gb913) (o := .cells #[.string a1_0, .string a1_1, .int .i64 a1_2, .int .i64 a1_3] 57 (0, 0)) (by (with_reducible repeat (first | refine blk_drewN ?_ _ | refine blk_drew ?_ | refine blk_alloc ?_ _)); exact BK913.out) hb); have n8_ := Aside0.mk (blk_below (g := gb914) (o := .cells #[.string a2_0, .string a2_1, .int .i64 a2_2, .int .i64 a2_3] 57 (0, 0)) (by (with_reducible repeat (first | refine blk_drewN ?_ _ | refine blk_drew ?_ | refine blk_alloc ?_ _)); exact BK914.out) hb); have n9_ := Aside0.mk (below_step (by repeat (first | (with_reducible first | exact HB.out | apply below_alloc | apply pw_below_drewN | apply below_drew1 | refine below_set ?_ GE913.out | refine below_set ?_ GE914.out) | exact HB.out)) hb); clear HO932; clear HO935; clear HO939; clear HO942; clear HO945; clear HO949; clear BK913; clear BK914; clear HB; have HO932 := n0_; have HO935 := n1_; have HO939 := n2_; have HO942 := n3_; have HO945 := n4_; have HO949 := n5_; have HO952 := n6_; have BK913 := n7_; have BK914 := n8_; have HB := n9_; clear n0_ n1_ n2_ n3_ n4_ n5_ n6_ n7_ n8_ n9_; (try clear hb); (try clear hb2); (try clear hk); (try clear hi); (try clear ho0); obtain ⟨Ao76, co76, eo76⟩ := Kd.R_slice HO952.out; subst eo76) | ((with_reducible refine gate_callee (f := 48) rfl ?_); refine goesL_ (some 81) rfl rfl Try.func48 (by kernel_rfl) rfl #[.slice Ao76 t950.length co76, .slice Ao74 t947.length co74] rfl (by (try simp only [List.map_toArray, List.map_cons, List.map_nil]); first | done | rfl | (simp only [List.length_drop, List.length_take]; rfl)) ?_; (with_reducible refine (ref08_Same.calls kj6 _ _ t950 _ _ t947 t953 _ ?side1 ?side2 ?side3 ?side4 A55.out).mono ?_); (case side1 => repeat (first | exact (Kd.R_reads' HO952.out).2.2 | (with_reducible refine Kd.C_alloc ?_ _) | (with_reducible refine Kd.C_drewN ?_ _) | (with_reducible refine Kd.C_drew ?_))); (case side2 => exact (Kd.R_reads' HO952.out).2.1); (case side3 => repeat (first | exact (Kd.R_reads' HO949.out).2.2 | (with_reducible refine Kd.C_alloc ?_ _) | (with_reducible refine Kd.C_drewN ?_ _) | (with_reducible refine Kd.C_drew ?_))); (case side4 => exact (Kd.R_reads' HO949.out).2.1); rintro e w' ⟨rfl, ⟨nd, rfl⟩⟩; refine ⟨_, rfl, ?_⟩))
    (try simp only [Act.put, List.setIfInBounds_toArray, List.set_cons_zero, List.set_cons_succ])
    go_cut [91] (fun v91 wc => ∃ (kq : Nat) (x91_55 : Bool), v91 = .bool x91_55 ∧ Aside0 (law08_PairOrder.j1 kq l0 x91_55 a1_0 a1_1 a1_2 a1_3 a2_0 a2_1 a2_2 a2_3 = some r) ∧ Aside0 (kq ≤ kj6) ∧ Aside0 (wc.heap[gb913]? = some (.cells #[.string a1_0, .string a1_1, .int .i64 a1_2, .int .i64 a1_3] 57 (0, 0))) ∧ Aside0 (wc.heap[gb914]? = some (.cells #[.string a2_0, .string a2_1, .int .i64 a2_2, .int .i64 a2_3] 57 (0, 0))) ∧ Aside0 (Below w.heap.size w wc))
    case first =>
     have H := HC56.out
     clear HC56
     by_cases c77 : t936 = true
     ·subst c77
      have H1 : (if t946 = true then (law08_PairOrder.j1 kj6 l0 (!t953) a1_0 a1_1 a1_2 a1_3 a2_0 a2_1 a2_2 a2_3) else (law08_PairOrder.j1 kj6 l0 true a1_0 a1_1 a1_2 a1_3 a2_0 a2_1 a2_2 a2_3)) = some r := by rw [if_pos rfl] at H; exact H
      clear H
      have H := H1
      clear H1
      by_cases c78 : t946 = true
      ·subst c78
       have H1 : (law08_PairOrder.j1 kj6 l0 (!t953) a1_0 a1_1 a1_2 a1_3 a2_0 a2_1 a2_2 a2_3) = some r := by rw [if_pos rfl] at H; exact H
       clear H
       have H := H1
       clear H1
       have H' := Aside0.mk H
       clear H
       go_wp2
       go_meet
       case rel => exact ⟨_, (!t953), (by first | rfl | (simp; done) | (simp [*]; done)), H', ⟨by have := HJ6.out; first | omega | exact Nat.le_refl _⟩, ⟨by (with_reducible repeat (first | refine blk_drewN ?_ _ | refine blk_drew ?_ | refine blk_alloc ?_ _)); exact BK913.out⟩, ⟨by (with_reducible repeat (first | refine blk_drewN ?_ _ | refine blk_drew ?_ | refine blk_alloc ?_ _)); exact BK914.out⟩, ⟨by repeat (first | (with_reducible first | exact HB.out | apply below_alloc | apply pw_below_drewN | apply below_drew1 | refine below_set ?_ GE913.out | refine below_set ?_ GE914.out) | exact HB.out)⟩⟩
      ·replace c78 := Bool.eq_false_iff.mpr c78
       subst c78
       have H1 : (law08_PairOrder.j1 kj6 l0 true a1_0 a1_1 a1_2 a1_3 a2_0 a2_1 a2_2 a2_3) = some r := by rw [if_neg (show ¬ (false = true) by decide)] at H; exact H
       clear H
       have H := H1
       clear H1
       have H' := Aside0.mk H
       clear H
       go_wp2
       go_meet
       case rel => exact ⟨_, (true), (by first | rfl | (simp; done) | (simp [*]; done)), H', ⟨by have := HJ6.out; first | omega | exact Nat.le_refl _⟩, ⟨by (with_reducible repeat (first | refine blk_drewN ?_ _ | refine blk_drew ?_ | refine blk_alloc ?_ _)); exact BK913.out⟩, ⟨by (with_reducible repeat (first | refine blk_drewN ?_ _ | refine blk_drew ?_ | refine blk_alloc ?_ _)); exact BK914.out⟩, ⟨by repeat (first | (with_reducible first | exact HB.out | apply below_alloc | apply pw_below_drewN | apply below_drew1 | refine below_set ?_ GE913.out | refine below_set ?_ GE914.out) | exact HB.out)⟩⟩
     ·replace c77 := Bool.eq_false_iff.mpr c77
      subst c77
      have H1 : (law08_PairOrder.j1 kj6 l0 true a1_0 a1_1 a1_2 a1_3 a2_0 a2_1 a2_2 a2_3) = some r := by rw [if_neg (show ¬ (false = true) by decide)] at H; exact H
      clear H
      have H := H1
      clear H1
      have H' := Aside0.mk H
      clear H
      go_wp2
      go_meet
      case rel => exact ⟨_, (true), (by first | rfl | (simp; done) | (simp [*]; done)), H', ⟨by have := HJ6.out; first | omega | exact Nat.le_refl _⟩, ⟨by (with_reducible repeat (first | refine blk_drewN ?_ _ | refine blk_drew ?_ | refine blk_alloc ?_ _)); exact BK913.out⟩, ⟨by (with_reducible repeat (first | refine blk_drewN ?_ _ | refine blk_drew ?_ | refine blk_alloc ?_ _)); exact BK914.out⟩, ⟨by repeat (first | (with_reducible first | exact HB.out | apply below_alloc | apply pw_below_drewN | apply below_drew1 | refine below_set ?_ GE913.out | refine below_set ?_ GE914.out) | exact HB.out)⟩⟩
    case rest =>
     clear HC56
     try clear c1
     try clear c2
     try clear p2
     try clear c3
     try clear c4
     try clear c5
     try clear c7
     try clear c11
     try clear c17
     try clear c18
     try clear c19
     try clear c21
     try clear c23
     try clear c26
     try clear c38
     try clear c45
     try clear c46
     try clear c48
     try clear c49
     try clear c51
     try clear c57
     try clear c77
     try clear c78
     try clear hcz12_0
     try clear hcz12_1
     try clear hcz12_2
     try clear hcz12_3
     try clear hcz13_0
     try clear hcz13_1
     try clear hcz13_2
     try clear hcz13_3
     try clear hcz27_0
     try clear hcz27_1
     try clear hcz27_2
     try clear hcz27_3
     try clear hcz32_0
     try clear hcz32_1
     try clear hcz32_2
     try clear hcz32_3
     try clear hcz39_0
     try clear hcz39_1
     try clear hcz39_2
     try clear hcz39_3
     try clear hcz58_0
     try clear hcz58_1
     try clear hcz58_2
     try clear hcz58_3
     try clear hcz60_0
     try clear hcz60_1
     try clear hcz60_2
     try clear hcz60_3
     try clear hcz71_0
     try clear hcz71_1
     try clear hcz71_2
     try clear hcz71_3
     try clear hcz73_0
     try clear hcz73_1
     try clear hcz73_2
     try clear hcz73_3
     try clear hfz12_0
     try clear hfz12_1
     try clear hfz12_2
     try clear hfz12_3
     try clear hfz13_0
     try clear hfz13_1
     try clear hfz13_2
     try clear hfz13_3
     try clear hfz27_0
     try clear hfz27_1
     try clear hfz27_2
     try clear hfz27_3
     try clear hfz32_0
     try clear hfz32_1
     try clear hfz32_2
     try clear hfz32_3
     try clear hfz39_0
     try clear hfz39_1
     try clear hfz39_2
     try clear hfz39_3
     try clear hfz58_0
     try clear hfz58_1
     try clear hfz58_2
     try clear hfz58_3
     try clear hfz60_0
     try clear hfz60_1
     try clear hfz60_2
     try clear hfz60_3
     try clear hfz71_0
     try clear hfz71_1
     try clear hfz71_2
     try clear hfz71_3
     try clear hfz73_0
     try clear hfz73_1
     try clear hfz73_2
     try clear hfz73_3
     try clear p2
     obtain ⟨kq, x91_55, rfl, HA, HJ55, BK913, BK914, HB⟩ := hcut
     cases kq with
     | zero => exact absurd HA.out (by simp [law08_PairOrder.j1])
     | succ kj55 =>
      have H := HA.out
      clear HA
      simp only [law08_PairOrder.j1] at H
      by_cases c79 : x91_55 = true
      ·subst c79
       have H1 : (some false) = some r := by rw [if_pos rfl] at H; exact H
       clear H
       have H := H1
       clear H1
       obtain rfl := Option.some.inj H
       go_wp2
       go_ret
       exact ⟨by first | rfl | (simp [errW_none, errW_some] <;> rfl) | (simp [*, errW_none, errW_some] <;> rfl), by repeat (first | (with_reducible first | exact HB.out | apply below_alloc | apply pw_below_drewN | apply below_drew1 | refine below_set ?_ GE913.out | refine below_set ?_ GE914.out) | exact HB.out)⟩
      ·replace c79 := Bool.eq_false_iff.mpr c79
       subst c79
       have H1 : (if a1_0.toList = a2_0.toList then (law08_PairOrder.j2 kj55 l0 (a1_1.toList == a2_1.toList) a1_0 a1_1 a1_2 a1_3 a2_0 a2_1 a2_2 a2_3) else (law08_PairOrder.j2 kj55 l0 false a1_0 a1_1 a1_2 a1_3 a2_0 a2_1 a2_2 a2_3)) = some r := by rw [if_neg (show ¬ (false = true) by decide)] at H; exact H
       clear H
       have H := H1
       clear H1
       have HC80 := Aside0.mk H
       clear H
       go_upto_region 13 with (fail)
       go_cut [103] (fun v103 wc => ∃ (kq : Nat) (x103_79 : Bool), v103 = .bool x103_79 ∧ Aside0 (law08_PairOrder.j2 kq l0 x103_79 a1_0 a1_1 a1_2 a1_3 a2_0 a2_1 a2_2 a2_3 = some r) ∧ Aside0 (kq ≤ kj55) ∧ Aside0 (wc.heap[gb913]? = some (.cells #[.string a1_0, .string a1_1, .int .i64 a1_2, .int .i64 a1_3] 57 (0, 0))) ∧ Aside0 (wc.heap[gb914]? = some (.cells #[.string a2_0, .string a2_1, .int .i64 a2_2, .int .i64 a2_3] 57 (0, 0))) ∧ Aside0 (Below w.heap.size w wc))
       case first =>
        have H := HC80.out
        clear HC80
        by_cases c81 : a1_0.toList = a2_0.toList
        ·rw [if_pos c81] at H
         have c81b0 : (a1_0.toList == a2_0.toList) = true := beq_iff_eq.mpr c81
         have c81b1 : (a1_0.toList != a2_0.toList) = false := bne_eq_false_iff_eq.mpr c81
         clear c81
         (first | rw [c81b0] | (simp only [i64_w, i32_w]; rw [c81b0]) | skip)
         have H' := Aside0.mk H
         clear H
         have hnb82 := NB913_914.out
         have hnc82 := NB914_913.out
         have hcz83_0 : wc.cell? ⟨gb913, 0, none⟩ = some (.string a1_0) := (blk_cell BK913.out 0).trans rfl
         have hcz83_1 : wc.cell? ⟨gb913, 1, none⟩ = some (.string a1_1) := (blk_cell BK913.out 1).trans rfl
         have hcz83_2 : wc.cell? ⟨gb913, 2, none⟩ = some (.int .i64 a1_2) := (blk_cell BK913.out 2).trans rfl
         have hcz83_3 : wc.cell? ⟨gb913, 3, none⟩ = some (.int .i64 a1_3) := (blk_cell BK913.out 3).trans rfl
         have hfz83_0 := blk_frozen BK913.out 0
         have hfz83_1 := blk_frozen BK913.out 1
         have hfz83_2 := blk_frozen BK913.out 2
         have hfz83_3 := blk_frozen BK913.out 3
         have hcz84_0 : wc.cell? ⟨gb914, 0, none⟩ = some (.string a2_0) := (blk_cell BK914.out 0).trans rfl
         have hcz84_1 : wc.cell? ⟨gb914, 1, none⟩ = some (.string a2_1) := (blk_cell BK914.out 1).trans rfl
         have hcz84_2 : wc.cell? ⟨gb914, 2, none⟩ = some (.int .i64 a2_2) := (blk_cell BK914.out 2).trans rfl
         have hcz84_3 : wc.cell? ⟨gb914, 3, none⟩ = some (.int .i64 a2_3) := (blk_cell BK914.out 3).trans rfl
         have hfz84_0 := blk_frozen BK914.out 0
         have hfz84_1 := blk_frozen BK914.out 1
         have hfz84_2 := blk_frozen BK914.out 2
         have hfz84_3 := blk_frozen BK914.out 3
         go_wp2
         go_meet
         case rel => exact ⟨_, ((a1_1.toList == a2_1.toList)), (by first | rfl | (simp; done) | (simp [*]; done)), H', ⟨by have := HJ6.out; have := HJ55.out; first | omega | exact Nat.le_refl _⟩, ⟨by (with_reducible repeat (first | refine blk_drewN ?_ _ | refine blk_drew ?_ | refine blk_alloc ?_ _)); exact BK913.out⟩, ⟨by (with_reducible repeat (first | refine blk_drewN ?_ _ | refine blk_drew ?_ | refine blk_alloc ?_ _)); exact BK914.out⟩, ⟨by repeat (first | (with_reducible first | exact HB.out | apply below_alloc | apply pw_below_drewN | apply below_drew1 | refine below_set ?_ GE913.out | refine below_set ?_ GE914.out) | exact HB.out)⟩⟩
        ·rw [if_neg c81] at H
         have c81b0 : (a1_0.toList == a2_0.toList) = false := beq_eq_false_iff_ne.mpr c81
         have c81b1 : (a1_0.toList != a2_0.toList) = true := bne_iff_ne.mpr c81
         (first | rw [c81b0] | (simp only [i64_w, i32_w]; rw [c81b0]) | skip)
         have H' := Aside0.mk H
         clear H
         have hnb85 := NB913_914.out
         have hnc85 := NB914_913.out
         have hcz86_0 : wc.cell? ⟨gb913, 0, none⟩ = some (.string a1_0) := (blk_cell BK913.out 0).trans rfl
         have hcz86_1 : wc.cell? ⟨gb913, 1, none⟩ = some (.string a1_1) := (blk_cell BK913.out 1).trans rfl
         have hcz86_2 : wc.cell? ⟨gb913, 2, none⟩ = some (.int .i64 a1_2) := (blk_cell BK913.out 2).trans rfl
         have hcz86_3 : wc.cell? ⟨gb913, 3, none⟩ = some (.int .i64 a1_3) := (blk_cell BK913.out 3).trans rfl
         have hfz86_0 := blk_frozen BK913.out 0
         have hfz86_1 := blk_frozen BK913.out 1
         have hfz86_2 := blk_frozen BK913.out 2
         have hfz86_3 := blk_frozen BK913.out 3
         have hcz87_0 : wc.cell? ⟨gb914, 0, none⟩ = some (.string a2_0) := (blk_cell BK914.out 0).trans rfl
         have hcz87_1 : wc.cell? ⟨gb914, 1, none⟩ = some (.string a2_1) := (blk_cell BK914.out 1).trans rfl
         have hcz87_2 : wc.cell? ⟨gb914, 2, none⟩ = some (.int .i64 a2_2) := (blk_cell BK914.out 2).trans rfl
         have hcz87_3 : wc.cell? ⟨gb914, 3, none⟩ = some (.int .i64 a2_3) := (blk_cell BK914.out 3).trans rfl
         have hfz87_0 := blk_frozen BK914.out 0
         have hfz87_1 := blk_frozen BK914.out 1
         have hfz87_2 := blk_frozen BK914.out 2
         have hfz87_3 := blk_frozen BK914.out 3
         go_wp2
         go_meet
         case rel => exact ⟨_, (false), (by first | rfl | (simp; done) | (simp [*]; done)), H', ⟨by have := HJ6.out; have := HJ55.out; first | omega | exact Nat.le_refl _⟩, ⟨by (with_reducible repeat (first | refine blk_drewN ?_ _ | refine blk_drew ?_ | refine blk_alloc ?_ _)); exact BK913.out⟩, ⟨by (with_reducible repeat (first | refine blk_drewN ?_ _ | refine blk_drew ?_ | refine blk_alloc ?_ _)); exact BK914.out⟩, ⟨by repeat (first | (with_reducible first | exact HB.out | apply below_alloc | apply pw_below_drewN | apply below_drew1 | refine below_set ?_ GE913.out | refine below_set ?_ GE914.out) | exact HB.out)⟩⟩
       case rest =>
        clear HC80
        try clear c1
        try clear c2
        try clear p2
        try clear c3
        try clear c4
        try clear c5
        try clear c7
        try clear c8
        try clear c11
        try clear c17
        try clear c18
        try clear c19
        try clear c21
        try clear c23
        try clear c26
        try clear c38
        try clear c45
        try clear c46
        try clear c48
        try clear c49
        try clear c51
        try clear c57
        try clear c77
        try clear c78
        try clear c79
        try clear c81
        try clear c81b0
        try clear c81b1
        try clear c82
        try clear c85
        try clear hcz12_0
        try clear hcz12_1
        try clear hcz12_2
        try clear hcz12_3
        try clear hcz13_0
        try clear hcz13_1
        try clear hcz13_2
        try clear hcz13_3
        try clear hcz27_0
        try clear hcz27_1
        try clear hcz27_2
        try clear hcz27_3
        try clear hcz32_0
        try clear hcz32_1
        try clear hcz32_2
        try clear hcz32_3
        try clear hcz39_0
        try clear hcz39_1
        try clear hcz39_2
        try clear hcz39_3
        try clear hcz58_0
        try clear hcz58_1
        try clear hcz58_2
        try clear hcz58_3
        try clear hcz60_0
        try clear hcz60_1
        try clear hcz60_2
        try clear hcz60_3
        try clear hcz71_0
        try clear hcz71_1
        try clear hcz71_2
        try clear hcz71_3
        try clear hcz73_0
        try clear hcz73_1
        try clear hcz73_2
        try clear hcz73_3
        try clear hcz83_0
        try clear hcz83_1
        try clear hcz83_2
        try clear hcz83_3
        try clear hcz84_0
        try clear hcz84_1
        try clear hcz84_2
        try clear hcz84_3
        try clear hcz86_0
        try clear hcz86_1
        try clear hcz86_2
        try clear hcz86_3
        try clear hcz87_0
        try clear hcz87_1
        try clear hcz87_2
        try clear hcz87_3
        try clear hfz12_0
        try clear hfz12_1
        try clear hfz12_2
        try clear hfz12_3
        try clear hfz13_0
        try clear hfz13_1
        try clear hfz13_2
        try clear hfz13_3
        try clear hfz27_0
        try clear hfz27_1
        try clear hfz27_2
        try clear hfz27_3
        try clear hfz32_0
        try clear hfz32_1
        try clear hfz32_2
        try clear hfz32_3
        try clear hfz39_0
        try clear hfz39_1
        try clear hfz39_2
        try clear hfz39_3
        try clear hfz58_0
        try clear hfz58_1
        try clear hfz58_2
        try clear hfz58_3
        try clear hfz60_0
        try clear hfz60_1
        try clear hfz60_2
        try clear hfz60_3
        try clear hfz71_0
        try clear hfz71_1
        try clear hfz71_2
        try clear hfz71_3
        try clear hfz73_0
        try clear hfz73_1
        try clear hfz73_2
        try clear hfz73_3
        try clear hfz83_0
        try clear hfz83_1
        try clear hfz83_2
        try clear hfz83_3
        try clear hfz84_0
        try clear hfz84_1
        try clear hfz84_2
        try clear hfz84_3
        try clear hfz86_0
        try clear hfz86_1
        try clear hfz86_2
        try clear hfz86_3
        try clear hfz87_0
        try clear hfz87_1
        try clear hfz87_2
        try clear hfz87_3
        try clear p2
        obtain ⟨kq, x103_79, rfl, HA, HJ79, BK913, BK914, HB⟩ := hcut
        cases kq with
        | zero => exact absurd HA.out (by simp [law08_PairOrder.j2])
        | succ kj79 =>
         have H := HA.out
         clear HA
         simp only [law08_PairOrder.j2] at H
         by_cases c88 : x103_79 = true
         ·subst c88
          have H1 : (some true) = some r := by rw [if_pos rfl] at H; exact H
          clear H
          have H := H1
          clear H1
          obtain rfl := Option.some.inj H
          go_wp2
          go_ret
          exact ⟨by first | rfl | (simp [errW_none, errW_some] <;> rfl) | (simp [*, errW_none, errW_some] <;> rfl), by repeat (first | (with_reducible first | exact HB.out | apply below_alloc | apply pw_below_drewN | apply below_drew1 | refine below_set ?_ GE913.out | refine below_set ?_ GE914.out) | exact HB.out)⟩
         ·replace c88 := Bool.eq_false_iff.mpr c88
          subst c88
          have H1 : ((pair_Add.f l0 a1_0 a1_1 a1_2 a1_3).bind fun t954 => ((pair_Del.f t954 a2_0 a2_1).bind fun t957 => ((pair_Del.f l0 a2_0 a2_1).bind fun t960 => ((pair_Add.f t960 a1_0 a1_1 a1_2 a1_3).bind fun t963 => ((ref08_Same.f kj79 t957 t963).bind fun t966 => (some t966)))))) = some r := by rw [if_neg (show ¬ (false = true) by decide)] at H; exact H
          clear H
          have H := H1
          clear H1
          replace H := Option.bind_eq_some_iff.mp H
          obtain ⟨t954, A890, H⟩ := H
          replace H : ((pair_Del.f t954 a2_0 a2_1).bind fun t957 => ((pair_Del.f l0 a2_0 a2_1).bind fun t960 => ((pair_Add.f t960 a1_0 a1_1 a1_2 a1_3).bind fun t963 => ((ref08_Same.f kj79 t957 t963).bind fun t966 => (some t966))))) = some r := H
          have A89 := Aside0.mk A890
          clear A890
          replace H := Option.bind_eq_some_iff.mp H
          obtain ⟨t957, A900, H⟩ := H
          replace H : ((pair_Del.f l0 a2_0 a2_1).bind fun t960 => ((pair_Add.f t960 a1_0 a1_1 a1_2 a1_3).bind fun t963 => ((ref08_Same.f kj79 t957 t963).bind fun t966 => (some t966)))) = some r := H
          have A90 := Aside0.mk A900
          clear A900
          replace H := Option.bind_eq_some_iff.mp H
          obtain ⟨t960, A910, H⟩ := H
          replace H : ((pair_Add.f t960 a1_0 a1_1 a1_2 a1_3).bind fun t963 => ((ref08_Same.f kj79 t957 t963).bind fun t966 => (some t966))) = some r := H
          have A91 := Aside0.mk A910
          clear A910
          replace H := Option.bind_eq_some_iff.mp H
          obtain ⟨t963, A920, H⟩ := H
          replace H : ((ref08_Same.f kj79 t957 t963).bind fun t966 => (some t966)) = some r := H
          have A92 := Aside0.mk A920
          clear A920
          replace H := Option.bind_eq_some_iff.mp H
          obtain ⟨t966, A930, H⟩ := H
          replace H : (some t966) = some r := H
          have A93 := Aside0.mk A930
          clear A930
          obtain rfl := Option.some.inj H
          try go_wp2
          have n0_ := Aside0.mk (blk_drew BK913.out)
          have n1_ := Aside0.mk (blk_drew BK914.out)
          have n2_ := Aside0.mk (below_drew1 HB.out)
          clear BK913
          clear BK914
          clear HB
          have BK913 := n0_
          have BK914 := n1_
          have HB := n2_
          clear n0_ n1_ n2_
          refine start_ (n := 18) (S := fun w' => w'.cell? ⟨gb913, 0, none⟩ = some (.string a1_0) ∧ w'.cell? ⟨gb913, 1, none⟩ = some (.string a1_1) ∧ w'.cell? ⟨gb913, 2, none⟩ = some (.int .i64 a1_2) ∧ w'.cell? ⟨gb913, 3, none⟩ = some (.int .i64 a1_3) ∧ w'.cell? ⟨gb914, 0, none⟩ = some (.string a2_0) ∧ w'.cell? ⟨gb914, 1, none⟩ = some (.string a2_1) ∧ w'.cell? ⟨gb914, 2, none⟩ = some (.int .i64 a2_2) ∧ w'.cell? ⟨gb914, 3, none⟩ = some (.int .i64 a2_3)) (ds := []) #[false,false,false,false,false,false,false,false,false,false,false,false,false,false,false,false,false,false] (by kernel_rfl) rfl rfl ⟨(blk_cell BK913.out 0).trans rfl, (blk_cell BK913.out 1).trans rfl, (blk_cell BK913.out 2).trans rfl, (blk_cell BK913.out 3).trans rfl, (blk_cell BK914.out 0).trans rfl, (blk_cell BK914.out 1).trans rfl, (blk_cell BK914.out 2).trans rfl, (blk_cell BK914.out 3).trans rfl⟩ (fun hHeld => ?_); refine with_tabW law08_PairOrder.tab15 law08_PairOrder.bits15 (fun HT_ HW_ => ?_)
          generalize wc.drew = w94 at BK913 BK914 HB hHeld ⊢
          refine pure_ (i := 0) (N := some 104) (v := ?_) (a' := ?_) #[true,false,false,false,false,false,false,false,false,false,false,false,false,false,false,false,false,false] rfl rfl (any_of HT_.out (by kernel_rfl)) (fun _ _ _ h => h) (Or.inl ⟨by rfl, ?_⟩) ?_ ?_
          rotate_left
          ·intro w'
           go_simp
           with_reducible rfl
          rotate_left
          ·simp only [Act.put, List.setIfInBounds_toArray, List.set_cons_zero, List.set_cons_succ, i64_w, i32_w]
           rfl
          refine pure_ (i := 3) (N := some 107) (v := ?_) (a' := ?_) #[true,false,false,true,false,false,false,false,false,false,false,false,false,false,false,false,false,false] rfl rfl (any_of HT_.out (by kernel_rfl)) (fun _ _ _ h => h) (Or.inl ⟨by rfl, ?_⟩) ?_ ?_
          rotate_left
          ·intro w'
           go_simp
           with_reducible rfl
          rotate_left
          ·simp only [Act.put, List.setIfInBounds_toArray, List.set_cons_zero, List.set_cons_succ, i64_w, i32_w]
           rfl
          refine pure_ (i := 5) (N := some 109) (v := ?_) (a' := ?_) #[true,false,false,true,false,true,false,false,false,false,false,false,false,false,false,false,false,false] rfl rfl (any_of HT_.out (by kernel_rfl)) (fun _ _ _ h => h) (Or.inl ⟨by rfl, ?_⟩) ?_ ?_
          rotate_left
          ·intro w'
           go_simp
           with_reducible rfl
          rotate_left
          ·simp only [Act.put, List.setIfInBounds_toArray, List.set_cons_zero, List.set_cons_succ, i64_w, i32_w]
           rfl
          refine pure_ (i := 8) (N := some 112) (v := ?_) (a' := ?_) #[true,false,false,true,false,true,false,false,true,false,false,false,false,false,false,false,false,false] rfl rfl (any_of HT_.out (by kernel_rfl)) (fun _ _ _ h => h) (Or.inl ⟨by rfl, ?_⟩) ?_ ?_
          rotate_left
          ·intro w'
           go_simp
           with_reducible rfl
          rotate_left
          ·simp only [Act.put, List.setIfInBounds_toArray, List.set_cons_zero, List.set_cons_succ, i64_w, i32_w]
           rfl
          refine pure_ (i := 9) (N := some 113) (v := ?_) (a' := ?_) #[true,false,false,true,false,true,false,false,true,true,false,false,false,false,false,false,false,false] rfl rfl (any_of HT_.out (by kernel_rfl)) (fun _ _ _ h => h) (Or.inl ⟨by rfl, ?_⟩) ?_ ?_
          rotate_left
          ·intro w'
           go_simp
           with_reducible rfl
          rotate_left
          ·simp only [Act.put, List.setIfInBounds_toArray, List.set_cons_zero, List.set_cons_succ, i64_w, i32_w]
           rfl
          refine pure_ (i := 11) (N := some 115) (v := ?_) (a' := ?_) #[true,false,false,true,false,true,false,false,true,true,false,true,false,false,false,false,false,false] rfl rfl (any_of HT_.out (by kernel_rfl)) (fun _ _ _ h => h) (Or.inl ⟨by rfl, ?_⟩) ?_ ?_
          rotate_left
          ·intro w'
           go_simp
           with_reducible rfl
          rotate_left
          ·simp only [Act.put, List.setIfInBounds_toArray, List.set_cons_zero, List.set_cons_succ, i64_w, i32_w]
           rfl
          refine take_ (i := 1) (N := some 105) (v := ?_) (a' := ?_) #[true,true,false,true,false,true,false,false,true,true,false,true,false,false,false,false,false,false] rfl rfl (take_ofW HT_.out HW_.out (by kernel_rfl)) (fun _ _ _ h => h) (Or.inl ⟨by rfl, ?_⟩) hHeld ?_ ?_
          rotate_left
          ·rintro w' ⟨s0, s1, s2, s3, s4, s5, s6, s7⟩
           go_simp
           with_reducible rfl
          rotate_left
          ·simp only [Act.put, List.setIfInBounds_toArray, List.set_cons_zero, List.set_cons_succ, i64_w, i32_w]
           rfl
          refine take_ (i := 4) (N := some 108) (v := ?_) (a' := ?_) #[true,true,false,true,true,true,false,false,true,true,false,true,false,false,false,false,false,false] rfl rfl (take_ofW HT_.out HW_.out (by kernel_rfl)) (fun _ _ _ h => h) (Or.inl ⟨by rfl, ?_⟩) hHeld ?_ ?_
          rotate_left
          ·rintro w' ⟨s0, s1, s2, s3, s4, s5, s6, s7⟩
           go_simp
           with_reducible rfl
          rotate_left
          ·simp only [Act.put, List.setIfInBounds_toArray, List.set_cons_zero, List.set_cons_succ, i64_w, i32_w]
           rfl
          refine take_ (i := 6) (N := some 110) (v := ?_) (a' := ?_) #[true,true,false,true,true,true,true,false,true,true,false,true,false,false,false,false,false,false] rfl rfl (take_ofW HT_.out HW_.out (by kernel_rfl)) (fun _ _ _ h => h) (Or.inl ⟨by rfl, ?_⟩) hHeld ?_ ?_
          rotate_left
          ·rintro w' ⟨s0, s1, s2, s3, s4, s5, s6, s7⟩
           go_simp
           with_reducible rfl
          rotate_left
          ·simp only [Act.put, List.setIfInBounds_toArray, List.set_cons_zero, List.set_cons_succ, i64_w, i32_w]
           rfl
          refine take_ (i := 10) (N := some 114) (v := ?_) (a' := ?_) #[true,true,false,true,true,true,true,false,true,true,true,true,false,false,false,false,false,false] rfl rfl (take_ofW HT_.out HW_.out (by kernel_rfl)) (fun _ _ _ h => h) (Or.inl ⟨by rfl, ?_⟩) hHeld ?_ ?_
          rotate_left
          ·rintro w' ⟨s0, s1, s2, s3, s4, s5, s6, s7⟩
           go_simp
           with_reducible rfl
          rotate_left
          ·simp only [Act.put, List.setIfInBounds_toArray, List.set_cons_zero, List.set_cons_succ, i64_w, i32_w]
           rfl
          refine take_ (i := 12) (N := some 116) (v := ?_) (a' := ?_) #[true,true,false,true,true,true,true,false,true,true,true,true,true,false,false,false,false,false] rfl rfl (take_ofW HT_.out HW_.out (by kernel_rfl)) (fun _ _ _ h => h) (Or.inl ⟨by rfl, ?_⟩) hHeld ?_ ?_
          rotate_left
          ·rintro w' ⟨s0, s1, s2, s3, s4, s5, s6, s7⟩
           go_simp
           with_reducible rfl
          rotate_left
          ·simp only [Act.put, List.setIfInBounds_toArray, List.set_cons_zero, List.set_cons_succ, i64_w, i32_w]
           rfl
          refine take_ (i := 14) (N := some 118) (v := ?_) (a' := ?_) #[true,true,false,true,true,true,true,false,true,true,true,true,true,false,true,false,false,false] rfl rfl (take_ofW HT_.out HW_.out (by kernel_rfl)) (fun _ _ _ h => h) (Or.inl ⟨by rfl, ?_⟩) hHeld ?_ ?_
          rotate_left
          ·rintro w' ⟨s0, s1, s2, s3, s4, s5, s6, s7⟩
           go_simp
           with_reducible rfl
          rotate_left
          ·simp only [Act.put, List.setIfInBounds_toArray, List.set_cons_zero, List.set_cons_succ, i64_w, i32_w]
           rfl
          refine one_ (i := 2) (N := some 106) #[true,true,true,true,true,true,true,false,true,true,true,true,true,false,true,false,false,false] rfl rfl (one_of HT_.out (by kernel_rfl)) (by decide) (fun K hK => ?_)
          refine goes_ Try.func49 (by kernel_rfl) rfl #[.slice A0 l0.length c0, .agg #[.string a1_0, .string a1_1, .int .i64 a1_2, .int .i64 a1_3]] (by rfl) rfl rfl (by (try simp only [List.map_toArray, List.map_cons, List.map_nil]); first | done | rfl | (simp only [List.length_drop, List.length_take]; rfl)) ?_
          with_reducible refine (pair_Add.calls _ _ l0 a1_0 a1_1 a1_2 a1_3 t954 _ ?side1 ?side2 A89.out).mono ?_
          (case side1 => repeat (first | exact (Kd.C_below HR0.out HB.out) | (with_reducible refine Kd.C_alloc ?_ _) | (with_reducible refine Kd.C_drewN ?_ _) | (with_reducible refine Kd.C_drew ?_)))
          (case side2 => exact HC0.out)
          rintro e w95 ⟨v955, rfl, ho0, hb⟩
          refine ⟨_, rfl, ?_⟩
          have n0_ := Aside0.mk (Kd.R_lower (Kd.R_newB (Kd.R_newB ho0 (g := gb913) (o := .cells #[.string a1_0, .string a1_1, .int .i64 a1_2, .int .i64 a1_3] 57 (0, 0)) (by (with_reducible repeat (first | refine blk_drewN ?_ _ | refine blk_drew ?_ | refine blk_alloc ?_ _)); exact BK913.out)) (g := gb914) (o := .cells #[.string a2_0, .string a2_1, .int .i64 a2_2, .int .i64 a2_3] 57 (0, 0)) (by (with_reducible repeat (first | refine blk_drewN ?_ _ | refine blk_drew ?_ | refine blk_alloc ?_ _)); exact BK914.out)) (below_size (by repeat (first | (with_reducible first | exact HB.out | apply below_alloc | apply pw_below_drewN | apply below_drew1 | refine below_set ?_ GE913.out | refine below_set ?_ GE914.out) | exact HB.out))))
          have n1_ := Aside0.mk (blk_below (g := gb913) (o := .cells #[.string a1_0, .string a1_1, .int .i64 a1_2, .int .i64 a1_3] 57 (0, 0)) (by (with_reducible repeat (first | refine blk_drewN ?_ _ | refine blk_drew ?_ | refine blk_alloc ?_ _)); exact BK913.out) hb)
          have n2_ := Aside0.mk (blk_below (g := gb914) (o := .cells #[.string a2_0, .string a2_1, .int .i64 a2_2, .int .i64 a2_3] 57 (0, 0)) (by (with_reducible repeat (first | refine blk_drewN ?_ _ | refine blk_drew ?_ | refine blk_alloc ?_ _)); exact BK914.out) hb)
          have n3_ := Aside0.mk (below_step (by repeat (first | (with_reducible first | exact HB.out | apply below_alloc | apply pw_below_drewN | apply below_drew1 | refine below_set ?_ GE913.out | refine below_set ?_ GE914.out) | exact HB.out)) hb)
          clear BK913
          clear BK914
          clear HB
          have HO956 := n0_
          have BK913 := n1_
          have BK914 := n2_
          have HB := n3_
          clear n0_ n1_ n2_ n3_
          (try clear hb)
          (try clear hb2)
          (try clear hk)
          (try clear hi)
          (try clear ho0)
          obtain ⟨Ao96, co96, eo96⟩ := Kd.R_slice HO956.out
          (first | subst eo96 | (injection eo96 with f1_ f2_ f3_; have f4_ := f1_.symm; have f5_ := f3_.symm; clear f1_ f2_ f3_; subst f4_; subst f5_))
          refine hK.out _ _ ⟨(blk_cell BK913.out 0).trans rfl, (blk_cell BK913.out 1).trans rfl, (blk_cell BK913.out 2).trans rfl, (blk_cell BK913.out 3).trans rfl, (blk_cell BK914.out 0).trans rfl, (blk_cell BK914.out 1).trans rfl, (blk_cell BK914.out 2).trans rfl, (blk_cell BK914.out 3).trans rfl⟩ (fun hHeld => ?_)
          clear hK K
          refine norm_ (a' := ?_) ?_ ?_
          rotate_left
          ·show Act.put _ (some 106) _ = _
           simp only [Act.put, List.setIfInBounds_toArray, List.set_cons_zero, List.set_cons_succ, i64_w, i32_w]
           rfl
          refine one_ (i := 7) (N := some 111) #[true,true,true,true,true,true,true,true,true,true,true,true,true,false,true,false,false,false] rfl rfl (one_of HT_.out (by kernel_rfl)) (by decide) (fun K hK => ?_)
          refine goes_ Try.func51 (by kernel_rfl) rfl #[.slice Ao96 t954.length co96, .string a2_0, .string a2_1] (by rfl) rfl rfl (by (try simp only [List.map_toArray, List.map_cons, List.map_nil]); first | done | rfl | (simp only [List.length_drop, List.length_take]; rfl)) ?_
          with_reducible refine (pair_Del.calls _ _ t954 a2_0 a2_1 t957 _ ?side1 ?side2 A90.out).mono ?_
          (case side1 => repeat (first | exact (Kd.R_reads' HO956.out).2.2 | (with_reducible refine Kd.C_alloc ?_ _) | (with_reducible refine Kd.C_drewN ?_ _) | (with_reducible refine Kd.C_drew ?_)))
          (case side2 => exact (Kd.R_reads' HO956.out).2.1)
          rintro e w97 ⟨v958, rfl, ho0, hb⟩
          refine ⟨_, rfl, ?_⟩
          have n0_ := Aside0.mk (Kd.R_elder' (by (with_reducible repeat (first | apply Kd.R_alloc | apply Kd.R_drewN | apply Kd.R_drew)); exact HO956.out) (Kd.R_base ho0) hb)
          have n1_ := Aside0.mk (Kd.R_lower (Kd.R_newB (Kd.R_newB (Kd.R_new' ho0 (Kd.R_lt (by (with_reducible repeat (first | apply Kd.R_alloc | apply Kd.R_drewN | apply Kd.R_drew)); exact HO956.out))) (g := gb913) (o := .cells #[.string a1_0, .string a1_1, .int .i64 a1_2, .int .i64 a1_3] 57 (0, 0)) (by (with_reducible repeat (first | refine blk_drewN ?_ _ | refine blk_drew ?_ | refine blk_alloc ?_ _)); exact BK913.out)) (g := gb914) (o := .cells #[.string a2_0, .string a2_1, .int .i64 a2_2, .int .i64 a2_3] 57 (0, 0)) (by (with_reducible repeat (first | refine blk_drewN ?_ _ | refine blk_drew ?_ | refine blk_alloc ?_ _)); exact BK914.out)) (below_size (by repeat (first | (with_reducible first | exact HB.out | apply below_alloc | apply pw_below_drewN | apply below_drew1 | refine below_set ?_ GE913.out | refine below_set ?_ GE914.out) | exact HB.out))))
          have n2_ := Aside0.mk (blk_below (g := gb913) (o := .cells #[.string a1_0, .string a1_1, .int .i64 a1_2, .int .i64 a1_3] 57 (0, 0)) (by (with_reducible repeat (first | refine blk_drewN ?_ _ | refine blk_drew ?_ | refine blk_alloc ?_ _)); exact BK913.out) hb)
          have n3_ := Aside0.mk (blk_below (g := gb914) (o := .cells #[.string a2_0, .string a2_1, .int .i64 a2_2, .int .i64 a2_3] 57 (0, 0)) (by (with_reducible repeat (first | refine blk_drewN ?_ _ | refine blk_drew ?_ | refine blk_alloc ?_ _)); exact BK914.out) hb)
          have n4_ := Aside0.mk (below_step (by repeat (first | (with_reducible first | exact HB.out | apply below_alloc | apply pw_below_drewN | apply below_drew1 | refine below_set ?_ GE913.out | refine below_set ?_ GE914.out) | exact HB.out)) hb)
          clear HO956
          clear BK913
          clear BK914
          clear HB
          have HO956 := n0_
          have HO959 := n1_
          have BK913 := n2_
          have BK914 := n3_
          have HB := n4_
          clear n0_ n1_ n2_ n3_ n4_
          (try clear hb)
          (try clear hb2)
          (try clear hk)
          (try clear hi)
          (try clear ho0)
          refine hK.out _ _ ⟨(blk_cell BK913.out 0).trans rfl, (blk_cell BK913.out 1).trans rfl, (blk_cell BK913.out 2).trans rfl, (blk_cell BK913.out 3).trans rfl, (blk_cell BK914.out 0).trans rfl, (blk_cell BK914.out 1).trans rfl, (blk_cell BK914.out 2).trans rfl, (blk_cell BK914.out 3).trans rfl⟩ (fun hHeld => ?_)
          clear hK K
          refine norm_ (a' := ?_) ?_ ?_
          rotate_left
          ·show Act.put _ (some 111) _ = _
           simp only [Act.put, List.setIfInBounds_toArray, List.set_cons_zero, List.set_cons_succ, i64_w, i32_w]
           rfl
          refine one_ (i := 13) (N := some 117) #[true,true,true,true,true,true,true,true,true,true,true,true,true,true,true,false,false,false] rfl rfl (one_of HT_.out (by kernel_rfl)) (by decide) (fun K hK => ?_)
          refine goes_ Try.func51 (by kernel_rfl) rfl #[.slice A0 l0.length c0, .string a2_0, .string a2_1] (by rfl) rfl rfl (by (try simp only [List.map_toArray, List.map_cons, List.map_nil]); first | done | rfl | (simp only [List.length_drop, List.length_take]; rfl)) ?_
          with_reducible refine (pair_Del.calls _ _ l0 a2_0 a2_1 t960 _ ?side1 ?side2 A91.out).mono ?_
          (case side1 => repeat (first | exact (Kd.C_below HR0.out HB.out) | (with_reducible refine Kd.C_alloc ?_ _) | (with_reducible refine Kd.C_drewN ?_ _) | (with_reducible refine Kd.C_drew ?_)))
          (case side2 => exact HC0.out)
          rintro e w98 ⟨v961, rfl, ho0, hb⟩
          refine ⟨_, rfl, ?_⟩
          have n0_ := Aside0.mk (Kd.R_elder' (by (with_reducible repeat (first | apply Kd.R_alloc | apply Kd.R_drewN | apply Kd.R_drew)); exact HO956.out) (Kd.R_base ho0) hb)
          have n1_ := Aside0.mk (Kd.R_elder' (by (with_reducible repeat (first | apply Kd.R_alloc | apply Kd.R_drewN | apply Kd.R_drew)); exact HO959.out) (Kd.R_base ho0) hb)
          have n2_ := Aside0.mk (Kd.R_lower (Kd.R_newB (Kd.R_newB (Kd.R_new' (Kd.R_new' ho0 (Kd.R_lt (by (with_reducible repeat (first | apply Kd.R_alloc | apply Kd.R_drewN | apply Kd.R_drew)); exact HO956.out))) (Kd.R_lt (by (with_reducible repeat (first | apply Kd.R_alloc | apply Kd.R_drewN | apply Kd.R_drew)); exact HO959.out))) (g := gb913) (o := .cells #[.string a1_0, .string a1_1, .int .i64 a1_2, .int .i64 a1_3] 57 (0, 0)) (by (with_reducible repeat (first | refine blk_drewN ?_ _ | refine blk_drew ?_ | refine blk_alloc ?_ _)); exact BK913.out)) (g := gb914) (o := .cells #[.string a2_0, .string a2_1, .int .i64 a2_2, .int .i64 a2_3] 57 (0, 0)) (by (with_reducible repeat (first | refine blk_drewN ?_ _ | refine blk_drew ?_ | refine blk_alloc ?_ _)); exact BK914.out)) (below_size (by repeat (first | (with_reducible first | exact HB.out | apply below_alloc | apply pw_below_drewN | apply below_drew1 | refine below_set ?_ GE913.out | refine below_set ?_ GE914.out) | exact HB.out))))
          have n3_ := Aside0.mk (blk_below (g := gb913) (o := .cells #[.string a1_0, .string a1_1, .int .i64 a1_2, .int .i64 a1_3] 57 (0, 0)) (by (with_reducible repeat (first | refine blk_drewN ?_ _ | refine blk_drew ?_ | refine blk_alloc ?_ _)); exact BK913.out) hb)
          have n4_ := Aside0.mk (blk_below (g := gb914) (o := .cells #[.string a2_0, .string a2_1, .int .i64 a2_2, .int .i64 a2_3] 57 (0, 0)) (by (with_reducible repeat (first | refine blk_drewN ?_ _ | refine blk_drew ?_ | refine blk_alloc ?_ _)); exact BK914.out) hb)
          have n5_ := Aside0.mk (below_step (by repeat (first | (with_reducible first | exact HB.out | apply below_alloc | apply pw_below_drewN | apply below_drew1 | refine below_set ?_ GE913.out | refine below_set ?_ GE914.out) | exact HB.out)) hb)
          clear HO956
          clear HO959
          clear BK913
          clear BK914
          clear HB
          have HO956 := n0_
          have HO959 := n1_
          have HO962 := n2_
          have BK913 := n3_
          have BK914 := n4_
          have HB := n5_
          clear n0_ n1_ n2_ n3_ n4_ n5_
          (try clear hb)
          (try clear hb2)
          (try clear hk)
          (try clear hi)
          (try clear ho0)
          obtain ⟨Ao99, co99, eo99⟩ := Kd.R_slice HO962.out
          (first | subst eo99 | (injection eo99 with f1_ f2_ f3_; have f4_ := f1_.symm; have f5_ := f3_.symm; clear f1_ f2_ f3_; subst f4_; subst f5_))
          refine hK.out _ _ ⟨(blk_cell BK913.out 0).trans rfl, (blk_cell BK913.out 1).trans rfl, (blk_cell BK913.out 2).trans rfl, (blk_cell BK913.out 3).trans rfl, (blk_cell BK914.out 0).trans rfl, (blk_cell BK914.out 1).trans rfl, (blk_cell BK914.out 2).trans rfl, (blk_cell BK914.out 3).trans rfl⟩ (fun hHeld => ?_)
          clear hK K
          refine norm_ (a' := ?_) ?_ ?_
          rotate_left
          ·show Act.put _ (some 117) _ = _
           simp only [Act.put, List.setIfInBounds_toArray, List.set_cons_zero, List.set_cons_succ, i64_w, i32_w]
           rfl
          refine one_ (i := 15) (N := some 119) #[true,true,true,true,true,true,true,true,true,true,true,true,true,true,true,true,false,false] rfl rfl (one_of HT_.out (by kernel_rfl)) (by decide) (fun K hK => ?_)
          refine goes_ Try.func49 (by kernel_rfl) rfl #[.slice Ao99 t960.length co99, .agg #[.string a1_0, .string a1_1, .int .i64 a1_2, .int .i64 a1_3]] (by rfl) rfl rfl (by (try simp only [List.map_toArray, List.map_cons, List.map_nil]); first | done | rfl | (simp only [List.length_drop, List.length_take]; rfl)) ?_
          with_reducible refine (pair_Add.calls _ _ t960 a1_0 a1_1 a1_2 a1_3 t963 _ ?side1 ?side2 A92.out).mono ?_
          (case side1 => repeat (first | exact (Kd.R_reads' HO962.out).2.2 | (with_reducible refine Kd.C_alloc ?_ _) | (with_reducible refine Kd.C_drewN ?_ _) | (with_reducible refine Kd.C_drew ?_)))
          (case side2 => exact (Kd.R_reads' HO962.out).2.1)
          rintro e w100 ⟨v964, rfl, ho0, hb⟩
          refine ⟨_, rfl, ?_⟩
          have n0_ := Aside0.mk (Kd.R_elder' (by (with_reducible repeat (first | apply Kd.R_alloc | apply Kd.R_drewN | apply Kd.R_drew)); exact HO956.out) (Kd.R_base ho0) hb)
          have n1_ := Aside0.mk (Kd.R_elder' (by (with_reducible repeat (first | apply Kd.R_alloc | apply Kd.R_drewN | apply Kd.R_drew)); exact HO959.out) (Kd.R_base ho0) hb)
          have n2_ := Aside0.mk (Kd.R_elder' (by (with_reducible repeat (first | apply Kd.R_alloc | apply Kd.R_drewN | apply Kd.R_drew)); exact HO962.out) (Kd.R_base ho0) hb)
          have n3_ := Aside0.mk (Kd.R_lower (Kd.R_newB (Kd.R_newB (Kd.R_new' (Kd.R_new' (Kd.R_new' ho0 (Kd.R_lt (by (with_reducible repeat (first | apply Kd.R_alloc | apply Kd.R_drewN | apply Kd.R_drew)); exact HO956.out))) (Kd.R_lt (by (with_reducible repeat (first | apply Kd.R_alloc | apply Kd.R_drewN | apply Kd.R_drew)); exact HO959.out))) (Kd.R_lt (by (with_reducible repeat (first | apply Kd.R_alloc | apply Kd.R_drewN | apply Kd.R_drew)); exact HO962.out))) (g := gb913) (o := .cells #[.string a1_0, .string a1_1, .int .i64 a1_2, .int .i64 a1_3] 57 (0, 0)) (by (with_reducible repeat (first | refine blk_drewN ?_ _ | refine blk_drew ?_ | refine blk_alloc ?_ _)); exact BK913.out)) (g := gb914) (o := .cells #[.string a2_0, .string a2_1, .int .i64 a2_2, .int .i64 a2_3] 57 (0, 0)) (by (with_reducible repeat (first | refine blk_drewN ?_ _ | refine blk_drew ?_ | refine blk_alloc ?_ _)); exact BK914.out)) (below_size (by repeat (first | (with_reducible first | exact HB.out | apply below_alloc | apply pw_below_drewN | apply below_drew1 | refine below_set ?_ GE913.out | refine below_set ?_ GE914.out) | exact HB.out))))
          have n4_ := Aside0.mk (blk_below (g := gb913) (o := .cells #[.string a1_0, .string a1_1, .int .i64 a1_2, .int .i64 a1_3] 57 (0, 0)) (by (with_reducible repeat (first | refine blk_drewN ?_ _ | refine blk_drew ?_ | refine blk_alloc ?_ _)); exact BK913.out) hb)
          have n5_ := Aside0.mk (blk_below (g := gb914) (o := .cells #[.string a2_0, .string a2_1, .int .i64 a2_2, .int .i64 a2_3] 57 (0, 0)) (by (with_reducible repeat (first | refine blk_drewN ?_ _ | refine blk_drew ?_ | refine blk_alloc ?_ _)); exact BK914.out) hb)
          have n6_ := Aside0.mk (below_step (by repeat (first | (with_reducible first | exact HB.out | apply below_alloc | apply pw_below_drewN | apply below_drew1 | refine below_set ?_ GE913.out | refine below_set ?_ GE914.out) | exact HB.out)) hb)
          clear HO956
          clear HO959
          clear HO962
          clear BK913
          clear BK914
          clear HB
          have HO956 := n0_
          have HO959 := n1_
          have HO962 := n2_
          have HO965 := n3_
          have BK913 := n4_
          have BK914 := n5_
          have HB := n6_
          clear n0_ n1_ n2_ n3_ n4_ n5_ n6_
          (try clear hb)
          (try clear hb2)
          (try clear hk)
          (try clear hi)
          (try clear ho0)
          obtain ⟨Ao101, co101, eo101⟩ := Kd.R_slice HO959.out
          (first | subst eo101 | (injection eo101 with f1_ f2_ f3_; have f4_ := f1_.symm; have f5_ := f3_.symm; clear f1_ f2_ f3_; subst f4_; subst f5_))
          obtain ⟨Ao102, co102, eo102⟩ := Kd.R_slice HO965.out
          (first | subst eo102 | (injection eo102 with f1_ f2_ f3_; have f4_ := f1_.symm; have f5_ := f3_.symm; clear f1_ f2_ f3_; subst f4_; subst f5_))
          refine hK.out _ _ ⟨(blk_cell BK913.out 0).trans rfl, (blk_cell BK913.out 1).trans rfl, (blk_cell BK913.out 2).trans rfl, (blk_cell BK913.out 3).trans rfl, (blk_cell BK914.out 0).trans rfl, (blk_cell BK914.out 1).trans rfl, (blk_cell BK914.out 2).trans rfl, (blk_cell BK914.out 3).trans rfl⟩ (fun hHeld => ?_)
          clear hK K
          refine norm_ (a' := ?_) ?_ ?_
          rotate_left
          ·show Act.put _ (some 119) _ = _
           simp only [Act.put, List.setIfInBounds_toArray, List.set_cons_zero, List.set_cons_succ, i64_w, i32_w]
           rfl
          refine one_ (i := 16) (N := some 120) #[true,true,true,true,true,true,true,true,true,true,true,true,true,true,true,true,true,false] rfl rfl (one_of HT_.out (by kernel_rfl)) (by decide) (fun K hK => ?_)
          refine goes_ Try.func48 (by kernel_rfl) rfl #[.slice Ao101 t957.length co101, .slice Ao102 t963.length co102] (by rfl) rfl rfl (by (try simp only [List.map_toArray, List.map_cons, List.map_nil]); first | done | rfl | (simp only [List.length_drop, List.length_take]; rfl)) ?_
          with_reducible refine (ref08_Same.calls kj79 _ _ t957 _ _ t963 t966 _ ?side1 ?side2 ?side3 ?side4 A93.out).mono ?_
          (case side1 => repeat (first | exact (Kd.R_reads' HO959.out).2.2 | (with_reducible refine Kd.C_alloc ?_ _) | (with_reducible refine Kd.C_drewN ?_ _) | (with_reducible refine Kd.C_drew ?_)))
          (case side2 => exact (Kd.R_reads' HO959.out).2.1)
          (case side3 => repeat (first | exact (Kd.R_reads' HO965.out).2.2 | (with_reducible refine Kd.C_alloc ?_ _) | (with_reducible refine Kd.C_drewN ?_ _) | (with_reducible refine Kd.C_drew ?_)))
          (case side4 => exact (Kd.R_reads' HO965.out).2.1)
          rintro e w' ⟨rfl, ⟨nd, rfl⟩⟩
          refine ⟨_, rfl, ?_⟩
          refine hK.out _ _ ⟨(blk_cell BK913.out 0).trans rfl, (blk_cell BK913.out 1).trans rfl, (blk_cell BK913.out 2).trans rfl, (blk_cell BK913.out 3).trans rfl, (blk_cell BK914.out 0).trans rfl, (blk_cell BK914.out 1).trans rfl, (blk_cell BK914.out 2).trans rfl, (blk_cell BK914.out 3).trans rfl⟩ (fun hHeld => ?_)
          clear hK K
          refine norm_ (a' := ?_) ?_ ?_
          rotate_left
          ·show Act.put _ (some 120) _ = _
           simp only [Act.put, List.setIfInBounds_toArray, List.set_cons_zero, List.set_cons_succ, i64_w, i32_w]
           rfl
          refine pure_ (i := 17) (N := some 15) (v := ?_) (a' := ?_) #[true,true,true,true,true,true,true,true,true,true,true,true,true,true,true,true,true,true] rfl rfl (any_of HT_.out (by kernel_rfl)) (fun _ _ _ h => h) (Or.inl ⟨by rfl, ?_⟩) ?_ ?_
          rotate_left
          ·intro w'
           go_simp
           with_reducible rfl
          rotate_left
          ·simp only [Act.put, List.setIfInBounds_toArray, List.set_cons_zero, List.set_cons_succ, i64_w, i32_w]
           rfl
          refine done_ (done_of HT_.out (by kernel_rfl)) ?_
          try go_wp2
          go_ret
          exact ⟨by first | rfl | (simp [errW_none, errW_some] <;> rfl) | (simp [*, errW_none, errW_some] <;> rfl), by repeat (first | (with_reducible first | exact HB.out | apply below_alloc | apply pw_below_drewN | apply below_drew1 | refine below_set ?_ GE913.out | refine below_set ?_ GE914.out) | exact HB.out)⟩

end Go.Proofs.Ytannmdngejdjkaa.L
