-- PRINTED by print.py (a twelfth state) out of the translation. Not trusted: Lean checks it.
import Derived.Test.YtannmdngejdjkaaLx0
import Derived.Test.YtannmdngejdjkaaLx1
import Derived.Test.YtannmdngejdjkaaLx5
import Derived.Test.YtannmdngejdjkaaLx7
import Derived.Test.YtannmdngejdjkaaLx8
import Derived.Test.YtannmdngejdjkaaLx9
import Derived.Test.YtannmdngejdjkaaLx10
import Derived.Test.YtannmdngejdjkaaLx12
import Derived.Test.YtannmdngejdjkaaLx13
import Derived.Test.YtannmdngejdjkaaLx14
import Derived.Test.YtannmdngejdjkaaLHRegGet
namespace Go.Proofs.Ytannmdngejdjkaa.L
open Go.RowKit Go.Proofs.YtannmdngejdjkaaW.PrintWords Go.Proofs.YtannmdngejdjkaaW.PrintLast Go.Proofs.YtannmdngejdjkaaW.PrintMore
attribute [local go_sem] max2_int min2_int max_two min_two max_three min_three max_four min_four   -- for this text's walks alone
set_option linter.unusedVariables false
set_option linter.unusedSimpArgs false

attribute [local go_sem high] eqA26
/-! ### law07_RegTells: function 3 -/
mutual
def law07_RegTells.j0 : Nat → List (S26) → List (S26) → ByteArray → Bool → Bool → ByteArray → ByteArray → Int → Int → Int → Option (Bool)
 | 0, _, _, _, _, _, _, _, _, _, _ => none
 | k + 1, x0, x1, x3, x9, x48, x210000, x210001, x210002, x210003, x210004 => if x48 = true then (some x9) else ((ref07_May.f k x0).bind fun t217 => ((reg_Put.f k x0 x210000 x210001 x210002 x210003 x210004).bind fun t218 => ((ref07_Put.f k x0 x210000 x210001 x210002 x210003 x210004).bind fun t221 => ((ref07_Same.f k t218 t221).bind fun t224 => ((reg_Merge.f k x0 x1).bind fun t225 => ((ref07_Merge.f k x0 x1).bind fun t228 => ((ref07_Same.f k t225 t228).bind fun t231 => ((reg_Get.f x0 x3).bind fun bt232 => ((ref07_Get.f k x0 x3).bind fun bt239 => (law07_RegTells.l0 k x0 t217 t224 t231 bt232.2.2.2.2.2 bt239.2.2.2.2.2 0 x210000 x210001 x210002 x210003 x210004 bt232.1 bt232.2.1 bt232.2.2.1 bt232.2.2.2.1 bt232.2.2.2.2.1 bt239.1 bt239.2.1 bt239.2.2.1 bt239.2.2.2.1 bt239.2.2.2.2.1))))))))))
def law07_RegTells.l0 : Nat → List (S26) → Bool → Bool → Bool → Bool → Bool → Int → ByteArray → ByteArray → Int → Int → Int → ByteArray → ByteArray → Int → Int → Int → ByteArray → ByteArray → Int → Int → Int → Option (Bool)
 | 0, _, _, _, _, _, _, _, _, _, _, _, _, _, _, _, _, _, _, _, _, _, _ => none
 | k + 1, x0, x13, x14, x15, x17, x19, x20, x210000, x210001, x210002, x210003, x210004, x239000, x239001, x239002, x239003, x239004, x246000, x246001, x246002, x246003, x246004 => if x20 < (x0.length : Int) then (if 0 ≤ x20 then ((ref07_Newer.f ((rd_T26 x0 x20).f0) ((rd_T26 x0 x20).f1) ((rd_T26 x0 x20).f2) ((rd_T26 x0 x20).f3.f0) ((rd_T26 x0 x20).f3.f1) x210000 x210001 x210002 x210003 x210004).bind fun t248 => ((reg_Newer.f k ((rd_T26 x0 x20).f0) ((rd_T26 x0 x20).f1) ((rd_T26 x0 x20).f2) ((rd_T26 x0 x20).f3.f0) ((rd_T26 x0 x20).f3.f1) x210000 x210001 x210002 x210003 x210004).bind fun t250 => (if (t250 != t248) = true then (some false) else (law07_RegTells.l0 k x0 x13 x14 x15 x17 x19 (wrap64 (x20 + 1)) x210000 x210001 x210002 x210003 x210004 x239000 x239001 x239002 x239003 x239004 x246000 x246001 x246002 x246003 x246004)))) else (none)) else ((reg_May.f k x0).bind fun t246 => (if (t246 == x13) = true then (if x14 = true then (if x15 = true then (if (x239000.toList == x246000.toList && (x239001.toList == x246001.toList && (x239002 == x246002 && ((x239003 == x246003 && (x239004 == x246004)))))) = true then (some (x17 == x19)) else (some false)) else (some false)) else (some false)) else (some false)))
end
def law07_RegTells.f (k : Nat) (l0 : List (S26)) (l1 : List (S26)) (a2_0 : ByteArray) (a2_1 : ByteArray) (a2_2 : Int) (a2_3 : Int) (a2_4 : Int) (a3 : ByteArray) : Option (Bool) := (law07_awake.f k).bind fun t210 => ((law07_Few.f k l0).bind fun t211 => ((law07_Few.f k l1).bind fun t212 => ((law07_Few.f k (([(⟨a2_0, a2_1, a2_2, (⟨a2_3, a2_4⟩ : S24)⟩ : S26)] : List (S26)))).bind fun t216 => (if t210 = true then (if t211 = true then (if t212 = true then (if t216 = true then (law07_RegTells.j0 k l0 l1 a3 t210 (decide ((a3.size : Int) > 100)) a2_0 a2_1 a2_2 a2_3 a2_4) else (law07_RegTells.j0 k l0 l1 a3 t210 true a2_0 a2_1 a2_2 a2_3 a2_4)) else (law07_RegTells.j0 k l0 l1 a3 t210 true a2_0 a2_1 a2_2 a2_3 a2_4)) else (law07_RegTells.j0 k l0 l1 a3 t210 true a2_0 a2_1 a2_2 a2_3 a2_4)) else (law07_RegTells.j0 k l0 l1 a3 t210 true a2_0 a2_1 a2_2 a2_3 a2_4)))))
theorem law07_RegTells.mono_l : ∀ k, (∀ y0 y1 y2 y3 y4 y5 y6 y7 y8 y9, LeO (law07_RegTells.j0 k y0 y1 y2 y3 y4 y5 y6 y7 y8 y9) (law07_RegTells.j0 (k + 1) y0 y1 y2 y3 y4 y5 y6 y7 y8 y9)) ∧ (∀ y0 y1 y2 y3 y4 y5 y6 y7 y8 y9 y10 y11 y12 y13 y14 y15 y16 y17 y18 y19 y20 y21, LeO (law07_RegTells.l0 k y0 y1 y2 y3 y4 y5 y6 y7 y8 y9 y10 y11 y12 y13 y14 y15 y16 y17 y18 y19 y20 y21) (law07_RegTells.l0 (k + 1) y0 y1 y2 y3 y4 y5 y6 y7 y8 y9 y10 y11 y12 y13 y14 y15 y16 y17 y18 y19 y20 y21))
 | 0 => ⟨fun _ _ _ _ _ _ _ _ _ _ r h => by simp [law07_RegTells.j0] at h, fun _ _ _ _ _ _ _ _ _ _ _ _ _ _ _ _ _ _ _ _ _ _ r h => by simp [law07_RegTells.l0] at h⟩
 | k + 1 => by
  obtain ⟨ih0, ih1⟩ := law07_RegTells.mono_l k
  refine ⟨?_, ?_⟩
  ·intro y0 y1 y2 y3 y4 y5 y6 y7 y8 y9
   unfold law07_RegTells.j0
   repeat' first
   | (with_reducible exact ih0 _ _ _ _ _ _ _ _ _ _)
   | (with_reducible exact ih1 _ _ _ _ _ _ _ _ _ _ _ _ _ _ _ _ _ _ _ _ _ _)
   | (with_reducible exact law07_Few.mono _ _)
   | (with_reducible exact law07_awake.mono _)
   | (with_reducible exact ref07_Get.mono _ _ _)
   | (with_reducible exact ref07_May.mono _ _)
   | (with_reducible exact ref07_Merge.mono _ _ _)
   | (with_reducible exact ref07_Put.mono _ _ _ _ _ _ _)
   | (with_reducible exact ref07_Same.mono _ _ _)
   | (with_reducible exact reg_May.mono _ _)
   | (with_reducible exact reg_Merge.mono _ _ _)
   | (with_reducible exact reg_Newer.mono _ _ _ _ _ _ _ _ _ _ _)
   | (with_reducible exact reg_Put.mono _ _ _ _ _ _ _)
   | (with_reducible exact LeO.refl _)
   | (with_reducible exact LeO.none _)
   | (with_reducible refine LeO.ite ?_ ?_)
   | (with_reducible refine LeO.bind ?_ (fun _ => ?_))
   | exact ih0 _ _ _ _ _ _ _ _ _ _
   | exact ih1 _ _ _ _ _ _ _ _ _ _ _ _ _ _ _ _ _ _ _ _ _ _
   | exact law07_Few.mono _ _
   | exact law07_awake.mono _
   | exact ref07_Get.mono _ _ _
   | exact ref07_May.mono _ _
   | exact ref07_Merge.mono _ _ _
   | exact ref07_Put.mono _ _ _ _ _ _ _
   | exact ref07_Same.mono _ _ _
   | exact reg_May.mono _ _
   | exact reg_Merge.mono _ _ _
   | exact reg_Newer.mono _ _ _ _ _ _ _ _ _ _ _
   | exact reg_Put.mono _ _ _ _ _ _ _
   | exact LeO.none _
   | refine LeO.ite ?_ ?_
   | refine LeO.bind ?_ (fun _ => ?_)
  ·intro y0 y1 y2 y3 y4 y5 y6 y7 y8 y9 y10 y11 y12 y13 y14 y15 y16 y17 y18 y19 y20 y21
   unfold law07_RegTells.l0
   repeat' first
   | (with_reducible exact ih0 _ _ _ _ _ _ _ _ _ _)
   | (with_reducible exact ih1 _ _ _ _ _ _ _ _ _ _ _ _ _ _ _ _ _ _ _ _ _ _)
   | (with_reducible exact law07_Few.mono _ _)
   | (with_reducible exact law07_awake.mono _)
   | (with_reducible exact ref07_Get.mono _ _ _)
   | (with_reducible exact ref07_May.mono _ _)
   | (with_reducible exact ref07_Merge.mono _ _ _)
   | (with_reducible exact ref07_Put.mono _ _ _ _ _ _ _)
   | (with_reducible exact ref07_Same.mono _ _ _)
   | (with_reducible exact reg_May.mono _ _)
   | (with_reducible exact reg_Merge.mono _ _ _)
   | (with_reducible exact reg_Newer.mono _ _ _ _ _ _ _ _ _ _ _)
   | (with_reducible exact reg_Put.mono _ _ _ _ _ _ _)
   | (with_reducible exact LeO.refl _)
   | (with_reducible exact LeO.none _)
   | (with_reducible refine LeO.ite ?_ ?_)
   | (with_reducible refine LeO.bind ?_ (fun _ => ?_))
   | exact ih0 _ _ _ _ _ _ _ _ _ _
   | exact ih1 _ _ _ _ _ _ _ _ _ _ _ _ _ _ _ _ _ _ _ _ _ _
   | exact law07_Few.mono _ _
   | exact law07_awake.mono _
   | exact ref07_Get.mono _ _ _
   | exact ref07_May.mono _ _
   | exact ref07_Merge.mono _ _ _
   | exact ref07_Put.mono _ _ _ _ _ _ _
   | exact ref07_Same.mono _ _ _
   | exact reg_May.mono _ _
   | exact reg_Merge.mono _ _ _
   | exact reg_Newer.mono _ _ _ _ _ _ _ _ _ _ _
   | exact reg_Put.mono _ _ _ _ _ _ _
   | exact LeO.none _
   | refine LeO.ite ?_ ?_
   | refine LeO.bind ?_ (fun _ => ?_)
theorem law07_RegTells.mono : ∀ a0 a1 a2 a3 a4 a5 a6 a7 k, LeO (law07_RegTells.f k a0 a1 a2 a3 a4 a5 a6 a7) (law07_RegTells.f (k + 1) a0 a1 a2 a3 a4 a5 a6 a7) := by
 intro a0 a1 a2 a3 a4 a5 a6 a7 k
 obtain ⟨ih0, ih1⟩ := law07_RegTells.mono_l k
 unfold law07_RegTells.f
 repeat' first
   | (with_reducible exact ih0 _ _ _ _ _ _ _ _ _ _)
   | (with_reducible exact ih1 _ _ _ _ _ _ _ _ _ _ _ _ _ _ _ _ _ _ _ _ _ _)
   | (with_reducible exact law07_Few.mono _ _)
   | (with_reducible exact law07_awake.mono _)
   | (with_reducible exact ref07_Get.mono _ _ _)
   | (with_reducible exact ref07_May.mono _ _)
   | (with_reducible exact ref07_Merge.mono _ _ _)
   | (with_reducible exact ref07_Put.mono _ _ _ _ _ _ _)
   | (with_reducible exact ref07_Same.mono _ _ _)
   | (with_reducible exact reg_May.mono _ _)
   | (with_reducible exact reg_Merge.mono _ _ _)
   | (with_reducible exact reg_Newer.mono _ _ _ _ _ _ _ _ _ _ _)
   | (with_reducible exact reg_Put.mono _ _ _ _ _ _ _)
   | (with_reducible exact LeO.refl _)
   | (with_reducible exact LeO.none _)
   | (with_reducible refine LeO.ite ?_ ?_)
   | (with_reducible refine LeO.bind ?_ (fun _ => ?_))
   | exact ih0 _ _ _ _ _ _ _ _ _ _
   | exact ih1 _ _ _ _ _ _ _ _ _ _ _ _ _ _ _ _ _ _ _ _ _ _
   | exact law07_Few.mono _ _
   | exact law07_awake.mono _
   | exact ref07_Get.mono _ _ _
   | exact ref07_May.mono _ _
   | exact ref07_Merge.mono _ _ _
   | exact ref07_Put.mono _ _ _ _ _ _ _
   | exact ref07_Same.mono _ _ _
   | exact reg_May.mono _ _
   | exact reg_Merge.mono _ _ _
   | exact reg_Newer.mono _ _ _ _ _ _ _ _ _ _ _
   | exact reg_Put.mono _ _ _ _ _ _ _
   | exact LeO.none _
   | refine LeO.ite ?_ ?_
   | refine LeO.bind ?_ (fun _ => ?_)
def law07_RegTells.T8 : Bool × List (List Nat × List Nat) := (true, [([], []), ([], []), ([0, 1], [0, 1]), ([], []), ([], []), ([3, 4, 2], [3, 4]), ([2, 5, 5], [2, 5]), ([6, 6, 0, 1, 2, 3, 4, 5, 6], [6])])
def law07_RegTells.B8 : List Nat := [0, 0, 3, 0, 0, 31, 63, 127]
theorem law07_RegTells.tab8 : rtab .any (opsOf Try.f3 8) = law07_RegTells.T8 := by kernel_rfl
theorem law07_RegTells.bits8 : waitsOk law07_RegTells.T8.2 law07_RegTells.B8 = true := by kernel_rfl
def law07_RegTells.T16 : Bool × List (List Nat × List Nat) := (true, [([], []), ([], []), ([0, 1], [0, 1]), ([2], [2]), ([], []), ([3, 4], [3, 4]), ([], []), ([5, 6], [5, 6])])
def law07_RegTells.B16 : List Nat := [0, 0, 3, 7, 0, 31, 0, 127]
theorem law07_RegTells.tab16 : rtab .any (opsOf Try.f3 16) = law07_RegTells.T16 := by kernel_rfl
theorem law07_RegTells.bits16 : waitsOk law07_RegTells.T16.2 law07_RegTells.B16 = true := by kernel_rfl
set_option maxHeartbeats 8000000 in
set_option maxRecDepth 100000 in
theorem law07_RegTells.calls (k : Nat) (A0 : Option Addr) (c0 : Nat) (l0 : List (S26)) (A1 : Option Addr) (c1 : Nat) (l1 : List (S26)) (a2_0 : ByteArray) (a2_1 : ByteArray) (a2_2 : Int) (a2_3 : Int) (a2_4 : Int) (a3 : ByteArray) (r : Bool) (w : World) (hr0 : Kd.C k26 w A0 l0.length l0) (hc0 : l0.length ≤ c0) (hr1 : Kd.C k26 w A1 l1.length l1) (hc1 : l1.length ≤ c1) (h : law07_RegTells.f k l0 l1 a2_0 a2_1 a2_2 a2_3 a2_4 a3 = some r) :
  Calls Try.prog 3 #[.slice A0 l0.length c0, .slice A1 l1.length c1, .agg #[.string a2_0, .string a2_1, .int .i64 a2_2, .int .i64 a2_3, .int .i64 a2_4], .string a3] w fun e w' => e = .returned (.bool r) ∧ Below w.heap.size w w' := by
 have hu26 := Try.underlying26
 have HR0 := Aside0.mk hr0
 have HC0 := Aside0.mk hc0
 clear hr0 hc0
 have HR1 := Aside0.mk hr1
 have HC1 := Aside0.mk hc1
 clear hr1 hc1
 have HB := Aside0.mk (Below.refl w.heap.size w)
 have H : ((law07_awake.f k).bind fun t210 => ((law07_Few.f k l0).bind fun t211 => ((law07_Few.f k l1).bind fun t212 => ((law07_Few.f k (([(⟨a2_0, a2_1, a2_2, (⟨a2_3, a2_4⟩ : S24)⟩ : S26)] : List (S26)))).bind fun t216 => (if t210 = true then (if t211 = true then (if t212 = true then (if t216 = true then (law07_RegTells.j0 k l0 l1 a3 t210 (decide ((a3.size : Int) > 100)) a2_0 a2_1 a2_2 a2_3 a2_4) else (law07_RegTells.j0 k l0 l1 a3 t210 true a2_0 a2_1 a2_2 a2_3 a2_4)) else (law07_RegTells.j0 k l0 l1 a3 t210 true a2_0 a2_1 a2_2 a2_3 a2_4)) else (law07_RegTells.j0 k l0 l1 a3 t210 true a2_0 a2_1 a2_2 a2_3 a2_4)) else (law07_RegTells.j0 k l0 l1 a3 t210 true a2_0 a2_1 a2_2 a2_3 a2_4)))))) = some r := h
 clear h
 replace H := Option.bind_eq_some_iff.mp H
 obtain ⟨t210, A50, H⟩ := H
 replace H : ((law07_Few.f k l0).bind fun t211 => ((law07_Few.f k l1).bind fun t212 => ((law07_Few.f k (([(⟨a2_0, a2_1, a2_2, (⟨a2_3, a2_4⟩ : S24)⟩ : S26)] : List (S26)))).bind fun t216 => (if t210 = true then (if t211 = true then (if t212 = true then (if t216 = true then (law07_RegTells.j0 k l0 l1 a3 t210 (decide ((a3.size : Int) > 100)) a2_0 a2_1 a2_2 a2_3 a2_4) else (law07_RegTells.j0 k l0 l1 a3 t210 true a2_0 a2_1 a2_2 a2_3 a2_4)) else (law07_RegTells.j0 k l0 l1 a3 t210 true a2_0 a2_1 a2_2 a2_3 a2_4)) else (law07_RegTells.j0 k l0 l1 a3 t210 true a2_0 a2_1 a2_2 a2_3 a2_4)) else (law07_RegTells.j0 k l0 l1 a3 t210 true a2_0 a2_1 a2_2 a2_3 a2_4))))) = some r := H
 have A5 := Aside0.mk A50
 clear A50
 replace H := Option.bind_eq_some_iff.mp H
 obtain ⟨t211, A60, H⟩ := H
 replace H : ((law07_Few.f k l1).bind fun t212 => ((law07_Few.f k (([(⟨a2_0, a2_1, a2_2, (⟨a2_3, a2_4⟩ : S24)⟩ : S26)] : List (S26)))).bind fun t216 => (if t210 = true then (if t211 = true then (if t212 = true then (if t216 = true then (law07_RegTells.j0 k l0 l1 a3 t210 (decide ((a3.size : Int) > 100)) a2_0 a2_1 a2_2 a2_3 a2_4) else (law07_RegTells.j0 k l0 l1 a3 t210 true a2_0 a2_1 a2_2 a2_3 a2_4)) else (law07_RegTells.j0 k l0 l1 a3 t210 true a2_0 a2_1 a2_2 a2_3 a2_4)) else (law07_RegTells.j0 k l0 l1 a3 t210 true a2_0 a2_1 a2_2 a2_3 a2_4)) else (law07_RegTells.j0 k l0 l1 a3 t210 true a2_0 a2_1 a2_2 a2_3 a2_4)))) = some r := H
 have A6 := Aside0.mk A60
 clear A60
 replace H := Option.bind_eq_some_iff.mp H
 obtain ⟨t212, A70, H⟩ := H
 replace H : ((law07_Few.f k (([(⟨a2_0, a2_1, a2_2, (⟨a2_3, a2_4⟩ : S24)⟩ : S26)] : List (S26)))).bind fun t216 => (if t210 = true then (if t211 = true then (if t212 = true then (if t216 = true then (law07_RegTells.j0 k l0 l1 a3 t210 (decide ((a3.size : Int) > 100)) a2_0 a2_1 a2_2 a2_3 a2_4) else (law07_RegTells.j0 k l0 l1 a3 t210 true a2_0 a2_1 a2_2 a2_3 a2_4)) else (law07_RegTells.j0 k l0 l1 a3 t210 true a2_0 a2_1 a2_2 a2_3 a2_4)) else (law07_RegTells.j0 k l0 l1 a3 t210 true a2_0 a2_1 a2_2 a2_3 a2_4)) else (law07_RegTells.j0 k l0 l1 a3 t210 true a2_0 a2_1 a2_2 a2_3 a2_4))) = some r := H
 have A7 := Aside0.mk A70
 clear A70
 obtain ⟨y213, hy213⟩ : ∃ y_ : List (S26), y_ = (([(⟨a2_0, a2_1, a2_2, (⟨a2_3, a2_4⟩ : S24)⟩ : S26)] : List (S26))) := ⟨_, rfl⟩
 replace H : ((law07_Few.f k y213).bind fun t216 => (if t210 = true then (if t211 = true then (if t212 = true then (if t216 = true then (law07_RegTells.j0 k l0 l1 a3 t210 (decide ((a3.size : Int) > 100)) a2_0 a2_1 a2_2 a2_3 a2_4) else (law07_RegTells.j0 k l0 l1 a3 t210 true a2_0 a2_1 a2_2 a2_3 a2_4)) else (law07_RegTells.j0 k l0 l1 a3 t210 true a2_0 a2_1 a2_2 a2_3 a2_4)) else (law07_RegTells.j0 k l0 l1 a3 t210 true a2_0 a2_1 a2_2 a2_3 a2_4)) else (law07_RegTells.j0 k l0 l1 a3 t210 true a2_0 a2_1 a2_2 a2_3 a2_4))) = some r := by first | (rw [hy213]; with_reducible exact H) | (have H2_ := (Option.bind_some _ _).symm.trans H; rw [hy213]; with_reducible exact H2_) | (have H2_ := (Option.bind_some _ _).symm.trans H; with_reducible exact H2_) | with_reducible exact H | (rw [hy213]; exact H) | exact H
 have Ny213 := Aside0.mk hy213
 clear hy213
 replace H := Option.bind_eq_some_iff.mp H
 obtain ⟨t216, A80, H⟩ := H
 replace H : (if t210 = true then (if t211 = true then (if t212 = true then (if t216 = true then (law07_RegTells.j0 k l0 l1 a3 t210 (decide ((a3.size : Int) > 100)) a2_0 a2_1 a2_2 a2_3 a2_4) else (law07_RegTells.j0 k l0 l1 a3 t210 true a2_0 a2_1 a2_2 a2_3 a2_4)) else (law07_RegTells.j0 k l0 l1 a3 t210 true a2_0 a2_1 a2_2 a2_3 a2_4)) else (law07_RegTells.j0 k l0 l1 a3 t210 true a2_0 a2_1 a2_2 a2_3 a2_4)) else (law07_RegTells.j0 k l0 l1 a3 t210 true a2_0 a2_1 a2_2 a2_3 a2_4)) = some r := H
 have A8 := Aside0.mk A80
 clear A80
 have HC9 := Aside0.mk H
 clear H
 go_enter Try.func3, Try.ntmps3
 go_upto_region 5 with (first | ((with_reducible refine gate_dst (N := 6) rfl ?_); (try (refine gate_guard (by rfl) ?_; dsimp only)); refine box_event ?hg (N := 6) ?hd (cs := #[.string a2_0, .string a2_1, .int .i64 a2_2, .int .i64 a2_3, .int .i64 a2_4]) (t := 26) ?hr ?_; (case hd => rfl); (case hg => rfl); (case hr => first | (go_simp; done) | (go_simp; rfl)); intro gb209 hg w10 hbox hb; have n0_ := Aside0.mk (below_step (by repeat (first | (with_reducible first | exact HB.out | apply below_alloc | apply pw_below_drewN | apply below_drew1) | exact HB.out)) hb); have n1_ := Aside0.mk (hbox); have n2_ := Aside0.mk ((by rw [hg]; exact (below_size (by repeat (first | (with_reducible first | exact HB.out | apply below_alloc | apply pw_below_drewN | apply below_drew1) | exact HB.out))) : w.heap.size ≤ gb209)); have n3_ := Aside0.mk ((by rw [hg]; exact (below_size (by repeat (first | (with_reducible first | exact HB.out | apply below_alloc | apply pw_below_drewN | apply below_drew1) | exact HB.out))) : w.heap.size ≤ gb209)); clear HB; have HB := n0_; have BK209 := n1_; have GW209 := n2_; have GE209 := n3_; clear n0_ n1_ n2_ n3_; clear hb hbox hg) | ((with_reducible refine gate_callee (f := 20) rfl ?_); refine goesL_ (some 22) rfl rfl Try.func20 (by kernel_rfl) rfl #[] rfl (by (try simp only [List.map_toArray, List.map_cons, List.map_nil]); first | done | rfl | (simp only [List.length_drop, List.length_take]; rfl)) ?_; (with_reducible refine (law07_awake.calls k  t210 _ A5.out).mono ?_); rintro e w11 ⟨rfl, hb⟩; refine ⟨_, rfl, ?_⟩; have n0_ := Aside0.mk (blk_below (g := gb209) (o := .cells #[.string a2_0, .string a2_1, .int .i64 a2_2, .int .i64 a2_3, .int .i64 a2_4] 26 (0, 0)) (by (with_reducible repeat (first | refine blk_drewN ?_ _ | refine blk_drew ?_ | refine blk_alloc ?_ _)); exact BK209.out) hb); have n1_ := Aside0.mk (below_step (by repeat (first | (with_reducible first | exact HB.out | apply below_alloc | apply pw_below_drewN | apply below_drew1 | refine below_set ?_ GE209.out) | exact HB.out)) hb); clear BK209; clear HB; have BK209 := n0_; have HB := n1_; clear n0_ n1_; (try clear hb); (try clear hb2); (try clear hk); (try clear hi)) | ((with_reducible refine gate_callee (f := 21) rfl ?_); refine goesL_ (some 24) rfl rfl Try.func21 (by kernel_rfl) rfl #[.slice A0 l0.length c0] rfl (by (try simp only [List.map_toArray, List.map_cons, List.map_nil]); first | done | rfl | (simp only [List.length_drop, List.length_take]; rfl)) ?_; (with_reducible refine (law07_Few.calls k _ _ l0 t211 _ ?side1 ?side2 A6.out).mono ?_); (case side1 => repeat (first | exact (Kd.C_below HR0.out HB.out) | (with_reducible refine Kd.C_alloc ?_ _) | (with_reducible refine Kd.C_drewN ?_ _) | (with_reducible refine Kd.C_drew ?_))); (case side2 => exact HC0.out); rintro e w' ⟨rfl, ⟨nd, rfl⟩⟩; refine ⟨_, rfl, ?_⟩) | ((with_reducible refine gate_callee (f := 21) rfl ?_); refine goesL_ (some 26) rfl rfl Try.func21 (by kernel_rfl) rfl #[.slice A1 l1.length c1] rfl (by (try simp only [List.map_toArray, List.map_cons, List.map_nil]); first | done | rfl | (simp only [List.length_drop, List.length_take]; rfl)) ?_; (with_reducible refine (law07_Few.calls k _ _ l1 t212 _ ?side1 ?side2 A7.out).mono ?_); (case side1 => repeat (first | exact (Kd.C_below HR1.out (by repeat (first | (with_reducible first | exact HB.out | apply below_alloc | apply pw_below_drewN | apply below_drew1 | refine below_set ?_ GE209.out) | exact HB.out))) | (with_reducible refine Kd.C_alloc ?_ _) | (with_reducible refine Kd.C_drewN ?_ _) | (with_reducible refine Kd.C_drew ?_))); (case side2 => exact HC1.out); rintro e w' ⟨rfl, ⟨nd, rfl⟩⟩; refine ⟨_, rfl, ?_⟩; have hcz12_0 : w11.cell? ⟨gb209, 0, none⟩ = some (.string a2_0) := (blk_cell BK209.out 0).trans rfl; have hcz12_1 : w11.cell? ⟨gb209, 1, none⟩ = some (.string a2_1) := (blk_cell BK209.out 1).trans rfl; have hcz12_2 : w11.cell? ⟨gb209, 2, none⟩ = some (.int .i64 a2_2) := (blk_cell BK209.out 2).trans rfl; have hcz12_3 : w11.cell? ⟨gb209, 3, none⟩ = some (.int .i64 a2_3) := (blk_cell BK209.out 3).trans rfl; have hcz12_4 : w11.cell? ⟨gb209, 4, none⟩ = some (.int .i64 a2_4) := (blk_cell BK209.out 4).trans rfl; have hfz12_0 := blk_frozen BK209.out 0; have hfz12_1 := blk_frozen BK209.out 1; have hfz12_2 := blk_frozen BK209.out 2; have hfz12_3 := blk_frozen BK209.out 3; have hfz12_4 := blk_frozen BK209.out 4) | ((with_reducible refine gate_dst (N := 28) rfl ?_); (try (refine gate_guard (by rfl) ?_; dsimp only)); refine Kd.R_lit k26 _ 26 ?hg (N := 28) ?hd (xs := ([(⟨a2_0, a2_1, a2_2, (⟨a2_3, a2_4⟩ : S24)⟩ : S26)] : List (S26))) (inner := [.string a2_0, .string a2_1, .int .i64 a2_2, .int .i64 a2_3, .int .i64 a2_4]) (ok := fun _ => True) (okp := fun _ => True) ?hr ?hp (fun _ hk => hk) trivial (Below.refl _ _) (Nat.le_refl _) (by simp) ?_; (case hd => rfl); (case hg => rfl); (case hr => first | (go_simp; done) | (go_simp; rfl)); (case hp => exact (Reps.c5 (show Kd.M k26 _ _ _ (⟨a2_0, a2_1, a2_2, (⟨a2_3, a2_4⟩ : S24)⟩ : S26) [.string a2_0, .string a2_1, .int .i64 a2_2, .int .i64 a2_3, .int .i64 a2_4] from (k26_mkM _ _ _ (⟨a2_0, a2_1, a2_2, (⟨a2_3, a2_4⟩ : S24)⟩ : S26) )) (Reps.none _ _))); intro v214 w13 ho14 hb hg_ hnew_; clear hg_ hnew_; (first | rw [← Ny213.out] at ho14 | (simp only [Int.reduceToNat] at ho14; rw [← Ny213.out] at ho14)); have n0_ := Aside0.mk (Kd.R_lower (Kd.R_newB ho14 (g := gb209) (o := .cells #[.string a2_0, .string a2_1, .int .i64 a2_2, .int .i64 a2_3, .int .i64 a2_4] 26 (0, 0)) (by (with_reducible repeat (first | refine blk_drewN ?_ _ | refine blk_drew ?_ | refine blk_alloc ?_ _)); exact BK209.out)) (below_size (by repeat (first | (with_reducible first | exact HB.out | apply below_alloc | apply pw_below_drewN | apply below_drew1 | refine below_set ?_ GE209.out) | exact HB.out)))); have n1_ := Aside0.mk (blk_below (g := gb209) (o := .cells #[.string a2_0, .string a2_1, .int .i64 a2_2, .int .i64 a2_3, .int .i64 a2_4] 26 (0, 0)) (by (with_reducible repeat (first | refine blk_drewN ?_ _ | refine blk_drew ?_ | refine blk_alloc ?_ _)); exact BK209.out) hb); have n2_ := Aside0.mk (below_step (by repeat (first | (with_reducible first | exact HB.out | apply below_alloc | apply pw_below_drewN | apply below_drew1 | refine below_set ?_ GE209.out) | exact HB.out)) hb); clear BK209; clear HB; have HO215 := n0_; have BK209 := n1_; have HB := n2_; clear n0_ n1_ n2_; clear hb ho14; obtain ⟨Ao15, co15, eo15⟩ := Kd.R_slice HO215.out; subst eo15) | ((with_reducible refine gate_callee (f := 21) rfl ?_); refine goesL_ (some 29) rfl rfl Try.func21 (by kernel_rfl) rfl #[.slice Ao15 y213.length co15] rfl (by (try simp only [List.map_toArray, List.map_cons, List.map_nil]); first | done | rfl | (simp only [List.length_drop, List.length_take]; rfl)) ?_; (with_reducible refine (law07_Few.calls k _ _ y213 t216 _ ?side1 ?side2 A8.out).mono ?_); (case side1 => repeat (first | exact (Kd.R_reads' HO215.out).2.2 | (with_reducible refine Kd.C_alloc ?_ _) | (with_reducible refine Kd.C_drewN ?_ _) | (with_reducible refine Kd.C_drew ?_))); (case side2 => exact (Kd.R_reads' HO215.out).2.1); rintro e w' ⟨rfl, ⟨nd, rfl⟩⟩; refine ⟨_, rfl, ?_⟩))
 (try simp only [Act.put, List.setIfInBounds_toArray, List.set_cons_zero, List.set_cons_succ])
 go_cut [48] (fun v48 wc => ∃ (kq : Nat) (x48_8 : Bool), v48 = .bool x48_8 ∧ Aside0 (law07_RegTells.j0 kq l0 l1 a3 t210 x48_8 a2_0 a2_1 a2_2 a2_3 a2_4 = some r) ∧ Aside0 (kq ≤ k) ∧ Aside0 (wc.heap[gb209]? = some (.cells #[.string a2_0, .string a2_1, .int .i64 a2_2, .int .i64 a2_3, .int .i64 a2_4] 26 (0, 0))) ∧ Aside0 (Below w.heap.size w wc))
 case first =>
  have H := HC9.out
  clear HC9
  by_cases c16 : t210 = true
  ·subst c16
   have H1 : (if t211 = true then (if t212 = true then (if t216 = true then (law07_RegTells.j0 k l0 l1 a3 true (decide ((a3.size : Int) > 100)) a2_0 a2_1 a2_2 a2_3 a2_4) else (law07_RegTells.j0 k l0 l1 a3 true true a2_0 a2_1 a2_2 a2_3 a2_4)) else (law07_RegTells.j0 k l0 l1 a3 true true a2_0 a2_1 a2_2 a2_3 a2_4)) else (law07_RegTells.j0 k l0 l1 a3 true true a2_0 a2_1 a2_2 a2_3 a2_4)) = some r := by rw [if_pos rfl] at H; exact H
   clear H
   have H := H1
   clear H1
   by_cases c17 : t211 = true
   ·subst c17
    have H1 : (if t212 = true then (if t216 = true then (law07_RegTells.j0 k l0 l1 a3 true (decide ((a3.size : Int) > 100)) a2_0 a2_1 a2_2 a2_3 a2_4) else (law07_RegTells.j0 k l0 l1 a3 true true a2_0 a2_1 a2_2 a2_3 a2_4)) else (law07_RegTells.j0 k l0 l1 a3 true true a2_0 a2_1 a2_2 a2_3 a2_4)) = some r := by rw [if_pos rfl] at H; exact H
    clear H
    have H := H1
    clear H1
    by_cases c18 : t212 = true
    ·subst c18
     have H1 : (if t216 = true then (law07_RegTells.j0 k l0 l1 a3 true (decide ((a3.size : Int) > 100)) a2_0 a2_1 a2_2 a2_3 a2_4) else (law07_RegTells.j0 k l0 l1 a3 true true a2_0 a2_1 a2_2 a2_3 a2_4)) = some r := by rw [if_pos rfl] at H; exact H
     clear H
     have H := H1
     clear H1
     by_cases c19 : t216 = true
     ·subst c19
      have H1 : (law07_RegTells.j0 k l0 l1 a3 true (decide ((a3.size : Int) > 100)) a2_0 a2_1 a2_2 a2_3 a2_4) = some r := by rw [if_pos rfl] at H; exact H
      clear H
      have H := H1
      clear H1
      have H' := Aside0.mk H
      clear H
      go_wp2
      go_meet
      case rel => exact ⟨_, (decide ((a3.size : Int) > 100)), (by first | rfl | (simp; done) | (simp [*]; done)), H', ⟨by first | omega | exact Nat.le_refl _⟩, ⟨by (with_reducible repeat (first | refine blk_drewN ?_ _ | refine blk_drew ?_ | refine blk_alloc ?_ _)); exact BK209.out⟩, ⟨by repeat (first | (with_reducible first | exact HB.out | apply below_alloc | apply pw_below_drewN | apply below_drew1 | refine below_set ?_ GE209.out) | exact HB.out)⟩⟩
     ·replace c19 := Bool.eq_false_iff.mpr c19
      subst c19
      have H1 : (law07_RegTells.j0 k l0 l1 a3 true true a2_0 a2_1 a2_2 a2_3 a2_4) = some r := by rw [if_neg (show ¬ (false = true) by decide)] at H; exact H
      clear H
      have H := H1
      clear H1
      have H' := Aside0.mk H
      clear H
      go_wp2
      go_meet
      case rel => exact ⟨_, (true), (by first | rfl | (simp; done) | (simp [*]; done)), H', ⟨by first | omega | exact Nat.le_refl _⟩, ⟨by (with_reducible repeat (first | refine blk_drewN ?_ _ | refine blk_drew ?_ | refine blk_alloc ?_ _)); exact BK209.out⟩, ⟨by repeat (first | (with_reducible first | exact HB.out | apply below_alloc | apply pw_below_drewN | apply below_drew1 | refine below_set ?_ GE209.out) | exact HB.out)⟩⟩
    ·replace c18 := Bool.eq_false_iff.mpr c18
     subst c18
     have H1 : (law07_RegTells.j0 k l0 l1 a3 true true a2_0 a2_1 a2_2 a2_3 a2_4) = some r := by rw [if_neg (show ¬ (false = true) by decide)] at H; exact H
     clear H
     have H := H1
     clear H1
     have H' := Aside0.mk H
     clear H
     go_wp2
     go_meet
     case rel => exact ⟨_, (true), (by first | rfl | (simp; done) | (simp [*]; done)), H', ⟨by first | omega | exact Nat.le_refl _⟩, ⟨by (with_reducible repeat (first | refine blk_drewN ?_ _ | refine blk_drew ?_ | refine blk_alloc ?_ _)); exact BK209.out⟩, ⟨by repeat (first | (with_reducible first | exact HB.out | apply below_alloc | apply pw_below_drewN | apply below_drew1 | refine below_set ?_ GE209.out) | exact HB.out)⟩⟩
   ·replace c17 := Bool.eq_false_iff.mpr c17
    subst c17
    have H1 : (law07_RegTells.j0 k l0 l1 a3 true true a2_0 a2_1 a2_2 a2_3 a2_4) = some r := by rw [if_neg (show ¬ (false = true) by decide)] at H; exact H
    clear H
    have H := H1
    clear H1
    have H' := Aside0.mk H
    clear H
    go_wp2
    go_meet
    case rel => exact ⟨_, (true), (by first | rfl | (simp; done) | (simp [*]; done)), H', ⟨by first | omega | exact Nat.le_refl _⟩, ⟨by (with_reducible repeat (first | refine blk_drewN ?_ _ | refine blk_drew ?_ | refine blk_alloc ?_ _)); exact BK209.out⟩, ⟨by repeat (first | (with_reducible first | exact HB.out | apply below_alloc | apply pw_below_drewN | apply below_drew1 | refine below_set ?_ GE209.out) | exact HB.out)⟩⟩
  ·replace c16 := Bool.eq_false_iff.mpr c16
   subst c16
   have H1 : (law07_RegTells.j0 k l0 l1 a3 false true a2_0 a2_1 a2_2 a2_3 a2_4) = some r := by rw [if_neg (show ¬ (false = true) by decide)] at H; exact H
   clear H
   have H := H1
   clear H1
   have H' := Aside0.mk H
   clear H
   go_wp2
   go_meet
   case rel => exact ⟨_, (true), (by first | rfl | (simp; done) | (simp [*]; done)), H', ⟨by first | omega | exact Nat.le_refl _⟩, ⟨by (with_reducible repeat (first | refine blk_drewN ?_ _ | refine blk_drew ?_ | refine blk_alloc ?_ _)); exact BK209.out⟩, ⟨by repeat (first | (with_reducible first | exact HB.out | apply below_alloc | apply pw_below_drewN | apply below_drew1 | refine below_set ?_ GE209.out) | exact HB.out)⟩⟩
 case rest =>
  clear HC9
  try clear c1
  try clear c2
  try clear p2
  try clear c3
  try clear c5
  try clear c16
  try clear c17
  try clear c18
  try clear c19
  try clear hcz12_0
  try clear hcz12_1
  try clear hcz12_2
  try clear hcz12_3
  try clear hcz12_4
  try clear hfz12_0
  try clear hfz12_1
  try clear hfz12_2
  try clear hfz12_3
  try clear hfz12_4
  obtain ⟨kq, x48_8, rfl, HA, HJ8, BK209, HB⟩ := hcut
  cases kq with
  | zero => exact absurd HA.out (by simp [law07_RegTells.j0])
  | succ kj8 =>
   have H := HA.out
   clear HA
   simp only [law07_RegTells.j0] at H
   by_cases c20 : x48_8 = true
   ·subst c20
    have H1 : (some t210) = some r := by rw [if_pos rfl] at H; exact H
    clear H
    have H := H1
    clear H1
    obtain rfl := Option.some.inj H
    go_wp2
    go_ret
    exact ⟨by first | rfl | (simp [errW_none, errW_some] <;> rfl) | (simp [*, errW_none, errW_some] <;> rfl), by repeat (first | (with_reducible first | exact HB.out | apply below_alloc | apply pw_below_drewN | apply below_drew1 | refine below_set ?_ GE209.out) | exact HB.out)⟩
   ·replace c20 := Bool.eq_false_iff.mpr c20
    subst c20
    have H1 : ((ref07_May.f kj8 l0).bind fun t217 => ((reg_Put.f kj8 l0 a2_0 a2_1 a2_2 a2_3 a2_4).bind fun t218 => ((ref07_Put.f kj8 l0 a2_0 a2_1 a2_2 a2_3 a2_4).bind fun t221 => ((ref07_Same.f kj8 t218 t221).bind fun t224 => ((reg_Merge.f kj8 l0 l1).bind fun t225 => ((ref07_Merge.f kj8 l0 l1).bind fun t228 => ((ref07_Same.f kj8 t225 t228).bind fun t231 => ((reg_Get.f l0 a3).bind fun bt232 => ((ref07_Get.f kj8 l0 a3).bind fun bt239 => (law07_RegTells.l0 kj8 l0 t217 t224 t231 bt232.2.2.2.2.2 bt239.2.2.2.2.2 0 a2_0 a2_1 a2_2 a2_3 a2_4 bt232.1 bt232.2.1 bt232.2.2.1 bt232.2.2.2.1 bt232.2.2.2.2.1 bt239.1 bt239.2.1 bt239.2.2.1 bt239.2.2.2.1 bt239.2.2.2.2.1)))))))))) = some r := by rw [if_neg (show ¬ (false = true) by decide)] at H; exact H
    clear H
    have H := H1
    clear H1
    replace H := Option.bind_eq_some_iff.mp H
    obtain ⟨t217, A210, H⟩ := H
    replace H : ((reg_Put.f kj8 l0 a2_0 a2_1 a2_2 a2_3 a2_4).bind fun t218 => ((ref07_Put.f kj8 l0 a2_0 a2_1 a2_2 a2_3 a2_4).bind fun t221 => ((ref07_Same.f kj8 t218 t221).bind fun t224 => ((reg_Merge.f kj8 l0 l1).bind fun t225 => ((ref07_Merge.f kj8 l0 l1).bind fun t228 => ((ref07_Same.f kj8 t225 t228).bind fun t231 => ((reg_Get.f l0 a3).bind fun bt232 => ((ref07_Get.f kj8 l0 a3).bind fun bt239 => (law07_RegTells.l0 kj8 l0 t217 t224 t231 bt232.2.2.2.2.2 bt239.2.2.2.2.2 0 a2_0 a2_1 a2_2 a2_3 a2_4 bt232.1 bt232.2.1 bt232.2.2.1 bt232.2.2.2.1 bt232.2.2.2.2.1 bt239.1 bt239.2.1 bt239.2.2.1 bt239.2.2.2.1 bt239.2.2.2.2.1))))))))) = some r := H
    have A21 := Aside0.mk A210
    clear A210
    replace H := Option.bind_eq_some_iff.mp H
    obtain ⟨t218, A220, H⟩ := H
    replace H : ((ref07_Put.f kj8 l0 a2_0 a2_1 a2_2 a2_3 a2_4).bind fun t221 => ((ref07_Same.f kj8 t218 t221).bind fun t224 => ((reg_Merge.f kj8 l0 l1).bind fun t225 => ((ref07_Merge.f kj8 l0 l1).bind fun t228 => ((ref07_Same.f kj8 t225 t228).bind fun t231 => ((reg_Get.f l0 a3).bind fun bt232 => ((ref07_Get.f kj8 l0 a3).bind fun bt239 => (law07_RegTells.l0 kj8 l0 t217 t224 t231 bt232.2.2.2.2.2 bt239.2.2.2.2.2 0 a2_0 a2_1 a2_2 a2_3 a2_4 bt232.1 bt232.2.1 bt232.2.2.1 bt232.2.2.2.1 bt232.2.2.2.2.1 bt239.1 bt239.2.1 bt239.2.2.1 bt239.2.2.2.1 bt239.2.2.2.2.1)))))))) = some r := H
    have A22 := Aside0.mk A220
    clear A220
    replace H := Option.bind_eq_some_iff.mp H
    obtain ⟨t221, A230, H⟩ := H
    replace H : ((ref07_Same.f kj8 t218 t221).bind fun t224 => ((reg_Merge.f kj8 l0 l1).bind fun t225 => ((ref07_Merge.f kj8 l0 l1).bind fun t228 => ((ref07_Same.f kj8 t225 t228).bind fun t231 => ((reg_Get.f l0 a3).bind fun bt232 => ((ref07_Get.f kj8 l0 a3).bind fun bt239 => (law07_RegTells.l0 kj8 l0 t217 t224 t231 bt232.2.2.2.2.2 bt239.2.2.2.2.2 0 a2_0 a2_1 a2_2 a2_3 a2_4 bt232.1 bt232.2.1 bt232.2.2.1 bt232.2.2.2.1 bt232.2.2.2.2.1 bt239.1 bt239.2.1 bt239.2.2.1 bt239.2.2.2.1 bt239.2.2.2.2.1))))))) = some r := H
    have A23 := Aside0.mk A230
    clear A230
    replace H := Option.bind_eq_some_iff.mp H
    obtain ⟨t224, A240, H⟩ := H
    replace H : ((reg_Merge.f kj8 l0 l1).bind fun t225 => ((ref07_Merge.f kj8 l0 l1).bind fun t228 => ((ref07_Same.f kj8 t225 t228).bind fun t231 => ((reg_Get.f l0 a3).bind fun bt232 => ((ref07_Get.f kj8 l0 a3).bind fun bt239 => (law07_RegTells.l0 kj8 l0 t217 t224 t231 bt232.2.2.2.2.2 bt239.2.2.2.2.2 0 a2_0 a2_1 a2_2 a2_3 a2_4 bt232.1 bt232.2.1 bt232.2.2.1 bt232.2.2.2.1 bt232.2.2.2.2.1 bt239.1 bt239.2.1 bt239.2.2.1 bt239.2.2.2.1 bt239.2.2.2.2.1)))))) = some r := H
    have A24 := Aside0.mk A240
    clear A240
    replace H := Option.bind_eq_some_iff.mp H
    obtain ⟨t225, A250, H⟩ := H
    replace H : ((ref07_Merge.f kj8 l0 l1).bind fun t228 => ((ref07_Same.f kj8 t225 t228).bind fun t231 => ((reg_Get.f l0 a3).bind fun bt232 => ((ref07_Get.f kj8 l0 a3).bind fun bt239 => (law07_RegTells.l0 kj8 l0 t217 t224 t231 bt232.2.2.2.2.2 bt239.2.2.2.2.2 0 a2_0 a2_1 a2_2 a2_3 a2_4 bt232.1 bt232.2.1 bt232.2.2.1 bt232.2.2.2.1 bt232.2.2.2.2.1 bt239.1 bt239.2.1 bt239.2.2.1 bt239.2.2.2.1 bt239.2.2.2.2.1))))) = some r := H
    have A25 := Aside0.mk A250
    clear A250
    replace H := Option.bind_eq_some_iff.mp H
    obtain ⟨t228, A260, H⟩ := H
    replace H : ((ref07_Same.f kj8 t225 t228).bind fun t231 => ((reg_Get.f l0 a3).bind fun bt232 => ((ref07_Get.f kj8 l0 a3).bind fun bt239 => (law07_RegTells.l0 kj8 l0 t217 t224 t231 bt232.2.2.2.2.2 bt239.2.2.2.2.2 0 a2_0 a2_1 a2_2 a2_3 a2_4 bt232.1 bt232.2.1 bt232.2.2.1 bt232.2.2.2.1 bt232.2.2.2.2.1 bt239.1 bt239.2.1 bt239.2.2.1 bt239.2.2.2.1 bt239.2.2.2.2.1)))) = some r := H
    have A26 := Aside0.mk A260
    clear A260
    replace H := Option.bind_eq_some_iff.mp H
    obtain ⟨t231, A270, H⟩ := H
    replace H : ((reg_Get.f l0 a3).bind fun bt232 => ((ref07_Get.f kj8 l0 a3).bind fun bt239 => (law07_RegTells.l0 kj8 l0 t217 t224 t231 bt232.2.2.2.2.2 bt239.2.2.2.2.2 0 a2_0 a2_1 a2_2 a2_3 a2_4 bt232.1 bt232.2.1 bt232.2.2.1 bt232.2.2.2.1 bt232.2.2.2.2.1 bt239.1 bt239.2.1 bt239.2.2.1 bt239.2.2.2.1 bt239.2.2.2.2.1))) = some r := H
    have A27 := Aside0.mk A270
    clear A270
    replace H := Option.bind_eq_some_iff.mp H
    obtain ⟨⟨t232, t233, t234, t235, t236, t237⟩, A280, H⟩ := H
    replace H : ((ref07_Get.f kj8 l0 a3).bind fun bt239 => (law07_RegTells.l0 kj8 l0 t217 t224 t231 t237 bt239.2.2.2.2.2 0 a2_0 a2_1 a2_2 a2_3 a2_4 t232 t233 t234 t235 t236 bt239.1 bt239.2.1 bt239.2.2.1 bt239.2.2.2.1 bt239.2.2.2.2.1)) = some r := H
    have A28 := Aside0.mk A280
    clear A280
    replace H := Option.bind_eq_some_iff.mp H
    obtain ⟨⟨t239, t240, t241, t242, t243, t244⟩, A290, H⟩ := H
    replace H : (law07_RegTells.l0 kj8 l0 t217 t224 t231 t237 t244 0 a2_0 a2_1 a2_2 a2_3 a2_4 t232 t233 t234 t235 t236 t239 t240 t241 t242 t243) = some r := H
    have A29 := Aside0.mk A290
    clear A290
    have H' := Aside0.mk H
    clear H
    try go_wp2_with (first | ((with_reducible refine gate_callee (f := 22) rfl ?_); refine goesL_ (some 51) rfl rfl Try.func22 (by kernel_rfl) rfl #[.slice A0 l0.length c0] rfl (by (try simp only [List.map_toArray, List.map_cons, List.map_nil]); first | done | rfl | (simp only [List.length_drop, List.length_take]; rfl)) ?_; (with_reducible refine (ref07_May.calls kj8 _ _ l0 t217 _ ?side1 ?side2 A21.out).mono ?_); (case side1 => repeat (first | exact (Kd.C_below HR0.out HB.out) | (with_reducible refine Kd.C_alloc ?_ _) | (with_reducible refine Kd.C_drewN ?_ _) | (with_reducible refine Kd.C_drew ?_))); (case side2 => exact HC0.out); rintro e w30 ⟨rfl, hb⟩; refine ⟨_, rfl, ?_⟩; have n0_ := Aside0.mk (blk_below (g := gb209) (o := .cells #[.string a2_0, .string a2_1, .int .i64 a2_2, .int .i64 a2_3, .int .i64 a2_4] 26 (0, 0)) (by (with_reducible repeat (first | refine blk_drewN ?_ _ | refine blk_drew ?_ | refine blk_alloc ?_ _)); exact BK209.out) hb); have n1_ := Aside0.mk (below_step (by repeat (first | (with_reducible first | exact HB.out | apply below_alloc | apply pw_below_drewN | apply below_drew1 | refine below_set ?_ GE209.out) | exact HB.out)) hb); clear BK209; clear HB; have BK209 := n0_; have HB := n1_; clear n0_ n1_; (try clear hb); (try clear hb2); (try clear hk); (try clear hi)))
    have n0_ := Aside0.mk (blk_drew BK209.out)
    have n1_ := Aside0.mk (below_drew1 HB.out)
    clear BK209
    clear HB
    have BK209 := n0_
    have HB := n1_
    clear n0_ n1_
    refine start_ (n := 8) (S := fun w' => w'.cell? ⟨gb209, 0, none⟩ = some (.string a2_0) ∧ w'.cell? ⟨gb209, 1, none⟩ = some (.string a2_1) ∧ w'.cell? ⟨gb209, 2, none⟩ = some (.int .i64 a2_2) ∧ w'.cell? ⟨gb209, 3, none⟩ = some (.int .i64 a2_3) ∧ w'.cell? ⟨gb209, 4, none⟩ = some (.int .i64 a2_4)) (ds := []) #[false,false,false,false,false,false,false,false] (by kernel_rfl) rfl rfl ⟨(blk_cell BK209.out 0).trans rfl, (blk_cell BK209.out 1).trans rfl, (blk_cell BK209.out 2).trans rfl, (blk_cell BK209.out 3).trans rfl, (blk_cell BK209.out 4).trans rfl⟩ (fun hHeld => ?_); refine with_tabW law07_RegTells.tab8 law07_RegTells.bits8 (fun HT_ HW_ => ?_)
    generalize w30.drew = w31 at BK209 HB hHeld ⊢
    refine pure_ (i := 0) (N := some 52) (v := ?_) (a' := ?_) #[true,false,false,false,false,false,false,false] rfl rfl (any_of HT_.out (by kernel_rfl)) (fun _ _ _ h => h) (Or.inl ⟨by rfl, ?_⟩) ?_ ?_
    rotate_left
    ·intro w'
     go_simp
     with_reducible rfl
    rotate_left
    ·simp only [Act.put, List.setIfInBounds_toArray, List.set_cons_zero, List.set_cons_succ, i64_w, i32_w]
     rfl
    refine pure_ (i := 3) (N := some 55) (v := ?_) (a' := ?_) #[true,false,false,true,false,false,false,false] rfl rfl (any_of HT_.out (by kernel_rfl)) (fun _ _ _ h => h) (Or.inl ⟨by rfl, ?_⟩) ?_ ?_
    rotate_left
    ·intro w'
     go_simp
     with_reducible rfl
    rotate_left
    ·simp only [Act.put, List.setIfInBounds_toArray, List.set_cons_zero, List.set_cons_succ, i64_w, i32_w]
     rfl
    refine take_ (i := 1) (N := some 53) (v := ?_) (a' := ?_) #[true,true,false,true,false,false,false,false] rfl rfl (take_ofW HT_.out HW_.out (by kernel_rfl)) (fun _ _ _ h => h) (Or.inl ⟨by rfl, ?_⟩) hHeld ?_ ?_
    rotate_left
    ·rintro w' ⟨s0, s1, s2, s3, s4⟩
     go_simp
     with_reducible rfl
    rotate_left
    ·simp only [Act.put, List.setIfInBounds_toArray, List.set_cons_zero, List.set_cons_succ, i64_w, i32_w]
     rfl
    refine take_ (i := 4) (N := some 56) (v := ?_) (a' := ?_) #[true,true,false,true,true,false,false,false] rfl rfl (take_ofW HT_.out HW_.out (by kernel_rfl)) (fun _ _ _ h => h) (Or.inl ⟨by rfl, ?_⟩) hHeld ?_ ?_
    rotate_left
    ·rintro w' ⟨s0, s1, s2, s3, s4⟩
     go_simp
     with_reducible rfl
    rotate_left
    ·simp only [Act.put, List.setIfInBounds_toArray, List.set_cons_zero, List.set_cons_succ, i64_w, i32_w]
     rfl
    refine one_ (i := 2) (N := some 54) #[true,true,true,true,true,false,false,false] rfl rfl (one_of HT_.out (by kernel_rfl)) (by decide) (fun K hK => ?_)
    refine goes_ Try.func24 (by kernel_rfl) rfl #[.slice A0 l0.length c0, .agg #[.string a2_0, .string a2_1, .int .i64 a2_2, .int .i64 a2_3, .int .i64 a2_4]] (by rfl) rfl rfl (by (try simp only [List.map_toArray, List.map_cons, List.map_nil]); first | done | rfl | (simp only [List.length_drop, List.length_take]; rfl)) ?_
    with_reducible refine (reg_Put.calls kj8 _ _ l0 a2_0 a2_1 a2_2 a2_3 a2_4 t218 _ ?side1 ?side2 A22.out).mono ?_
    (case side1 => repeat (first | exact (Kd.C_below HR0.out HB.out) | (with_reducible refine Kd.C_alloc ?_ _) | (with_reducible refine Kd.C_drewN ?_ _) | (with_reducible refine Kd.C_drew ?_)))
    (case side2 => exact HC0.out)
    rintro e w32 ⟨v219, rfl, ho0, hb⟩
    refine ⟨_, rfl, ?_⟩
    have n0_ := Aside0.mk (Kd.R_lower (Kd.R_newB ho0 (g := gb209) (o := .cells #[.string a2_0, .string a2_1, .int .i64 a2_2, .int .i64 a2_3, .int .i64 a2_4] 26 (0, 0)) (by (with_reducible repeat (first | refine blk_drewN ?_ _ | refine blk_drew ?_ | refine blk_alloc ?_ _)); exact BK209.out)) (below_size (by repeat (first | (with_reducible first | exact HB.out | apply below_alloc | apply pw_below_drewN | apply below_drew1 | refine below_set ?_ GE209.out) | exact HB.out))))
    have n1_ := Aside0.mk (blk_below (g := gb209) (o := .cells #[.string a2_0, .string a2_1, .int .i64 a2_2, .int .i64 a2_3, .int .i64 a2_4] 26 (0, 0)) (by (with_reducible repeat (first | refine blk_drewN ?_ _ | refine blk_drew ?_ | refine blk_alloc ?_ _)); exact BK209.out) hb)
    have n2_ := Aside0.mk (below_step (by repeat (first | (with_reducible first | exact HB.out | apply below_alloc | apply pw_below_drewN | apply below_drew1 | refine below_set ?_ GE209.out) | exact HB.out)) hb)
    clear BK209
    clear HB
    have HO220 := n0_
    have BK209 := n1_
    have HB := n2_
    clear n0_ n1_ n2_
    (try clear hb)
    (try clear hb2)
    (try clear hk)
    (try clear hi)
    (try clear ho0)
    refine hK.out _ _ ⟨(blk_cell BK209.out 0).trans rfl, (blk_cell BK209.out 1).trans rfl, (blk_cell BK209.out 2).trans rfl, (blk_cell BK209.out 3).trans rfl, (blk_cell BK209.out 4).trans rfl⟩ (fun hHeld => ?_)
    clear hK K
    refine norm_ (a' := ?_) ?_ ?_
    rotate_left
    ·show Act.put _ (some 54) _ = _
     simp only [Act.put, List.setIfInBounds_toArray, List.set_cons_zero, List.set_cons_succ, i64_w, i32_w]
     rfl
    refine one_ (i := 5) (N := some 57) #[true,true,true,true,true,true,false,false] rfl rfl (one_of HT_.out (by kernel_rfl)) (by decide) (fun K hK => ?_)
    refine goes_ Try.func25 (by kernel_rfl) rfl #[.slice A0 l0.length c0, .agg #[.string a2_0, .string a2_1, .int .i64 a2_2, .int .i64 a2_3, .int .i64 a2_4]] (by rfl) rfl rfl (by (try simp only [List.map_toArray, List.map_cons, List.map_nil]); first | done | rfl | (simp only [List.length_drop, List.length_take]; rfl)) ?_
    with_reducible refine (ref07_Put.calls kj8 _ _ l0 a2_0 a2_1 a2_2 a2_3 a2_4 t221 _ ?side1 ?side2 A23.out).mono ?_
    (case side1 => repeat (first | exact (Kd.C_below HR0.out HB.out) | (with_reducible refine Kd.C_alloc ?_ _) | (with_reducible refine Kd.C_drewN ?_ _) | (with_reducible refine Kd.C_drew ?_)))
    (case side2 => exact HC0.out)
    rintro e w33 ⟨v222, rfl, ho0, hb⟩
    refine ⟨_, rfl, ?_⟩
    have n0_ := Aside0.mk (Kd.R_elder' (by (with_reducible repeat (first | apply Kd.R_alloc | apply Kd.R_drewN | apply Kd.R_drew)); exact HO220.out) (Kd.R_base ho0) hb)
    have n1_ := Aside0.mk (Kd.R_lower (Kd.R_newB (Kd.R_new' ho0 (Kd.R_lt (by (with_reducible repeat (first | apply Kd.R_alloc | apply Kd.R_drewN | apply Kd.R_drew)); exact HO220.out))) (g := gb209) (o := .cells #[.string a2_0, .string a2_1, .int .i64 a2_2, .int .i64 a2_3, .int .i64 a2_4] 26 (0, 0)) (by (with_reducible repeat (first | refine blk_drewN ?_ _ | refine blk_drew ?_ | refine blk_alloc ?_ _)); exact BK209.out)) (below_size (by repeat (first | (with_reducible first | exact HB.out | apply below_alloc | apply pw_below_drewN | apply below_drew1 | refine below_set ?_ GE209.out) | exact HB.out))))
    have n2_ := Aside0.mk (blk_below (g := gb209) (o := .cells #[.string a2_0, .string a2_1, .int .i64 a2_2, .int .i64 a2_3, .int .i64 a2_4] 26 (0, 0)) (by (with_reducible repeat (first | refine blk_drewN ?_ _ | refine blk_drew ?_ | refine blk_alloc ?_ _)); exact BK209.out) hb)
    have n3_ := Aside0.mk (below_step (by repeat (first | (with_reducible first | exact HB.out | apply below_alloc | apply pw_below_drewN | apply below_drew1 | refine below_set ?_ GE209.out) | exact HB.out)) hb)
    clear HO220
    clear BK209
    clear HB
    have HO220 := n0_
    have HO223 := n1_
    have BK209 := n2_
    have HB := n3_
    clear n0_ n1_ n2_ n3_
    (try clear hb)
    (try clear hb2)
    (try clear hk)
    (try clear hi)
    (try clear ho0)
    obtain ⟨Ao34, co34, eo34⟩ := Kd.R_slice HO220.out
    (first | subst eo34 | (injection eo34 with f1_ f2_ f3_; have f4_ := f1_.symm; have f5_ := f3_.symm; clear f1_ f2_ f3_; subst f4_; subst f5_))
    obtain ⟨Ao35, co35, eo35⟩ := Kd.R_slice HO223.out
    (first | subst eo35 | (injection eo35 with f1_ f2_ f3_; have f4_ := f1_.symm; have f5_ := f3_.symm; clear f1_ f2_ f3_; subst f4_; subst f5_))
    refine hK.out _ _ ⟨(blk_cell BK209.out 0).trans rfl, (blk_cell BK209.out 1).trans rfl, (blk_cell BK209.out 2).trans rfl, (blk_cell BK209.out 3).trans rfl, (blk_cell BK209.out 4).trans rfl⟩ (fun hHeld => ?_)
    clear hK K
    refine norm_ (a' := ?_) ?_ ?_
    rotate_left
    ·show Act.put _ (some 57) _ = _
     simp only [Act.put, List.setIfInBounds_toArray, List.set_cons_zero, List.set_cons_succ, i64_w, i32_w]
     rfl
    refine one_ (i := 6) (N := some 58) #[true,true,true,true,true,true,true,false] rfl rfl (one_of HT_.out (by kernel_rfl)) (by decide) (fun K hK => ?_)
    refine goes_ Try.func23 (by kernel_rfl) rfl #[.slice Ao34 t218.length co34, .slice Ao35 t221.length co35] (by rfl) rfl rfl (by (try simp only [List.map_toArray, List.map_cons, List.map_nil]); first | done | rfl | (simp only [List.length_drop, List.length_take]; rfl)) ?_
    with_reducible refine (ref07_Same.calls kj8 _ _ t218 _ _ t221 t224 _ ?side1 ?side2 ?side3 ?side4 A24.out).mono ?_
    (case side1 => repeat (first | exact (Kd.R_reads' HO220.out).2.2 | (with_reducible refine Kd.C_alloc ?_ _) | (with_reducible refine Kd.C_drewN ?_ _) | (with_reducible refine Kd.C_drew ?_)))
    (case side2 => exact (Kd.R_reads' HO220.out).2.1)
    (case side3 => repeat (first | exact (Kd.R_reads' HO223.out).2.2 | (with_reducible refine Kd.C_alloc ?_ _) | (with_reducible refine Kd.C_drewN ?_ _) | (with_reducible refine Kd.C_drew ?_)))
    (case side4 => exact (Kd.R_reads' HO223.out).2.1)
    rintro e w' ⟨rfl, ⟨nd, rfl⟩⟩
    refine ⟨_, rfl, ?_⟩
    refine hK.out _ _ ⟨(blk_cell BK209.out 0).trans rfl, (blk_cell BK209.out 1).trans rfl, (blk_cell BK209.out 2).trans rfl, (blk_cell BK209.out 3).trans rfl, (blk_cell BK209.out 4).trans rfl⟩ (fun hHeld => ?_)
    clear hK K
    refine norm_ (a' := ?_) ?_ ?_
    rotate_left
    ·show Act.put _ (some 58) _ = _
     simp only [Act.put, List.setIfInBounds_toArray, List.set_cons_zero, List.set_cons_succ, i64_w, i32_w]
     rfl
    refine pure_ (i := 7) (N := some 14) (v := ?_) (a' := ?_) #[true,true,true,true,true,true,true,true] rfl rfl (any_of HT_.out (by kernel_rfl)) (fun _ _ _ h => h) (Or.inl ⟨by rfl, ?_⟩) ?_ ?_
    rotate_left
    ·intro w'
     go_simp
     with_reducible rfl
    rotate_left
    ·simp only [Act.put, List.setIfInBounds_toArray, List.set_cons_zero, List.set_cons_succ, i64_w, i32_w]
     rfl
    refine done_ (done_of HT_.out (by kernel_rfl)) ?_
    try go_wp2_with (first | ((with_reducible refine gate_callee (f := 26) rfl ?_); refine goesL_ (some 61) rfl rfl Try.func26 (by kernel_rfl) rfl #[.slice A0 l0.length c0, .slice A1 l1.length c1] rfl (by (try simp only [List.map_toArray, List.map_cons, List.map_nil]); first | done | rfl | (simp only [List.length_drop, List.length_take]; rfl)) ?_; (with_reducible refine (reg_Merge.calls kj8 _ _ l0 _ _ l1 t225 _ ?side1 ?side2 ?side3 ?side4 A25.out).mono ?_); (case side1 => repeat (first | exact (Kd.C_below HR0.out (by repeat (first | (with_reducible first | exact HB.out | apply below_alloc | apply pw_below_drewN | apply below_drew1 | refine below_set ?_ GE209.out) | exact HB.out))) | (with_reducible refine Kd.C_alloc ?_ _) | (with_reducible refine Kd.C_drewN ?_ _) | (with_reducible refine Kd.C_drew ?_))); (case side2 => exact HC0.out); (case side3 => repeat (first | exact (Kd.C_below HR1.out (by repeat (first | (with_reducible first | exact HB.out | apply below_alloc | apply pw_below_drewN | apply below_drew1 | refine below_set ?_ GE209.out) | exact HB.out))) | (with_reducible refine Kd.C_alloc ?_ _) | (with_reducible refine Kd.C_drewN ?_ _) | (with_reducible refine Kd.C_drew ?_))); (case side4 => exact HC1.out); rintro e w36 ⟨v226, rfl, ho0, hb⟩; refine ⟨_, rfl, ?_⟩; have n0_ := Aside0.mk (Kd.R_elder' (by (with_reducible repeat (first | apply Kd.R_alloc | apply Kd.R_drewN | apply Kd.R_drew)); exact HO220.out) (Kd.R_base ho0) hb); have n1_ := Aside0.mk (Kd.R_elder' (by (with_reducible repeat (first | apply Kd.R_alloc | apply Kd.R_drewN | apply Kd.R_drew)); exact HO223.out) (Kd.R_base ho0) hb); have n2_ := Aside0.mk (Kd.R_lower (Kd.R_newB (Kd.R_new' (Kd.R_new' ho0 (Kd.R_lt (by (with_reducible repeat (first | apply Kd.R_alloc | apply Kd.R_drewN | apply Kd.R_drew)); exact HO220.out))) (Kd.R_lt (by (with_reducible repeat (first | apply Kd.R_alloc | apply Kd.R_drewN | apply Kd.R_drew)); exact HO223.out))) (g := gb209) (o := .cells #[.string a2_0, .string a2_1, .int .i64 a2_2, .int .i64 a2_3, .int .i64 a2_4] 26 (0, 0)) (by (with_reducible repeat (first | refine blk_drewN ?_ _ | refine blk_drew ?_ | refine blk_alloc ?_ _)); exact BK209.out)) (below_size (by repeat (first | (with_reducible first | exact HB.out | apply below_alloc | apply pw_below_drewN | apply below_drew1 | refine below_set ?_ GE209.out) | exact HB.out)))); have n3_ := Aside0.mk (blk_below (g := gb209) (o := .cells #[.string a2_0, .string a2_1, .int .i64 a2_2, .int .i64 a2_3, .int .i64 a2_4] 26 (0, 0)) (by (with_reducible repeat (first | refine blk_drewN ?_ _ | refine blk_drew ?_ | refine blk_alloc ?_ _)); exact BK209.out) hb); have n4_ := Aside0.mk (below_step (by repeat (first | (with_reducible first | exact HB.out | apply below_alloc | apply pw_below_drewN | apply below_drew1 | refine below_set ?_ GE209.out) | exact HB.out)) hb); clear HO220; clear HO223; clear BK209; clear HB; have HO220 := n0_; have HO223 := n1_; have HO227 := n2_; have BK209 := n3_; have HB := n4_; clear n0_ n1_ n2_ n3_ n4_; (try clear hb); (try clear hb2); (try clear hk); (try clear hi); (try clear ho0)) | ((with_reducible refine gate_callee (f := 27) rfl ?_); refine goesL_ (some 64) rfl rfl Try.func27 (by kernel_rfl) rfl #[.slice A0 l0.length c0, .slice A1 l1.length c1] rfl (by (try simp only [List.map_toArray, List.map_cons, List.map_nil]); first | done | rfl | (simp only [List.length_drop, List.length_take]; rfl)) ?_; (with_reducible refine (ref07_Merge.calls kj8 _ _ l0 _ _ l1 t228 _ ?side1 ?side2 ?side3 ?side4 A26.out).mono ?_); (case side1 => repeat (first | exact (Kd.C_below HR0.out HB.out) | (with_reducible refine Kd.C_alloc ?_ _) | (with_reducible refine Kd.C_drewN ?_ _) | (with_reducible refine Kd.C_drew ?_))); (case side2 => exact HC0.out); (case side3 => repeat (first | exact (Kd.C_below HR1.out HB.out) | (with_reducible refine Kd.C_alloc ?_ _) | (with_reducible refine Kd.C_drewN ?_ _) | (with_reducible refine Kd.C_drew ?_))); (case side4 => exact HC1.out); rintro e w37 ⟨v229, rfl, ho0, hb⟩; refine ⟨_, rfl, ?_⟩; have n0_ := Aside0.mk (Kd.R_elder' (by (with_reducible repeat (first | apply Kd.R_alloc | apply Kd.R_drewN | apply Kd.R_drew)); exact HO220.out) (Kd.R_base ho0) hb); have n1_ := Aside0.mk (Kd.R_elder' (by (with_reducible repeat (first | apply Kd.R_alloc | apply Kd.R_drewN | apply Kd.R_drew)); exact HO223.out) (Kd.R_base ho0) hb); have n2_ := Aside0.mk (Kd.R_elder' (by (with_reducible repeat (first | apply Kd.R_alloc | apply Kd.R_drewN | apply Kd.R_drew)); exact HO227.out) (Kd.R_base ho0) hb); have n3_ := Aside0.mk (Kd.R_lower (Kd.R_newB (Kd.R_new' (Kd.R_new' (Kd.R_new' ho0 (Kd.R_lt (by (with_reducible repeat (first | apply Kd.R_alloc | apply Kd.R_drewN | apply Kd.R_drew)); exact HO220.out))) (Kd.R_lt (by (with_reducible repeat (first | apply Kd.R_alloc | apply Kd.R_drewN | apply Kd.R_drew)); exact HO223.out))) (Kd.R_lt (by (with_reducible repeat (first | apply Kd.R_alloc | apply Kd.R_drewN | apply Kd.R_drew)); exact HO227.out))) (g := gb209) (o := .cells #[.string a2_0, .string a2_1, .int .i64 a2_2, .int .i64 a2_3, .int .i64 a2_4] 26 (0, 0)) (by (with_reducible repeat (first | refine blk_drewN ?_ _ | refine blk_drew ?_ | refine blk_alloc ?_ _)); exact BK209.out)) (below_size (by repeat (first | (with_reducible first | exact HB.out | apply below_alloc | apply pw_below_drewN | apply below_drew1 | refine below_set ?_ GE209.out) | exact HB.out)))); have n4_ := Aside0.mk (blk_below (g := gb209) (o := .cells #[.string a2_0, .string a2_1, .int .i64 a2_2, .int .i64 a2_3, .int .i64 a2_4] 26 (0, 0)) (by (with_reducible repeat (first | refine blk_drewN ?_ _ | refine blk_drew ?_ | refine blk_alloc ?_ _)); exact BK209.out) hb); have n5_ := Aside0.mk (below_step (by repeat (first | (with_reducible first | exact HB.out | apply below_alloc | apply pw_below_drewN | apply below_drew1 | refine below_set ?_ GE209.out) | exact HB.out)) hb); clear HO220; clear HO223; clear HO227; clear BK209; clear HB; have HO220 := n0_; have HO223 := n1_; have HO227 := n2_; have HO230 := n3_; have BK209 := n4_; have HB := n5_; clear n0_ n1_ n2_ n3_ n4_ n5_; (try clear hb); (try clear hb2); (try clear hk); (try clear hi); (try clear ho0); obtain ⟨Ao38, co38, eo38⟩ := Kd.R_slice HO227.out; subst eo38; obtain ⟨Ao39, co39, eo39⟩ := Kd.R_slice HO230.out; subst eo39) | ((with_reducible refine gate_callee (f := 23) rfl ?_); refine goesL_ (some 65) rfl rfl Try.func23 (by kernel_rfl) rfl #[.slice Ao38 t225.length co38, .slice Ao39 t228.length co39] rfl (by (try simp only [List.map_toArray, List.map_cons, List.map_nil]); first | done | rfl | (simp only [List.length_drop, List.length_take]; rfl)) ?_; (with_reducible refine (ref07_Same.calls kj8 _ _ t225 _ _ t228 t231 _ ?side1 ?side2 ?side3 ?side4 A27.out).mono ?_); (case side1 => repeat (first | exact (Kd.R_reads' HO227.out).2.2 | (with_reducible refine Kd.C_alloc ?_ _) | (with_reducible refine Kd.C_drewN ?_ _) | (with_reducible refine Kd.C_drew ?_))); (case side2 => exact (Kd.R_reads' HO227.out).2.1); (case side3 => repeat (first | exact (Kd.R_reads' HO230.out).2.2 | (with_reducible refine Kd.C_alloc ?_ _) | (with_reducible refine Kd.C_drewN ?_ _) | (with_reducible refine Kd.C_drew ?_))); (case side4 => exact (Kd.R_reads' HO230.out).2.1); rintro e w' ⟨rfl, ⟨nd, rfl⟩⟩; refine ⟨_, rfl, ?_⟩; (try (rw [drewN_self w37]; generalize hq_ : World.drewN w37 _ = w37; have n0_ : Aside0 (Kd.R k26 26 w37 w.heap.size (fun k_ => some k_ ≠ (.slice Ao35 t221.length co35 : Value).ownBlock ∧ some k_ ≠ (.slice Ao38 t225.length co38 : Value).ownBlock ∧ some k_ ≠ (.slice Ao39 t228.length co39 : Value).ownBlock ∧ k_ ≠ gb209) (.slice Ao34 t218.length co34) t218) := ⟨by rw [← hq_]; exact (by (with_reducible repeat (first | apply Kd.R_alloc | apply Kd.R_drewN | apply Kd.R_drew)); exact Kd.R_mono HO220.out (fun _ hk => ⟨hk.1.1.2, ⟨hk.1.2, ⟨hk.2, hk.1.1.1.2⟩⟩⟩))⟩; have n1_ : Aside0 (Kd.R k26 26 w37 w.heap.size (fun k_ => some k_ ≠ (.slice Ao34 t218.length co34 : Value).ownBlock ∧ some k_ ≠ (.slice Ao38 t225.length co38 : Value).ownBlock ∧ some k_ ≠ (.slice Ao39 t228.length co39 : Value).ownBlock ∧ k_ ≠ gb209) (.slice Ao35 t221.length co35) t221) := ⟨by rw [← hq_]; exact (by (with_reducible repeat (first | apply Kd.R_alloc | apply Kd.R_drewN | apply Kd.R_drew)); exact Kd.R_mono HO223.out (fun _ hk => ⟨hk.1.1.1.2, ⟨hk.1.2, ⟨hk.2, hk.1.1.2⟩⟩⟩))⟩; have n2_ : Aside0 (Kd.R k26 26 w37 w.heap.size (fun k_ => some k_ ≠ (.slice Ao34 t218.length co34 : Value).ownBlock ∧ some k_ ≠ (.slice Ao35 t221.length co35 : Value).ownBlock ∧ some k_ ≠ (.slice Ao39 t228.length co39 : Value).ownBlock ∧ k_ ≠ gb209) (.slice Ao38 t225.length co38) t225) := ⟨by rw [← hq_]; exact (by (with_reducible repeat (first | apply Kd.R_alloc | apply Kd.R_drewN | apply Kd.R_drew)); exact Kd.R_mono HO227.out (fun _ hk => ⟨hk.1.1.1.2, ⟨hk.1.1.2, ⟨hk.2, hk.1.2⟩⟩⟩))⟩; have n3_ : Aside0 (Kd.R k26 26 w37 w.heap.size (fun k_ => some k_ ≠ (.slice Ao34 t218.length co34 : Value).ownBlock ∧ some k_ ≠ (.slice Ao35 t221.length co35 : Value).ownBlock ∧ some k_ ≠ (.slice Ao38 t225.length co38 : Value).ownBlock ∧ k_ ≠ gb209) (.slice Ao39 t228.length co39) t228) := ⟨by rw [← hq_]; exact (by (with_reducible repeat (first | apply Kd.R_alloc | apply Kd.R_drewN | apply Kd.R_drew)); exact Kd.R_mono HO230.out (fun _ hk => ⟨hk.1.1.1.2, ⟨hk.1.1.2, ⟨hk.1.2, hk.2⟩⟩⟩))⟩; have n4_ : Aside0 (w37.heap[gb209]? = some (.cells #[.string a2_0, .string a2_1, .int .i64 a2_2, .int .i64 a2_3, .int .i64 a2_4] 26 (0, 0))) := ⟨by rw [← hq_]; exact (by (with_reducible repeat (first | refine blk_drewN ?_ _ | refine blk_drew ?_ | refine blk_alloc ?_ _)); exact BK209.out)⟩; have n5_ : Aside0 (Below w.heap.size w w37) := ⟨by rw [← hq_]; exact (by repeat (first | (with_reducible first | exact HB.out | apply below_alloc | apply pw_below_drewN | apply below_drew1 | refine below_set ?_ GE209.out) | exact HB.out))⟩; clear HO220 HO223 HO227 HO230 BK209 HB hq_; have HO220 := n0_; have HO223 := n1_; have HO227 := n2_; have HO230 := n3_; have BK209 := n4_; have HB := n5_; clear n0_ n1_ n2_ n3_ n4_ n5_))) | ((with_reducible refine gate_callee (f := 28) rfl ?_); refine goesL_ (some 69) rfl rfl Try.func28 (by kernel_rfl) rfl #[.slice A0 l0.length c0, .string a3] rfl (by (try simp only [List.map_toArray, List.map_cons, List.map_nil]); first | done | rfl | (simp only [List.length_drop, List.length_take]; rfl)) ?_; (with_reducible refine (reg_Get.calls _ _ l0 a3 t232 t233 t234 t235 t236 t237 _ ?side1 ?side2 A28.out).mono ?_); (case side1 => repeat (first | exact (Kd.C_below HR0.out HB.out) | (with_reducible refine Kd.C_alloc ?_ _) | (with_reducible refine Kd.C_drewN ?_ _) | (with_reducible refine Kd.C_drew ?_))); (case side2 => exact HC0.out); rintro e w40 ⟨rfl, hb⟩; refine ⟨_, rfl, ?_⟩; have n0_ := Aside0.mk (Kd.R_below (by (with_reducible repeat (first | apply Kd.R_alloc | apply Kd.R_drewN | apply Kd.R_drew)); exact HO220.out) hb); have n1_ := Aside0.mk (Kd.R_below (by (with_reducible repeat (first | apply Kd.R_alloc | apply Kd.R_drewN | apply Kd.R_drew)); exact HO223.out) hb); have n2_ := Aside0.mk (Kd.R_below (by (with_reducible repeat (first | apply Kd.R_alloc | apply Kd.R_drewN | apply Kd.R_drew)); exact HO227.out) hb); have n3_ := Aside0.mk (Kd.R_below (by (with_reducible repeat (first | apply Kd.R_alloc | apply Kd.R_drewN | apply Kd.R_drew)); exact HO230.out) hb); have n4_ := Aside0.mk (blk_below (g := gb209) (o := .cells #[.string a2_0, .string a2_1, .int .i64 a2_2, .int .i64 a2_3, .int .i64 a2_4] 26 (0, 0)) (by (with_reducible repeat (first | refine blk_drewN ?_ _ | refine blk_drew ?_ | refine blk_alloc ?_ _)); exact BK209.out) hb); have n5_ := Aside0.mk (below_step (by repeat (first | (with_reducible first | exact HB.out | apply below_alloc | apply pw_below_drewN | apply below_drew1 | refine below_set ?_ GE209.out) | exact HB.out)) hb); clear HO220; clear HO223; clear HO227; clear HO230; clear BK209; clear HB; have HO220 := n0_; have HO223 := n1_; have HO227 := n2_; have HO230 := n3_; have BK209 := n4_; have HB := n5_; clear n0_ n1_ n2_ n3_ n4_ n5_; (try clear hb); (try clear hb2); (try clear hk); (try clear hi)) | ((with_reducible refine gate_dst (N := 16) rfl ?_); (try (refine gate_guard (by rfl) ?_; dsimp only)); refine box_event ?hg (N := 16) ?hd (cs := #[.string (⟨#[]⟩ : ByteArray), .string (⟨#[]⟩ : ByteArray), .int .i64 0, .int .i64 0, .int .i64 0]) (t := 26) ?hr ?_; (case hd => rfl); (case hg => rfl); (case hr => first | (go_simp; done) | (go_simp; rfl)); intro gb238 hg w41 hbox hb; have n0_ := Aside0.mk (Kd.R_below (Kd.R_elderB (by (with_reducible repeat (first | apply Kd.R_alloc | apply Kd.R_drewN | apply Kd.R_drew)); exact HO220.out) gb238 (Nat.le_of_eq hg.symm)) hb); have n1_ := Aside0.mk (Kd.R_below (Kd.R_elderB (by (with_reducible repeat (first | apply Kd.R_alloc | apply Kd.R_drewN | apply Kd.R_drew)); exact HO223.out) gb238 (Nat.le_of_eq hg.symm)) hb); have n2_ := Aside0.mk (Kd.R_below (Kd.R_elderB (by (with_reducible repeat (first | apply Kd.R_alloc | apply Kd.R_drewN | apply Kd.R_drew)); exact HO227.out) gb238 (Nat.le_of_eq hg.symm)) hb); have n3_ := Aside0.mk (Kd.R_below (Kd.R_elderB (by (with_reducible repeat (first | apply Kd.R_alloc | apply Kd.R_drewN | apply Kd.R_drew)); exact HO230.out) gb238 (Nat.le_of_eq hg.symm)) hb); have n4_ := Aside0.mk (blk_below (g := gb209) (o := .cells #[.string a2_0, .string a2_1, .int .i64 a2_2, .int .i64 a2_3, .int .i64 a2_4] 26 (0, 0)) (by (with_reducible repeat (first | refine blk_drewN ?_ _ | refine blk_drew ?_ | refine blk_alloc ?_ _)); exact BK209.out) hb); have n5_ := Aside0.mk (below_step (by repeat (first | (with_reducible first | exact HB.out | apply below_alloc | apply pw_below_drewN | apply below_drew1 | refine below_set ?_ GE209.out) | exact HB.out)) hb); have n6_ := Aside0.mk (hbox); have n7_ := Aside0.mk ((by rw [hg]; exact (below_size (by repeat (first | (with_reducible first | exact HB.out | apply below_alloc | apply pw_below_drewN | apply below_drew1 | refine below_set ?_ GE209.out) | exact HB.out))) : w.heap.size ≤ gb238)); have n8_ := Aside0.mk ((by rw [hg]; exact (below_size (by repeat (first | (with_reducible first | exact HB.out | apply below_alloc | apply pw_below_drewN | apply below_drew1 | refine below_set ?_ GE209.out) | exact HB.out))) : w.heap.size ≤ gb238)); have n9_ := Aside0.mk ((by rw [hg]; exact Nat.ne_of_lt (blk_lt (g := gb209) (o := .cells #[.string a2_0, .string a2_1, .int .i64 a2_2, .int .i64 a2_3, .int .i64 a2_4] 26 (0, 0)) (by (with_reducible repeat (first | refine blk_drewN ?_ _ | refine blk_drew ?_ | refine blk_alloc ?_ _)); exact BK209.out)) : gb209 ≠ gb238)); have n10_ := Aside0.mk ((by rw [hg]; exact Nat.ne_of_gt (blk_lt (g := gb209) (o := .cells #[.string a2_0, .string a2_1, .int .i64 a2_2, .int .i64 a2_3, .int .i64 a2_4] 26 (0, 0)) (by (with_reducible repeat (first | refine blk_drewN ?_ _ | refine blk_drew ?_ | refine blk_alloc ?_ _)); exact BK209.out)) : gb238 ≠ gb209)); clear HO220; clear HO223; clear HO227; clear HO230; clear BK209; clear HB; have HO220 := n0_; have HO223 := n1_; have HO227 := n2_; have HO230 := n3_; have BK209 := n4_; have HB := n5_; have BK238 := n6_; have GW238 := n7_; have GE238 := n8_; have NB209_238 := n9_; have NB238_209 := n10_; clear n0_ n1_ n2_ n3_ n4_ n5_ n6_ n7_ n8_ n9_ n10_; clear hb hbox hg; have hnb42 := NB238_209.out; have hnc42 := NB209_238.out; have hcz43_0 : w41.cell? ⟨gb238, 0, none⟩ = some (.string (⟨#[]⟩ : ByteArray)) := (blk_cell BK238.out 0).trans rfl; have hcz43_1 : w41.cell? ⟨gb238, 1, none⟩ = some (.string (⟨#[]⟩ : ByteArray)) := (blk_cell BK238.out 1).trans rfl; have hcz43_2 : w41.cell? ⟨gb238, 2, none⟩ = some (.int .i64 0) := (blk_cell BK238.out 2).trans rfl; have hcz43_3 : w41.cell? ⟨gb238, 3, none⟩ = some (.int .i64 0) := (blk_cell BK238.out 3).trans rfl; have hcz43_4 : w41.cell? ⟨gb238, 4, none⟩ = some (.int .i64 0) := (blk_cell BK238.out 4).trans rfl; have hfz43_0 := blk_frozen BK238.out 0; have hfz43_1 := blk_frozen BK238.out 1; have hfz43_2 := blk_frozen BK238.out 2; have hfz43_3 := blk_frozen BK238.out 3; have hfz43_4 := blk_frozen BK238.out 4) | ((with_reducible refine gate_callee (f := 29) rfl ?_); refine goesL_ (some 75) rfl rfl Try.func29 (by kernel_rfl) rfl #[.slice A0 l0.length c0, .string a3] rfl (by (try simp only [List.map_toArray, List.map_cons, List.map_nil]); first | done | rfl | (simp only [List.length_drop, List.length_take]; rfl)) ?_; (with_reducible refine (ref07_Get.calls kj8 _ _ l0 a3 t239 t240 t241 t242 t243 t244 _ ?side1 ?side2 A29.out).mono ?_); (case side1 => exact Kd.C_below HR0.out (by repeat (first | (with_reducible first | exact HB.out | apply below_alloc | apply pw_below_drewN | apply below_drew1 | refine below_set ?_ GE209.out | refine below_set ?_ GE238.out) | exact HB.out))); (case side2 => exact HC0.out); rintro e w44 ⟨rfl, hb⟩; refine ⟨_, rfl, ?_⟩; have n0_ := Aside0.mk (Kd.R_below (by (with_reducible repeat (first | apply Kd.R_alloc | apply Kd.R_drewN | apply Kd.R_drew)); exact (Kd.R_mono (Kd.R_far (p := ⟨gb238, 4, none⟩) (Kd.R_far (p := ⟨gb238, 3, none⟩) (Kd.R_far (p := ⟨gb238, 2, none⟩) (Kd.R_far (p := ⟨gb238, 1, none⟩) (Kd.R_far (p := ⟨gb238, 0, none⟩) (Kd.R_mono HO220.out (fun k_ hk => (⟨hk, hk.2⟩ : _ ∧ k_ ≠ gb238))) (fun _ hk => hk.2) (.string t232)) (fun _ hk => hk.2) (.string t233)) (fun _ hk => hk.2) (.int .i64 t234)) (fun _ hk => hk.2) (.int .i64 t235)) (fun _ hk => hk.2) (.int .i64 t236)) (fun _ h_ => h_.1))) hb); have n1_ := Aside0.mk (Kd.R_below (by (with_reducible repeat (first | apply Kd.R_alloc | apply Kd.R_drewN | apply Kd.R_drew)); exact (Kd.R_mono (Kd.R_far (p := ⟨gb238, 4, none⟩) (Kd.R_far (p := ⟨gb238, 3, none⟩) (Kd.R_far (p := ⟨gb238, 2, none⟩) (Kd.R_far (p := ⟨gb238, 1, none⟩) (Kd.R_far (p := ⟨gb238, 0, none⟩) (Kd.R_mono HO223.out (fun k_ hk => (⟨hk, hk.2⟩ : _ ∧ k_ ≠ gb238))) (fun _ hk => hk.2) (.string t232)) (fun _ hk => hk.2) (.string t233)) (fun _ hk => hk.2) (.int .i64 t234)) (fun _ hk => hk.2) (.int .i64 t235)) (fun _ hk => hk.2) (.int .i64 t236)) (fun _ h_ => h_.1))) hb); have n2_ := Aside0.mk (Kd.R_below (by (with_reducible repeat (first | apply Kd.R_alloc | apply Kd.R_drewN | apply Kd.R_drew)); exact (Kd.R_mono (Kd.R_far (p := ⟨gb238, 4, none⟩) (Kd.R_far (p := ⟨gb238, 3, none⟩) (Kd.R_far (p := ⟨gb238, 2, none⟩) (Kd.R_far (p := ⟨gb238, 1, none⟩) (Kd.R_far (p := ⟨gb238, 0, none⟩) (Kd.R_mono HO227.out (fun k_ hk => (⟨hk, hk.2⟩ : _ ∧ k_ ≠ gb238))) (fun _ hk => hk.2) (.string t232)) (fun _ hk => hk.2) (.string t233)) (fun _ hk => hk.2) (.int .i64 t234)) (fun _ hk => hk.2) (.int .i64 t235)) (fun _ hk => hk.2) (.int .i64 t236)) (fun _ h_ => h_.1))) hb); have n3_ := Aside0.mk (Kd.R_below (by (with_reducible repeat (first | apply Kd.R_alloc | apply Kd.R_drewN | apply Kd.R_drew)); exact (Kd.R_mono (Kd.R_far (p := ⟨gb238, 4, none⟩) (Kd.R_far (p := ⟨gb238, 3, none⟩) (Kd.R_far (p := ⟨gb238, 2, none⟩) (Kd.R_far (p := ⟨gb238, 1, none⟩) (Kd.R_far (p := ⟨gb238, 0, none⟩) (Kd.R_mono HO230.out (fun k_ hk => (⟨hk, hk.2⟩ : _ ∧ k_ ≠ gb238))) (fun _ hk => hk.2) (.string t232)) (fun _ hk => hk.2) (.string t233)) (fun _ hk => hk.2) (.int .i64 t234)) (fun _ hk => hk.2) (.int .i64 t235)) (fun _ hk => hk.2) (.int .i64 t236)) (fun _ h_ => h_.1))) hb); have n4_ := Aside0.mk (blk_below (g := gb209) (o := .cells #[.string a2_0, .string a2_1, .int .i64 a2_2, .int .i64 a2_3, .int .i64 a2_4] 26 (0, 0)) (by (with_reducible repeat (first | refine blk_drewN ?_ _ | refine blk_drew ?_ | refine blk_alloc ?_ _)); refine blk_far ?_ NB209_238.out _; (with_reducible repeat (first | refine blk_drewN ?_ _ | refine blk_drew ?_ | refine blk_alloc ?_ _)); refine blk_far ?_ NB209_238.out _; (with_reducible repeat (first | refine blk_drewN ?_ _ | refine blk_drew ?_ | refine blk_alloc ?_ _)); refine blk_far ?_ NB209_238.out _; (with_reducible repeat (first | refine blk_drewN ?_ _ | refine blk_drew ?_ | refine blk_alloc ?_ _)); refine blk_far ?_ NB209_238.out _; (with_reducible repeat (first | refine blk_drewN ?_ _ | refine blk_drew ?_ | refine blk_alloc ?_ _)); refine blk_far ?_ NB209_238.out _; (with_reducible repeat (first | refine blk_drewN ?_ _ | refine blk_drew ?_ | refine blk_alloc ?_ _)); exact BK209.out) hb); have n5_ := Aside0.mk (blk_below (g := gb238) (o := .cells #[.string t232, .string t233, .int .i64 t234, .int .i64 t235, .int .i64 t236] 26 (0, 0)) (by (with_reducible repeat (first | refine blk_drewN ?_ _ | refine blk_drew ?_ | refine blk_alloc ?_ _)); refine blk_put (cs := #[.string t232, .string t233, .int .i64 t234, .int .i64 t235, .int .i64 0]) ?_ 4 _ rfl; (with_reducible repeat (first | refine blk_drewN ?_ _ | refine blk_drew ?_ | refine blk_alloc ?_ _)); refine blk_put (cs := #[.string t232, .string t233, .int .i64 t234, .int .i64 0, .int .i64 0]) ?_ 3 _ rfl; (with_reducible repeat (first | refine blk_drewN ?_ _ | refine blk_drew ?_ | refine blk_alloc ?_ _)); refine blk_put (cs := #[.string t232, .string t233, .int .i64 0, .int .i64 0, .int .i64 0]) ?_ 2 _ rfl; (with_reducible repeat (first | refine blk_drewN ?_ _ | refine blk_drew ?_ | refine blk_alloc ?_ _)); refine blk_put (cs := #[.string t232, .string (⟨#[]⟩ : ByteArray), .int .i64 0, .int .i64 0, .int .i64 0]) ?_ 1 _ rfl; (with_reducible repeat (first | refine blk_drewN ?_ _ | refine blk_drew ?_ | refine blk_alloc ?_ _)); refine blk_put (cs := #[.string (⟨#[]⟩ : ByteArray), .string (⟨#[]⟩ : ByteArray), .int .i64 0, .int .i64 0, .int .i64 0]) ?_ 0 _ rfl; (with_reducible repeat (first | refine blk_drewN ?_ _ | refine blk_drew ?_ | refine blk_alloc ?_ _)); exact BK238.out) hb); have n6_ := Aside0.mk (below_step (by repeat (first | (with_reducible first | exact HB.out | apply below_alloc | apply pw_below_drewN | apply below_drew1 | refine below_set ?_ GE209.out | refine below_set ?_ GE238.out) | exact HB.out)) hb); clear HO220; clear HO223; clear HO227; clear HO230; clear BK209; clear BK238; clear HB; have HO220 := n0_; have HO223 := n1_; have HO227 := n2_; have HO230 := n3_; have BK209 := n4_; have BK238 := n5_; have HB := n6_; clear n0_ n1_ n2_ n3_ n4_ n5_ n6_; (try clear hb); (try clear hb2); (try clear hk); (try clear hi)) | ((with_reducible refine gate_dst (N := 18) rfl ?_); (try (refine gate_guard (by rfl) ?_; dsimp only)); refine box_event ?hg (N := 18) ?hd (cs := #[.string (⟨#[]⟩ : ByteArray), .string (⟨#[]⟩ : ByteArray), .int .i64 0, .int .i64 0, .int .i64 0]) (t := 26) ?hr ?_; (case hd => rfl); (case hg => rfl); (case hr => first | (go_simp; done) | (go_simp; rfl)); intro gb245 hg w45 hbox hb; have n0_ := Aside0.mk (Kd.R_below (Kd.R_elderB (by (with_reducible repeat (first | apply Kd.R_alloc | apply Kd.R_drewN | apply Kd.R_drew)); exact HO220.out) gb245 (Nat.le_of_eq hg.symm)) hb); have n1_ := Aside0.mk (Kd.R_below (Kd.R_elderB (by (with_reducible repeat (first | apply Kd.R_alloc | apply Kd.R_drewN | apply Kd.R_drew)); exact HO223.out) gb245 (Nat.le_of_eq hg.symm)) hb); have n2_ := Aside0.mk (Kd.R_below (Kd.R_elderB (by (with_reducible repeat (first | apply Kd.R_alloc | apply Kd.R_drewN | apply Kd.R_drew)); exact HO227.out) gb245 (Nat.le_of_eq hg.symm)) hb); have n3_ := Aside0.mk (Kd.R_below (Kd.R_elderB (by (with_reducible repeat (first | apply Kd.R_alloc | apply Kd.R_drewN | apply Kd.R_drew)); exact HO230.out) gb245 (Nat.le_of_eq hg.symm)) hb); have n4_ := Aside0.mk (blk_below (g := gb209) (o := .cells #[.string a2_0, .string a2_1, .int .i64 a2_2, .int .i64 a2_3, .int .i64 a2_4] 26 (0, 0)) (by (with_reducible repeat (first | refine blk_drewN ?_ _ | refine blk_drew ?_ | refine blk_alloc ?_ _)); exact BK209.out) hb); have n5_ := Aside0.mk (blk_below (g := gb238) (o := .cells #[.string t232, .string t233, .int .i64 t234, .int .i64 t235, .int .i64 t236] 26 (0, 0)) (by (with_reducible repeat (first | refine blk_drewN ?_ _ | refine blk_drew ?_ | refine blk_alloc ?_ _)); exact BK238.out) hb); have n6_ := Aside0.mk (below_step (by repeat (first | (with_reducible first | exact HB.out | apply below_alloc | apply pw_below_drewN | apply below_drew1 | refine below_set ?_ GE209.out | refine below_set ?_ GE238.out) | exact HB.out)) hb); have n7_ := Aside0.mk (hbox); have n8_ := Aside0.mk ((by rw [hg]; exact (below_size (by repeat (first | (with_reducible first | exact HB.out | apply below_alloc | apply pw_below_drewN | apply below_drew1 | refine below_set ?_ GE209.out | refine below_set ?_ GE238.out) | exact HB.out))) : w.heap.size ≤ gb245)); have n9_ := Aside0.mk ((by rw [hg]; exact (below_size (by repeat (first | (with_reducible first | exact HB.out | apply below_alloc | apply pw_below_drewN | apply below_drew1 | refine below_set ?_ GE209.out | refine below_set ?_ GE238.out) | exact HB.out))) : w.heap.size ≤ gb245)); have n10_ := Aside0.mk ((by rw [hg]; exact Nat.ne_of_lt (blk_lt (g := gb209) (o := .cells #[.string a2_0, .string a2_1, .int .i64 a2_2, .int .i64 a2_3, .int .i64 a2_4] 26 (0, 0)) (by (with_reducible repeat (first | refine blk_drewN ?_ _ | refine blk_drew ?_ | refine blk_alloc ?_ _)); exact BK209.out)) : gb209 ≠ gb245)); have n11_ := Aside0.mk ((by rw [hg]; exact Nat.ne_of_gt (blk_lt (g := gb209) (o := .cells #[.string a2_0, .string a2_1, .int .i64 a2_2, .int .i64 a2_3, .int .i64 a2_4] 26 (0, 0)) (by (with_reducible repeat (first | refine blk_drewN ?_ _ | refine blk_drew ?_ | refine blk_alloc ?_ _)); exact BK209.out)) : gb245 ≠ gb209)); have n12_ := Aside0.mk ((by rw [hg]; exact Nat.ne_of_lt (blk_lt (g := gb238) (o := .cells #[.string t232, .string t233, .int .i64 t234, .int .i64 t235, .int .i64 t236] 26 (0, 0)) (by (with_reducible repeat (first | refine blk_drewN ?_ _ | refine blk_drew ?_ | refine blk_alloc ?_ _)); exact BK238.out)) : gb238 ≠ gb245)); have n13_ := Aside0.mk ((by rw [hg]; exact Nat.ne_of_gt (blk_lt (g := gb238) (o := .cells #[.string t232, .string t233, .int .i64 t234, .int .i64 t235, .int .i64 t236] 26 (0, 0)) (by (with_reducible repeat (first | refine blk_drewN ?_ _ | refine blk_drew ?_ | refine blk_alloc ?_ _)); exact BK238.out)) : gb245 ≠ gb238)); clear HO220; clear HO223; clear HO227; clear HO230; clear BK209; clear BK238; clear HB; have HO220 := n0_; have HO223 := n1_; have HO227 := n2_; have HO230 := n3_; have BK209 := n4_; have BK238 := n5_; have HB := n6_; have BK245 := n7_; have GW245 := n8_; have GE245 := n9_; have NB209_245 := n10_; have NB245_209 := n11_; have NB238_245 := n12_; have NB245_238 := n13_; clear n0_ n1_ n2_ n3_ n4_ n5_ n6_ n7_ n8_ n9_ n10_ n11_ n12_ n13_; clear hb hbox hg; have hnb46 := NB245_209.out; have hnc46 := NB209_245.out; have hnb47 := NB245_238.out; have hnc47 := NB238_245.out; have hcz48_0 : w45.cell? ⟨gb245, 0, none⟩ = some (.string (⟨#[]⟩ : ByteArray)) := (blk_cell BK245.out 0).trans rfl; have hcz48_1 : w45.cell? ⟨gb245, 1, none⟩ = some (.string (⟨#[]⟩ : ByteArray)) := (blk_cell BK245.out 1).trans rfl; have hcz48_2 : w45.cell? ⟨gb245, 2, none⟩ = some (.int .i64 0) := (blk_cell BK245.out 2).trans rfl; have hcz48_3 : w45.cell? ⟨gb245, 3, none⟩ = some (.int .i64 0) := (blk_cell BK245.out 3).trans rfl; have hcz48_4 : w45.cell? ⟨gb245, 4, none⟩ = some (.int .i64 0) := (blk_cell BK245.out 4).trans rfl; have hfz48_0 := blk_frozen BK245.out 0; have hfz48_1 := blk_frozen BK245.out 1; have hfz48_2 := blk_frozen BK245.out 2; have hfz48_3 := blk_frozen BK245.out 3; have hfz48_4 := blk_frozen BK245.out 4))
    go_loopg [20] kj8 (fun kq v20 w' => ∃ (x20_2 : Int), v20 = .int .i64 x20_2 ∧ Aside0 (law07_RegTells.l0 kq l0 t217 t224 t231 t237 t244 x20_2 a2_0 a2_1 a2_2 a2_3 a2_4 t232 t233 t234 t235 t236 t239 t240 t241 t242 t243 = some r) ∧ Aside0 (kq ≤ kj8) ∧ Aside0 (w'.heap[gb209]? = some (.cells #[.string a2_0, .string a2_1, .int .i64 a2_2, .int .i64 a2_3, .int .i64 a2_4] 26 (0, 0))) ∧ Aside0 (w'.heap[gb238]? = some (.cells #[.string t232, .string t233, .int .i64 t234, .int .i64 t235, .int .i64 t236] 26 (0, 0))) ∧ Aside0 (w'.heap[gb245]? = some (.cells #[.string t239, .string t240, .int .i64 t241, .int .i64 t242, .int .i64 t243] 26 (0, 0))) ∧ Aside0 (Below w.heap.size w w'))
    case atStart => exact ⟨(0), (by first | rfl | (simp; done) | (simp [*]; done)), H', ⟨Nat.le_refl _⟩, ⟨by (with_reducible repeat (first | refine blk_drewN ?_ _ | refine blk_drew ?_ | refine blk_alloc ?_ _)); refine blk_far ?_ NB209_245.out _; (with_reducible repeat (first | refine blk_drewN ?_ _ | refine blk_drew ?_ | refine blk_alloc ?_ _)); refine blk_far ?_ NB209_245.out _; (with_reducible repeat (first | refine blk_drewN ?_ _ | refine blk_drew ?_ | refine blk_alloc ?_ _)); refine blk_far ?_ NB209_245.out _; (with_reducible repeat (first | refine blk_drewN ?_ _ | refine blk_drew ?_ | refine blk_alloc ?_ _)); refine blk_far ?_ NB209_245.out _; (with_reducible repeat (first | refine blk_drewN ?_ _ | refine blk_drew ?_ | refine blk_alloc ?_ _)); refine blk_far ?_ NB209_245.out _; (with_reducible repeat (first | refine blk_drewN ?_ _ | refine blk_drew ?_ | refine blk_alloc ?_ _)); exact BK209.out⟩, ⟨by (with_reducible repeat (first | refine blk_drewN ?_ _ | refine blk_drew ?_ | refine blk_alloc ?_ _)); refine blk_far ?_ NB238_245.out _; (with_reducible repeat (first | refine blk_drewN ?_ _ | refine blk_drew ?_ | refine blk_alloc ?_ _)); refine blk_far ?_ NB238_245.out _; (with_reducible repeat (first | refine blk_drewN ?_ _ | refine blk_drew ?_ | refine blk_alloc ?_ _)); refine blk_far ?_ NB238_245.out _; (with_reducible repeat (first | refine blk_drewN ?_ _ | refine blk_drew ?_ | refine blk_alloc ?_ _)); refine blk_far ?_ NB238_245.out _; (with_reducible repeat (first | refine blk_drewN ?_ _ | refine blk_drew ?_ | refine blk_alloc ?_ _)); refine blk_far ?_ NB238_245.out _; (with_reducible repeat (first | refine blk_drewN ?_ _ | refine blk_drew ?_ | refine blk_alloc ?_ _)); exact BK238.out⟩, ⟨by (with_reducible repeat (first | refine blk_drewN ?_ _ | refine blk_drew ?_ | refine blk_alloc ?_ _)); refine blk_put (cs := #[.string t239, .string t240, .int .i64 t241, .int .i64 t242, .int .i64 0]) ?_ 4 _ rfl; (with_reducible repeat (first | refine blk_drewN ?_ _ | refine blk_drew ?_ | refine blk_alloc ?_ _)); refine blk_put (cs := #[.string t239, .string t240, .int .i64 t241, .int .i64 0, .int .i64 0]) ?_ 3 _ rfl; (with_reducible repeat (first | refine blk_drewN ?_ _ | refine blk_drew ?_ | refine blk_alloc ?_ _)); refine blk_put (cs := #[.string t239, .string t240, .int .i64 0, .int .i64 0, .int .i64 0]) ?_ 2 _ rfl; (with_reducible repeat (first | refine blk_drewN ?_ _ | refine blk_drew ?_ | refine blk_alloc ?_ _)); refine blk_put (cs := #[.string t239, .string (⟨#[]⟩ : ByteArray), .int .i64 0, .int .i64 0, .int .i64 0]) ?_ 1 _ rfl; (with_reducible repeat (first | refine blk_drewN ?_ _ | refine blk_drew ?_ | refine blk_alloc ?_ _)); refine blk_put (cs := #[.string (⟨#[]⟩ : ByteArray), .string (⟨#[]⟩ : ByteArray), .int .i64 0, .int .i64 0, .int .i64 0]) ?_ 0 _ rfl; (with_reducible repeat (first | refine blk_drewN ?_ _ | refine blk_drew ?_ | refine blk_alloc ?_ _)); exact BK245.out⟩, ⟨by repeat (first | (with_reducible first | exact HB.out | apply below_alloc | apply pw_below_drewN | apply below_drew1 | refine below_set ?_ GE209.out | refine below_set ?_ GE238.out | refine below_set ?_ GE245.out) | exact HB.out)⟩⟩
    case round =>
     clear H'
     try clear c1
     try clear c2
     try clear p2
     try clear c3
     try clear c4
     try clear c5
     try clear c16
     try clear c17
     try clear c18
     try clear c19
     try clear c20
     try clear c21
     try clear c22
     try clear c23
     try clear c24
     try clear c25
     try clear c26
     try clear c27
     try clear c28
     try clear c29
     try clear c42
     try clear c46
     try clear c47
     try clear hcz12_0
     try clear hcz12_1
     try clear hcz12_2
     try clear hcz12_3
     try clear hcz12_4
     try clear hcz43_0
     try clear hcz43_1
     try clear hcz43_2
     try clear hcz43_3
     try clear hcz43_4
     try clear hcz48_0
     try clear hcz48_1
     try clear hcz48_2
     try clear hcz48_3
     try clear hcz48_4
     try clear hfz12_0
     try clear hfz12_1
     try clear hfz12_2
     try clear hfz12_3
     try clear hfz12_4
     try clear hfz43_0
     try clear hfz43_1
     try clear hfz43_2
     try clear hfz43_3
     try clear hfz43_4
     try clear hfz48_0
     try clear hfz48_1
     try clear hfz48_2
     try clear hfz48_3
     try clear hfz48_4
     try clear p2
     obtain ⟨x20_2, rfl, HA, HK2, BK209, BK238, BK245, HB⟩ := hrel
     cases gk with
     | zero => exact absurd HA.out (by simp [law07_RegTells.l0])
     | succ k2 =>
      have H := HA.out
      clear HA
      simp only [law07_RegTells.l0] at H
      by_cases c49 : x20_2 < (l0.length : Int)
      ·rw [if_pos c49] at H
       have c49b0 : decide (x20_2 < (l0.length : Int)) = true := decide_eq_true c49
       clear c49
       by_cases c50 : 0 ≤ x20_2
       ·rw [if_pos c50] at H
        have c50b0 : decide (0 ≤ x20_2) = true := decide_eq_true c50
        clear c50
        replace H := Option.bind_eq_some_iff.mp H
        obtain ⟨t248, A510, H⟩ := H
        replace H : ((reg_Newer.f k2 ((rd_T26 l0 x20_2).f0) ((rd_T26 l0 x20_2).f1) ((rd_T26 l0 x20_2).f2) ((rd_T26 l0 x20_2).f3.f0) ((rd_T26 l0 x20_2).f3.f1) a2_0 a2_1 a2_2 a2_3 a2_4).bind fun t250 => (if (t250 != t248) = true then (some false) else (law07_RegTells.l0 k2 l0 t217 t224 t231 t237 t244 (wrap64 (x20_2 + 1)) a2_0 a2_1 a2_2 a2_3 a2_4 t232 t233 t234 t235 t236 t239 t240 t241 t242 t243))) = some r := H
        have A51 := Aside0.mk A510
        clear A510
        replace H := Option.bind_eq_some_iff.mp H
        obtain ⟨t250, A520, H⟩ := H
        replace H : (if (t250 != t248) = true then (some false) else (law07_RegTells.l0 k2 l0 t217 t224 t231 t237 t244 (wrap64 (x20_2 + 1)) a2_0 a2_1 a2_2 a2_3 a2_4 t232 t233 t234 t235 t236 t239 t240 t241 t242 t243)) = some r := H
        have A52 := Aside0.mk A520
        clear A520
        by_cases c53 : (t250 != t248) = true
        ·rw [if_pos c53] at H
         have c53b0 : (t250 != t248) = true := c53
         (try (have c53b1 : decide (t250 = t248) = false := by simpa using c53))
         (try (have c53b2 : (t250 == t248) = false := by simpa using c53))
         (try (have c53b3 : ¬ (t250 = t248) := by simpa using c53))
         clear c53
         obtain rfl := Option.some.inj H
         try go_wp2
         have n0_ := Aside0.mk (blk_drew BK209.out)
         have n1_ := Aside0.mk (blk_drew BK238.out)
         have n2_ := Aside0.mk (blk_drew BK245.out)
         have n3_ := Aside0.mk (below_drew1 HB.out)
         clear BK209
         clear BK238
         clear BK245
         clear HB
         have BK209 := n0_
         have BK238 := n1_
         have BK245 := n2_
         have HB := n3_
         clear n0_ n1_ n2_ n3_
         have p247 : 0 ≤ (x20_2 : Int) := of_decide_eq_true (by first | (with_reducible assumption) | assumption)
         have q247 : x20_2 < (l0.length : Int) := of_decide_eq_true (by first | (with_reducible assumption) | assumption)
         obtain ⟨ad247, e247, hx247_0, hx247_1, hx247_2, hx247_3, hx247_4⟩ := at_T26 HR0.out x20_2 p247 q247
         have hw247_4 := hx247_4
         have hw247_3 := hx247_3
         have hw247_2 := hx247_2
         have hw247_1 := hx247_1
         have hw247_0 := hx247_0
         cases e247
         replace hx247_0 := (HB.out.cell (World.block_lt_of_cell? w _ hx247_0)).trans hx247_0
         replace hx247_1 := (HB.out.cell (World.block_lt_of_cell? w _ hx247_1)).trans hx247_1
         replace hx247_2 := (HB.out.cell (World.block_lt_of_cell? w _ hx247_2)).trans hx247_2
         replace hx247_3 := (HB.out.cell (World.block_lt_of_cell? w _ hx247_3)).trans hx247_3
         replace hx247_4 := (HB.out.cell (World.block_lt_of_cell? w _ hx247_4)).trans hx247_4
         replace p247 := eq_true p247
         replace q247 := eq_true q247
         refine start_ (n := 7) (S := fun w' => w'.cell? ⟨gb209, 0, none⟩ = some (.string a2_0) ∧ w'.cell? ⟨gb209, 1, none⟩ = some (.string a2_1) ∧ w'.cell? ⟨gb209, 2, none⟩ = some (.int .i64 a2_2) ∧ w'.cell? ⟨gb209, 3, none⟩ = some (.int .i64 a2_3) ∧ w'.cell? ⟨gb209, 4, none⟩ = some (.int .i64 a2_4) ∧ w'.cell? (ad247.add ((x20_2).toNat * 5)) = some (.string ((rd_T26 l0 x20_2).f0)) ∧ w'.cell? ⟨(ad247.add ((x20_2).toNat * 5)).block, (ad247.add ((x20_2).toNat * 5)).off + 1, none⟩ = some (.string ((rd_T26 l0 x20_2).f1)) ∧ w'.cell? ⟨(ad247.add ((x20_2).toNat * 5)).block, (ad247.add ((x20_2).toNat * 5)).off + 2, none⟩ = some (.int .i64 ((rd_T26 l0 x20_2).f2)) ∧ w'.cell? ⟨(ad247.add ((x20_2).toNat * 5)).block, (ad247.add ((x20_2).toNat * 5)).off + 3, none⟩ = some (.int .i64 ((rd_T26 l0 x20_2).f3.f0)) ∧ w'.cell? ⟨(ad247.add ((x20_2).toNat * 5)).block, (ad247.add ((x20_2).toNat * 5)).off + 4, none⟩ = some (.int .i64 ((rd_T26 l0 x20_2).f3.f1))) (ds := []) #[false,false,false,false,false,false,false] (by kernel_rfl) rfl rfl ⟨(blk_cell BK209.out 0).trans rfl, (blk_cell BK209.out 1).trans rfl, (blk_cell BK209.out 2).trans rfl, (blk_cell BK209.out 3).trans rfl, (blk_cell BK209.out 4).trans rfl, ((HB.out.cell (World.block_lt_of_cell? w _ hw247_0)).trans hw247_0), ((HB.out.cell (World.block_lt_of_cell? w _ hw247_1)).trans hw247_1), ((HB.out.cell (World.block_lt_of_cell? w _ hw247_2)).trans hw247_2), ((HB.out.cell (World.block_lt_of_cell? w _ hw247_3)).trans hw247_3), ((HB.out.cell (World.block_lt_of_cell? w _ hw247_4)).trans hw247_4)⟩ (fun hHeld => ?_)
         generalize wr.drew = w54 at BK209 BK238 BK245 HB hx247_0 hx247_1 hx247_2 hx247_3 hx247_4 hHeld ⊢
         refine pure_ (i := 0) (N := some 84) (v := ?_) (a' := ?_) #[true,false,false,false,false,false,false] rfl rfl (by kernel_rfl) (fun _ _ _ h => h) (Or.inl ⟨by rfl, ?_⟩) ?_ ?_
         rotate_left
         ·intro w'
          go_simp
          with_reducible rfl
         rotate_left
         ·simp only [Act.put, List.setIfInBounds_toArray, List.set_cons_zero, List.set_cons_succ, i64_w, i32_w]
          rfl
         refine pure_ (i := 1) (N := some 85) (v := ?_) (a' := ?_) #[true,true,false,false,false,false,false] rfl rfl (by kernel_rfl) (fun _ _ _ h => h) (Or.inl ⟨by rfl, ?_⟩) ?_ ?_
         rotate_left
         ·intro w'
          go_simp
          with_reducible rfl
         rotate_left
         ·simp only [Act.put, List.setIfInBounds_toArray, List.set_cons_zero, List.set_cons_succ, i64_w, i32_w]
          rfl
         refine pure_ (i := 2) (N := some 86) (v := ?_) (a' := ?_) #[true,true,true,false,false,false,false] rfl rfl (by kernel_rfl) (fun _ _ _ h => h) (Or.inl ⟨by rfl, ?_⟩) ?_ ?_
         rotate_left
         ·intro w'
          go_simp
          with_reducible rfl
         rotate_left
         ·simp only [Act.put, List.setIfInBounds_toArray, List.set_cons_zero, List.set_cons_succ, i64_w, i32_w]
          rfl
         refine take_ (i := 3) (N := some 87) (v := ?_) (a' := ?_) #[true,true,true,true,false,false,false] rfl rfl (by kernel_rfl) (fun _ _ _ h => h) (Or.inl ⟨by rfl, ?_⟩) hHeld ?_ ?_
         rotate_left
         ·rintro w' ⟨s0, s1, s2, s3, s4, s5, s6, s7, s8, s9⟩
          go_simp
          with_reducible rfl
         rotate_left
         ·simp only [Act.put, List.setIfInBounds_toArray, List.set_cons_zero, List.set_cons_succ, i64_w, i32_w]
          rfl
         refine take_ (i := 4) (N := some 88) (v := ?_) (a' := ?_) #[true,true,true,true,true,false,false] rfl rfl (by kernel_rfl) (fun _ _ _ h => h) (Or.inl ⟨by rfl, ?_⟩) hHeld ?_ ?_
         rotate_left
         ·rintro w' ⟨s0, s1, s2, s3, s4, s5, s6, s7, s8, s9⟩
          go_simp
          with_reducible rfl
         rotate_left
         ·simp only [Act.put, List.setIfInBounds_toArray, List.set_cons_zero, List.set_cons_succ, i64_w, i32_w]
          rfl
         refine one_ (i := 5) (N := some 89) #[true,true,true,true,true,true,false] rfl rfl (by kernel_rfl) (by decide) (fun K hK => ?_)
         refine goes_ Try.func30 (by kernel_rfl) rfl #[.agg #[.string ((rd_T26 l0 x20_2).f0), .string ((rd_T26 l0 x20_2).f1), .int .i64 ((rd_T26 l0 x20_2).f2), .int .i64 ((rd_T26 l0 x20_2).f3.f0), .int .i64 ((rd_T26 l0 x20_2).f3.f1)], .agg #[.string a2_0, .string a2_1, .int .i64 a2_2, .int .i64 a2_3, .int .i64 a2_4]] (by rfl) rfl rfl (by (try simp only [List.map_toArray, List.map_cons, List.map_nil]); first | done | rfl | (simp only [List.length_drop, List.length_take]; rfl)) ?_
         with_reducible refine (ref07_Newer.calls ((rd_T26 l0 x20_2).f0) ((rd_T26 l0 x20_2).f1) ((rd_T26 l0 x20_2).f2) ((rd_T26 l0 x20_2).f3.f0) ((rd_T26 l0 x20_2).f3.f1) a2_0 a2_1 a2_2 a2_3 a2_4 t248 _ A51.out).mono ?_
         rintro e w55 ⟨rfl, hb⟩
         refine ⟨_, rfl, ?_⟩
         have n0_ := Aside0.mk (blk_below (g := gb209) (o := .cells #[.string a2_0, .string a2_1, .int .i64 a2_2, .int .i64 a2_3, .int .i64 a2_4] 26 (0, 0)) (by (with_reducible repeat (first | refine blk_drewN ?_ _ | refine blk_drew ?_ | refine blk_alloc ?_ _)); exact BK209.out) hb)
         have n1_ := Aside0.mk (blk_below (g := gb238) (o := .cells #[.string t232, .string t233, .int .i64 t234, .int .i64 t235, .int .i64 t236] 26 (0, 0)) (by (with_reducible repeat (first | refine blk_drewN ?_ _ | refine blk_drew ?_ | refine blk_alloc ?_ _)); exact BK238.out) hb)
         have n2_ := Aside0.mk (blk_below (g := gb245) (o := .cells #[.string t239, .string t240, .int .i64 t241, .int .i64 t242, .int .i64 t243] 26 (0, 0)) (by (with_reducible repeat (first | refine blk_drewN ?_ _ | refine blk_drew ?_ | refine blk_alloc ?_ _)); exact BK245.out) hb)
         have n3_ := Aside0.mk (below_step (by repeat (first | (with_reducible first | exact HB.out | apply below_alloc | apply pw_below_drewN | apply below_drew1 | refine below_set ?_ GE209.out | refine below_set ?_ GE238.out | refine below_set ?_ GE245.out) | exact HB.out)) hb)
         clear BK209
         clear BK238
         clear BK245
         clear HB
         have BK209 := n0_
         have BK238 := n1_
         have BK245 := n2_
         have HB := n3_
         clear n0_ n1_ n2_ n3_
         (try clear hb)
         (try clear hb2)
         (try clear hk)
         (try clear hi)
         refine hK.out _ _ ⟨(blk_cell BK209.out 0).trans rfl, (blk_cell BK209.out 1).trans rfl, (blk_cell BK209.out 2).trans rfl, (blk_cell BK209.out 3).trans rfl, (blk_cell BK209.out 4).trans rfl, ((HB.out.cell (World.block_lt_of_cell? w _ hw247_0)).trans hw247_0), ((HB.out.cell (World.block_lt_of_cell? w _ hw247_1)).trans hw247_1), ((HB.out.cell (World.block_lt_of_cell? w _ hw247_2)).trans hw247_2), ((HB.out.cell (World.block_lt_of_cell? w _ hw247_3)).trans hw247_3), ((HB.out.cell (World.block_lt_of_cell? w _ hw247_4)).trans hw247_4)⟩ (fun hHeld => ?_)
         clear hK K
         refine norm_ (a' := ?_) ?_ ?_
         rotate_left
         ·show Act.put _ (some 89) _ = _
          simp only [Act.put, List.setIfInBounds_toArray, List.set_cons_zero, List.set_cons_succ, i64_w, i32_w]
          rfl
         refine pure_ (i := 6) (N := some 21) (v := ?_) (a' := ?_) #[true,true,true,true,true,true,true] rfl rfl (by kernel_rfl) (fun _ _ _ h => h) (Or.inl ⟨by rfl, ?_⟩) ?_ ?_
         rotate_left
         ·intro w'
          go_simp
          with_reducible rfl
         rotate_left
         ·simp only [Act.put, List.setIfInBounds_toArray, List.set_cons_zero, List.set_cons_succ, i64_w, i32_w]
          rfl
         refine done_ (by kernel_rfl) ?_
         try go_wp2
         have n0_ := Aside0.mk (blk_drew BK209.out)
         have n1_ := Aside0.mk (blk_drew BK238.out)
         have n2_ := Aside0.mk (blk_drew BK245.out)
         have n3_ := Aside0.mk (below_drew1 HB.out)
         clear BK209
         clear BK238
         clear BK245
         clear HB
         have BK209 := n0_
         have BK238 := n1_
         have BK245 := n2_
         have HB := n3_
         clear n0_ n1_ n2_ n3_
         have p249 : 0 ≤ (x20_2 : Int) := of_decide_eq_true (by first | (with_reducible assumption) | assumption)
         have q249 : x20_2 < (l0.length : Int) := of_decide_eq_true (by first | (with_reducible assumption) | assumption)
         obtain ⟨ad249, e249, hx249_0, hx249_1, hx249_2, hx249_3, hx249_4⟩ := at_T26 HR0.out x20_2 p249 q249
         have hw249_4 := hx249_4
         have hw249_3 := hx249_3
         have hw249_2 := hx249_2
         have hw249_1 := hx249_1
         have hw249_0 := hx249_0
         obtain rfl : ad247 = ad249 := (by injection e249)
         replace hx249_0 := (HB.out.cell (World.block_lt_of_cell? w _ hx249_0)).trans hx249_0
         replace hx249_1 := (HB.out.cell (World.block_lt_of_cell? w _ hx249_1)).trans hx249_1
         replace hx249_2 := (HB.out.cell (World.block_lt_of_cell? w _ hx249_2)).trans hx249_2
         replace hx249_3 := (HB.out.cell (World.block_lt_of_cell? w _ hx249_3)).trans hx249_3
         replace hx249_4 := (HB.out.cell (World.block_lt_of_cell? w _ hx249_4)).trans hx249_4
         replace p249 := eq_true p249
         replace q249 := eq_true q249
         refine start_ (n := 8) (S := fun w' => w'.cell? ⟨gb209, 0, none⟩ = some (.string a2_0) ∧ w'.cell? ⟨gb209, 1, none⟩ = some (.string a2_1) ∧ w'.cell? ⟨gb209, 2, none⟩ = some (.int .i64 a2_2) ∧ w'.cell? ⟨gb209, 3, none⟩ = some (.int .i64 a2_3) ∧ w'.cell? ⟨gb209, 4, none⟩ = some (.int .i64 a2_4) ∧ w'.cell? (ad247.add ((x20_2).toNat * 5)) = some (.string ((rd_T26 l0 x20_2).f0)) ∧ w'.cell? ⟨(ad247.add ((x20_2).toNat * 5)).block, (ad247.add ((x20_2).toNat * 5)).off + 1, none⟩ = some (.string ((rd_T26 l0 x20_2).f1)) ∧ w'.cell? ⟨(ad247.add ((x20_2).toNat * 5)).block, (ad247.add ((x20_2).toNat * 5)).off + 2, none⟩ = some (.int .i64 ((rd_T26 l0 x20_2).f2)) ∧ w'.cell? ⟨(ad247.add ((x20_2).toNat * 5)).block, (ad247.add ((x20_2).toNat * 5)).off + 3, none⟩ = some (.int .i64 ((rd_T26 l0 x20_2).f3.f0)) ∧ w'.cell? ⟨(ad247.add ((x20_2).toNat * 5)).block, (ad247.add ((x20_2).toNat * 5)).off + 4, none⟩ = some (.int .i64 ((rd_T26 l0 x20_2).f3.f1))) (ds := []) #[false,false,false,false,false,false,false,false] (by kernel_rfl) rfl rfl ⟨(blk_cell BK209.out 0).trans rfl, (blk_cell BK209.out 1).trans rfl, (blk_cell BK209.out 2).trans rfl, (blk_cell BK209.out 3).trans rfl, (blk_cell BK209.out 4).trans rfl, ((HB.out.cell (World.block_lt_of_cell? w _ hw249_0)).trans hw249_0), ((HB.out.cell (World.block_lt_of_cell? w _ hw249_1)).trans hw249_1), ((HB.out.cell (World.block_lt_of_cell? w _ hw249_2)).trans hw249_2), ((HB.out.cell (World.block_lt_of_cell? w _ hw249_3)).trans hw249_3), ((HB.out.cell (World.block_lt_of_cell? w _ hw249_4)).trans hw249_4)⟩ (fun hHeld => ?_); refine with_tabW law07_RegTells.tab16 law07_RegTells.bits16 (fun HT_ HW_ => ?_)
         generalize w55.drew = w56 at BK209 BK238 BK245 HB hx249_0 hx249_1 hx249_2 hx249_3 hx249_4 hHeld ⊢
         refine pure_ (i := 0) (N := some 90) (v := ?_) (a' := ?_) #[true,false,false,false,false,false,false,false] rfl rfl (any_of HT_.out (by kernel_rfl)) (fun _ _ _ h => h) (Or.inl ⟨by rfl, ?_⟩) ?_ ?_
         rotate_left
         ·intro w'
          go_simp
          with_reducible rfl
         rotate_left
         ·simp only [Act.put, List.setIfInBounds_toArray, List.set_cons_zero, List.set_cons_succ, i64_w, i32_w]
          rfl
         refine pure_ (i := 1) (N := some 91) (v := ?_) (a' := ?_) #[true,true,false,false,false,false,false,false] rfl rfl (any_of HT_.out (by kernel_rfl)) (fun _ _ _ h => h) (Or.inl ⟨by rfl, ?_⟩) ?_ ?_
         rotate_left
         ·intro w'
          go_simp
          with_reducible rfl
         rotate_left
         ·simp only [Act.put, List.setIfInBounds_toArray, List.set_cons_zero, List.set_cons_succ, i64_w, i32_w]
          rfl
         refine pure_ (i := 2) (N := some 92) (v := ?_) (a' := ?_) #[true,true,true,false,false,false,false,false] rfl rfl (any_of HT_.out (by kernel_rfl)) (fun _ _ _ h => h) (Or.inl ⟨by rfl, ?_⟩) ?_ ?_
         rotate_left
         ·intro w'
          go_simp
          with_reducible rfl
         rotate_left
         ·simp only [Act.put, List.setIfInBounds_toArray, List.set_cons_zero, List.set_cons_succ, i64_w, i32_w]
          rfl
         refine pure_ (i := 6) (N := some 96) (v := ?_) (a' := ?_) #[true,true,true,false,false,false,true,false] rfl rfl (any_of HT_.out (by kernel_rfl)) (fun _ _ _ h => h) (Or.inl ⟨by rfl, ?_⟩) ?_ ?_
         rotate_left
         ·intro w'
          go_simp
          with_reducible rfl
         rotate_left
         ·simp only [Act.put, List.setIfInBounds_toArray, List.set_cons_zero, List.set_cons_succ, i64_w, i32_w]
          rfl
         refine take_ (i := 3) (N := some 93) (v := ?_) (a' := ?_) #[true,true,true,true,false,false,true,false] rfl rfl (take_ofW HT_.out HW_.out (by kernel_rfl)) (fun _ _ _ h => h) (Or.inl ⟨by rfl, ?_⟩) hHeld ?_ ?_
         rotate_left
         ·rintro w' ⟨s0, s1, s2, s3, s4, s5, s6, s7, s8, s9⟩
          go_simp
          with_reducible rfl
         rotate_left
         ·simp only [Act.put, List.setIfInBounds_toArray, List.set_cons_zero, List.set_cons_succ, i64_w, i32_w]
          rfl
         refine take_ (i := 4) (N := some 94) (v := ?_) (a' := ?_) #[true,true,true,true,true,false,true,false] rfl rfl (take_ofW HT_.out HW_.out (by kernel_rfl)) (fun _ _ _ h => h) (Or.inl ⟨by rfl, ?_⟩) hHeld ?_ ?_
         rotate_left
         ·rintro w' ⟨s0, s1, s2, s3, s4, s5, s6, s7, s8, s9⟩
          go_simp
          with_reducible rfl
         rotate_left
         ·simp only [Act.put, List.setIfInBounds_toArray, List.set_cons_zero, List.set_cons_succ, i64_w, i32_w]
          rfl
         refine one_ (i := 5) (N := some 95) #[true,true,true,true,true,true,true,false] rfl rfl (one_of HT_.out (by kernel_rfl)) (by decide) (fun K hK => ?_)
         refine goes_ Try.func31 (by kernel_rfl) rfl #[.agg #[.string ((rd_T26 l0 x20_2).f0), .string ((rd_T26 l0 x20_2).f1), .int .i64 ((rd_T26 l0 x20_2).f2), .int .i64 ((rd_T26 l0 x20_2).f3.f0), .int .i64 ((rd_T26 l0 x20_2).f3.f1)], .agg #[.string a2_0, .string a2_1, .int .i64 a2_2, .int .i64 a2_3, .int .i64 a2_4]] (by rfl) rfl rfl (by (try simp only [List.map_toArray, List.map_cons, List.map_nil]); first | done | rfl | (simp only [List.length_drop, List.length_take]; rfl)) ?_
         with_reducible refine (reg_Newer.calls k2 ((rd_T26 l0 x20_2).f0) ((rd_T26 l0 x20_2).f1) ((rd_T26 l0 x20_2).f2) ((rd_T26 l0 x20_2).f3.f0) ((rd_T26 l0 x20_2).f3.f1) a2_0 a2_1 a2_2 a2_3 a2_4 t250 _ A52.out).mono ?_
         rintro e w57 ⟨rfl, hb⟩
         refine ⟨_, rfl, ?_⟩
         have n0_ := Aside0.mk (blk_below (g := gb209) (o := .cells #[.string a2_0, .string a2_1, .int .i64 a2_2, .int .i64 a2_3, .int .i64 a2_4] 26 (0, 0)) (by (with_reducible repeat (first | refine blk_drewN ?_ _ | refine blk_drew ?_ | refine blk_alloc ?_ _)); exact BK209.out) hb)
         have n1_ := Aside0.mk (blk_below (g := gb238) (o := .cells #[.string t232, .string t233, .int .i64 t234, .int .i64 t235, .int .i64 t236] 26 (0, 0)) (by (with_reducible repeat (first | refine blk_drewN ?_ _ | refine blk_drew ?_ | refine blk_alloc ?_ _)); exact BK238.out) hb)
         have n2_ := Aside0.mk (blk_below (g := gb245) (o := .cells #[.string t239, .string t240, .int .i64 t241, .int .i64 t242, .int .i64 t243] 26 (0, 0)) (by (with_reducible repeat (first | refine blk_drewN ?_ _ | refine blk_drew ?_ | refine blk_alloc ?_ _)); exact BK245.out) hb)
         have n3_ := Aside0.mk (below_step (by repeat (first | (with_reducible first | exact HB.out | apply below_alloc | apply pw_below_drewN | apply below_drew1 | refine below_set ?_ GE209.out | refine below_set ?_ GE238.out | refine below_set ?_ GE245.out) | exact HB.out)) hb)
         clear BK209
         clear BK238
         clear BK245
         clear HB
         have BK209 := n0_
         have BK238 := n1_
         have BK245 := n2_
         have HB := n3_
         clear n0_ n1_ n2_ n3_
         (try clear hb)
         (try clear hb2)
         (try clear hk)
         (try clear hi)
         refine hK.out _ _ ⟨(blk_cell BK209.out 0).trans rfl, (blk_cell BK209.out 1).trans rfl, (blk_cell BK209.out 2).trans rfl, (blk_cell BK209.out 3).trans rfl, (blk_cell BK209.out 4).trans rfl, ((HB.out.cell (World.block_lt_of_cell? w _ hw249_0)).trans hw249_0), ((HB.out.cell (World.block_lt_of_cell? w _ hw249_1)).trans hw249_1), ((HB.out.cell (World.block_lt_of_cell? w _ hw249_2)).trans hw249_2), ((HB.out.cell (World.block_lt_of_cell? w _ hw249_3)).trans hw249_3), ((HB.out.cell (World.block_lt_of_cell? w _ hw249_4)).trans hw249_4)⟩ (fun hHeld => ?_)
         clear hK K
         refine norm_ (a' := ?_) ?_ ?_
         rotate_left
         ·show Act.put _ (some 95) _ = _
          simp only [Act.put, List.setIfInBounds_toArray, List.set_cons_zero, List.set_cons_succ, i64_w, i32_w]
          rfl
         refine pure_ (i := 7) (N := some 97) (v := ?_) (a' := ?_) #[true,true,true,true,true,true,true,true] rfl rfl (any_of HT_.out (by kernel_rfl)) (fun _ _ _ h => h) (Or.inl ⟨by rfl, ?_⟩) ?_ ?_
         rotate_left
         ·intro w'
          go_simp
          with_reducible rfl
         rotate_left
         ·simp only [Act.put, List.setIfInBounds_toArray, List.set_cons_zero, List.set_cons_succ, i64_w, i32_w]
          rfl
         refine done_ (done_of HT_.out (by kernel_rfl)) ?_
         try go_wp2
         go_ret
         exact ⟨by first | rfl | (simp [errW_none, errW_some] <;> rfl) | (simp [*, errW_none, errW_some] <;> rfl), by repeat (first | (with_reducible first | exact HB.out | apply below_alloc | apply pw_below_drewN | apply below_drew1 | refine below_set ?_ GE209.out | refine below_set ?_ GE238.out | refine below_set ?_ GE245.out) | exact HB.out)⟩
        ·rw [if_neg c53] at H
         have c53b0 : (t250 != t248) = false := by simpa using c53
         (try (have c53b1 : decide (t250 = t248) = true := by simpa using c53))
         (try (have c53b2 : (t250 == t248) = true := by simpa using c53))
         clear c53
         have H' := Aside0.mk H
         clear H
         try go_wp2
         have n0_ := Aside0.mk (blk_drew BK209.out)
         have n1_ := Aside0.mk (blk_drew BK238.out)
         have n2_ := Aside0.mk (blk_drew BK245.out)
         have n3_ := Aside0.mk (below_drew1 HB.out)
         clear BK209
         clear BK238
         clear BK245
         clear HB
         have BK209 := n0_
         have BK238 := n1_
         have BK245 := n2_
         have HB := n3_
         clear n0_ n1_ n2_ n3_
         have p247 : 0 ≤ (x20_2 : Int) := of_decide_eq_true (by first | (with_reducible assumption) | assumption)
         have q247 : x20_2 < (l0.length : Int) := of_decide_eq_true (by first | (with_reducible assumption) | assumption)
         obtain ⟨ad247, e247, hx247_0, hx247_1, hx247_2, hx247_3, hx247_4⟩ := at_T26 HR0.out x20_2 p247 q247
         have hw247_4 := hx247_4
         have hw247_3 := hx247_3
         have hw247_2 := hx247_2
         have hw247_1 := hx247_1
         have hw247_0 := hx247_0
         cases e247
         replace hx247_0 := (HB.out.cell (World.block_lt_of_cell? w _ hx247_0)).trans hx247_0
         replace hx247_1 := (HB.out.cell (World.block_lt_of_cell? w _ hx247_1)).trans hx247_1
         replace hx247_2 := (HB.out.cell (World.block_lt_of_cell? w _ hx247_2)).trans hx247_2
         replace hx247_3 := (HB.out.cell (World.block_lt_of_cell? w _ hx247_3)).trans hx247_3
         replace hx247_4 := (HB.out.cell (World.block_lt_of_cell? w _ hx247_4)).trans hx247_4
         replace p247 := eq_true p247
         replace q247 := eq_true q247
         refine start_ (n := 7) (S := fun w' => w'.cell? ⟨gb209, 0, none⟩ = some (.string a2_0) ∧ w'.cell? ⟨gb209, 1, none⟩ = some (.string a2_1) ∧ w'.cell? ⟨gb209, 2, none⟩ = some (.int .i64 a2_2) ∧ w'.cell? ⟨gb209, 3, none⟩ = some (.int .i64 a2_3) ∧ w'.cell? ⟨gb209, 4, none⟩ = some (.int .i64 a2_4) ∧ w'.cell? (ad247.add ((x20_2).toNat * 5)) = some (.string ((rd_T26 l0 x20_2).f0)) ∧ w'.cell? ⟨(ad247.add ((x20_2).toNat * 5)).block, (ad247.add ((x20_2).toNat * 5)).off + 1, none⟩ = some (.string ((rd_T26 l0 x20_2).f1)) ∧ w'.cell? ⟨(ad247.add ((x20_2).toNat * 5)).block, (ad247.add ((x20_2).toNat * 5)).off + 2, none⟩ = some (.int .i64 ((rd_T26 l0 x20_2).f2)) ∧ w'.cell? ⟨(ad247.add ((x20_2).toNat * 5)).block, (ad247.add ((x20_2).toNat * 5)).off + 3, none⟩ = some (.int .i64 ((rd_T26 l0 x20_2).f3.f0)) ∧ w'.cell? ⟨(ad247.add ((x20_2).toNat * 5)).block, (ad247.add ((x20_2).toNat * 5)).off + 4, none⟩ = some (.int .i64 ((rd_T26 l0 x20_2).f3.f1))) (ds := []) #[false,false,false,false,false,false,false] (by kernel_rfl) rfl rfl ⟨(blk_cell BK209.out 0).trans rfl, (blk_cell BK209.out 1).trans rfl, (blk_cell BK209.out 2).trans rfl, (blk_cell BK209.out 3).trans rfl, (blk_cell BK209.out 4).trans rfl, ((HB.out.cell (World.block_lt_of_cell? w _ hw247_0)).trans hw247_0), ((HB.out.cell (World.block_lt_of_cell? w _ hw247_1)).trans hw247_1), ((HB.out.cell (World.block_lt_of_cell? w _ hw247_2)).trans hw247_2), ((HB.out.cell (World.block_lt_of_cell? w _ hw247_3)).trans hw247_3), ((HB.out.cell (World.block_lt_of_cell? w _ hw247_4)).trans hw247_4)⟩ (fun hHeld => ?_)
         generalize wr.drew = w58 at BK209 BK238 BK245 HB hx247_0 hx247_1 hx247_2 hx247_3 hx247_4 hHeld ⊢
         refine pure_ (i := 0) (N := some 84) (v := ?_) (a' := ?_) #[true,false,false,false,false,false,false] rfl rfl (by kernel_rfl) (fun _ _ _ h => h) (Or.inl ⟨by rfl, ?_⟩) ?_ ?_
         rotate_left
         ·intro w'
          go_simp
          with_reducible rfl
         rotate_left
         ·simp only [Act.put, List.setIfInBounds_toArray, List.set_cons_zero, List.set_cons_succ, i64_w, i32_w]
          rfl
         refine pure_ (i := 1) (N := some 85) (v := ?_) (a' := ?_) #[true,true,false,false,false,false,false] rfl rfl (by kernel_rfl) (fun _ _ _ h => h) (Or.inl ⟨by rfl, ?_⟩) ?_ ?_
         rotate_left
         ·intro w'
          go_simp
          with_reducible rfl
         rotate_left
         ·simp only [Act.put, List.setIfInBounds_toArray, List.set_cons_zero, List.set_cons_succ, i64_w, i32_w]
          rfl
         refine pure_ (i := 2) (N := some 86) (v := ?_) (a' := ?_) #[true,true,true,false,false,false,false] rfl rfl (by kernel_rfl) (fun _ _ _ h => h) (Or.inl ⟨by rfl, ?_⟩) ?_ ?_
         rotate_left
         ·intro w'
          go_simp
          with_reducible rfl
         rotate_left
         ·simp only [Act.put, List.setIfInBounds_toArray, List.set_cons_zero, List.set_cons_succ, i64_w, i32_w]
          rfl
         refine take_ (i := 3) (N := some 87) (v := ?_) (a' := ?_) #[true,true,true,true,false,false,false] rfl rfl (by kernel_rfl) (fun _ _ _ h => h) (Or.inl ⟨by rfl, ?_⟩) hHeld ?_ ?_
         rotate_left
         ·rintro w' ⟨s0, s1, s2, s3, s4, s5, s6, s7, s8, s9⟩
          go_simp
          with_reducible rfl
         rotate_left
         ·simp only [Act.put, List.setIfInBounds_toArray, List.set_cons_zero, List.set_cons_succ, i64_w, i32_w]
          rfl
         refine take_ (i := 4) (N := some 88) (v := ?_) (a' := ?_) #[true,true,true,true,true,false,false] rfl rfl (by kernel_rfl) (fun _ _ _ h => h) (Or.inl ⟨by rfl, ?_⟩) hHeld ?_ ?_
         rotate_left
         ·rintro w' ⟨s0, s1, s2, s3, s4, s5, s6, s7, s8, s9⟩
          go_simp
          with_reducible rfl
         rotate_left
         ·simp only [Act.put, List.setIfInBounds_toArray, List.set_cons_zero, List.set_cons_succ, i64_w, i32_w]
          rfl
         refine one_ (i := 5) (N := some 89) #[true,true,true,true,true,true,false] rfl rfl (by kernel_rfl) (by decide) (fun K hK => ?_)
         refine goes_ Try.func30 (by kernel_rfl) rfl #[.agg #[.string ((rd_T26 l0 x20_2).f0), .string ((rd_T26 l0 x20_2).f1), .int .i64 ((rd_T26 l0 x20_2).f2), .int .i64 ((rd_T26 l0 x20_2).f3.f0), .int .i64 ((rd_T26 l0 x20_2).f3.f1)], .agg #[.string a2_0, .string a2_1, .int .i64 a2_2, .int .i64 a2_3, .int .i64 a2_4]] (by rfl) rfl rfl (by (try simp only [List.map_toArray, List.map_cons, List.map_nil]); first | done | rfl | (simp only [List.length_drop, List.length_take]; rfl)) ?_
         with_reducible refine (ref07_Newer.calls ((rd_T26 l0 x20_2).f0) ((rd_T26 l0 x20_2).f1) ((rd_T26 l0 x20_2).f2) ((rd_T26 l0 x20_2).f3.f0) ((rd_T26 l0 x20_2).f3.f1) a2_0 a2_1 a2_2 a2_3 a2_4 t248 _ A51.out).mono ?_
         rintro e w59 ⟨rfl, hb⟩
         refine ⟨_, rfl, ?_⟩
         have n0_ := Aside0.mk (blk_below (g := gb209) (o := .cells #[.string a2_0, .string a2_1, .int .i64 a2_2, .int .i64 a2_3, .int .i64 a2_4] 26 (0, 0)) (by (with_reducible repeat (first | refine blk_drewN ?_ _ | refine blk_drew ?_ | refine blk_alloc ?_ _)); exact BK209.out) hb)
         have n1_ := Aside0.mk (blk_below (g := gb238) (o := .cells #[.string t232, .string t233, .int .i64 t234, .int .i64 t235, .int .i64 t236] 26 (0, 0)) (by (with_reducible repeat (first | refine blk_drewN ?_ _ | refine blk_drew ?_ | refine blk_alloc ?_ _)); exact BK238.out) hb)
         have n2_ := Aside0.mk (blk_below (g := gb245) (o := .cells #[.string t239, .string t240, .int .i64 t241, .int .i64 t242, .int .i64 t243] 26 (0, 0)) (by (with_reducible repeat (first | refine blk_drewN ?_ _ | refine blk_drew ?_ | refine blk_alloc ?_ _)); exact BK245.out) hb)
         have n3_ := Aside0.mk (below_step (by repeat (first | (with_reducible first | exact HB.out | apply below_alloc | apply pw_below_drewN | apply below_drew1 | refine below_set ?_ GE209.out | refine below_set ?_ GE238.out | refine below_set ?_ GE245.out) | exact HB.out)) hb)
         clear BK209
         clear BK238
         clear BK245
         clear HB
         have BK209 := n0_
         have BK238 := n1_
         have BK245 := n2_
         have HB := n3_
         clear n0_ n1_ n2_ n3_
         (try clear hb)
         (try clear hb2)
         (try clear hk)
         (try clear hi)
         refine hK.out _ _ ⟨(blk_cell BK209.out 0).trans rfl, (blk_cell BK209.out 1).trans rfl, (blk_cell BK209.out 2).trans rfl, (blk_cell BK209.out 3).trans rfl, (blk_cell BK209.out 4).trans rfl, ((HB.out.cell (World.block_lt_of_cell? w _ hw247_0)).trans hw247_0), ((HB.out.cell (World.block_lt_of_cell? w _ hw247_1)).trans hw247_1), ((HB.out.cell (World.block_lt_of_cell? w _ hw247_2)).trans hw247_2), ((HB.out.cell (World.block_lt_of_cell? w _ hw247_3)).trans hw247_3), ((HB.out.cell (World.block_lt_of_cell? w _ hw247_4)).trans hw247_4)⟩ (fun hHeld => ?_)
         clear hK K
         refine norm_ (a' := ?_) ?_ ?_
         rotate_left
         ·show Act.put _ (some 89) _ = _
          simp only [Act.put, List.setIfInBounds_toArray, List.set_cons_zero, List.set_cons_succ, i64_w, i32_w]
          rfl
         refine pure_ (i := 6) (N := some 21) (v := ?_) (a' := ?_) #[true,true,true,true,true,true,true] rfl rfl (by kernel_rfl) (fun _ _ _ h => h) (Or.inl ⟨by rfl, ?_⟩) ?_ ?_
         rotate_left
         ·intro w'
          go_simp
          with_reducible rfl
         rotate_left
         ·simp only [Act.put, List.setIfInBounds_toArray, List.set_cons_zero, List.set_cons_succ, i64_w, i32_w]
          rfl
         refine done_ (by kernel_rfl) ?_
         try go_wp2
         have n0_ := Aside0.mk (blk_drew BK209.out)
         have n1_ := Aside0.mk (blk_drew BK238.out)
         have n2_ := Aside0.mk (blk_drew BK245.out)
         have n3_ := Aside0.mk (below_drew1 HB.out)
         clear BK209
         clear BK238
         clear BK245
         clear HB
         have BK209 := n0_
         have BK238 := n1_
         have BK245 := n2_
         have HB := n3_
         clear n0_ n1_ n2_ n3_
         have p249 : 0 ≤ (x20_2 : Int) := of_decide_eq_true (by first | (with_reducible assumption) | assumption)
         have q249 : x20_2 < (l0.length : Int) := of_decide_eq_true (by first | (with_reducible assumption) | assumption)
         obtain ⟨ad249, e249, hx249_0, hx249_1, hx249_2, hx249_3, hx249_4⟩ := at_T26 HR0.out x20_2 p249 q249
         have hw249_4 := hx249_4
         have hw249_3 := hx249_3
         have hw249_2 := hx249_2
         have hw249_1 := hx249_1
         have hw249_0 := hx249_0
         obtain rfl : ad247 = ad249 := (by injection e249)
         replace hx249_0 := (HB.out.cell (World.block_lt_of_cell? w _ hx249_0)).trans hx249_0
         replace hx249_1 := (HB.out.cell (World.block_lt_of_cell? w _ hx249_1)).trans hx249_1
         replace hx249_2 := (HB.out.cell (World.block_lt_of_cell? w _ hx249_2)).trans hx249_2
         replace hx249_3 := (HB.out.cell (World.block_lt_of_cell? w _ hx249_3)).trans hx249_3
         replace hx249_4 := (HB.out.cell (World.block_lt_of_cell? w _ hx249_4)).trans hx249_4
         replace p249 := eq_true p249
         replace q249 := eq_true q249
         refine start_ (n := 8) (S := fun w' => w'.cell? ⟨gb209, 0, none⟩ = some (.string a2_0) ∧ w'.cell? ⟨gb209, 1, none⟩ = some (.string a2_1) ∧ w'.cell? ⟨gb209, 2, none⟩ = some (.int .i64 a2_2) ∧ w'.cell? ⟨gb209, 3, none⟩ = some (.int .i64 a2_3) ∧ w'.cell? ⟨gb209, 4, none⟩ = some (.int .i64 a2_4) ∧ w'.cell? (ad247.add ((x20_2).toNat * 5)) = some (.string ((rd_T26 l0 x20_2).f0)) ∧ w'.cell? ⟨(ad247.add ((x20_2).toNat * 5)).block, (ad247.add ((x20_2).toNat * 5)).off + 1, none⟩ = some (.string ((rd_T26 l0 x20_2).f1)) ∧ w'.cell? ⟨(ad247.add ((x20_2).toNat * 5)).block, (ad247.add ((x20_2).toNat * 5)).off + 2, none⟩ = some (.int .i64 ((rd_T26 l0 x20_2).f2)) ∧ w'.cell? ⟨(ad247.add ((x20_2).toNat * 5)).block, (ad247.add ((x20_2).toNat * 5)).off + 3, none⟩ = some (.int .i64 ((rd_T26 l0 x20_2).f3.f0)) ∧ w'.cell? ⟨(ad247.add ((x20_2).toNat * 5)).block, (ad247.add ((x20_2).toNat * 5)).off + 4, none⟩ = some (.int .i64 ((rd_T26 l0 x20_2).f3.f1))) (ds := []) #[false,false,false,false,false,false,false,false] (by kernel_rfl) rfl rfl ⟨(blk_cell BK209.out 0).trans rfl, (blk_cell BK209.out 1).trans rfl, (blk_cell BK209.out 2).trans rfl, (blk_cell BK209.out 3).trans rfl, (blk_cell BK209.out 4).trans rfl, ((HB.out.cell (World.block_lt_of_cell? w _ hw249_0)).trans hw249_0), ((HB.out.cell (World.block_lt_of_cell? w _ hw249_1)).trans hw249_1), ((HB.out.cell (World.block_lt_of_cell? w _ hw249_2)).trans hw249_2), ((HB.out.cell (World.block_lt_of_cell? w _ hw249_3)).trans hw249_3), ((HB.out.cell (World.block_lt_of_cell? w _ hw249_4)).trans hw249_4)⟩ (fun hHeld => ?_); refine with_tabW law07_RegTells.tab16 law07_RegTells.bits16 (fun HT_ HW_ => ?_)
         generalize w59.drew = w60 at BK209 BK238 BK245 HB hx249_0 hx249_1 hx249_2 hx249_3 hx249_4 hHeld ⊢
         refine pure_ (i := 0) (N := some 90) (v := ?_) (a' := ?_) #[true,false,false,false,false,false,false,false] rfl rfl (any_of HT_.out (by kernel_rfl)) (fun _ _ _ h => h) (Or.inl ⟨by rfl, ?_⟩) ?_ ?_
         rotate_left
         ·intro w'
          go_simp
          with_reducible rfl
         rotate_left
         ·simp only [Act.put, List.setIfInBounds_toArray, List.set_cons_zero, List.set_cons_succ, i64_w, i32_w]
          rfl
         refine pure_ (i := 1) (N := some 91) (v := ?_) (a' := ?_) #[true,true,false,false,false,false,false,false] rfl rfl (any_of HT_.out (by kernel_rfl)) (fun _ _ _ h => h) (Or.inl ⟨by rfl, ?_⟩) ?_ ?_
         rotate_left
         ·intro w'
          go_simp
          with_reducible rfl
         rotate_left
         ·simp only [Act.put, List.setIfInBounds_toArray, List.set_cons_zero, List.set_cons_succ, i64_w, i32_w]
          rfl
         refine pure_ (i := 2) (N := some 92) (v := ?_) (a' := ?_) #[true,true,true,false,false,false,false,false] rfl rfl (any_of HT_.out (by kernel_rfl)) (fun _ _ _ h => h) (Or.inl ⟨by rfl, ?_⟩) ?_ ?_
         rotate_left
         ·intro w'
          go_simp
          with_reducible rfl
         rotate_left
         ·simp only [Act.put, List.setIfInBounds_toArray, List.set_cons_zero, List.set_cons_succ, i64_w, i32_w]
          rfl
         refine pure_ (i := 6) (N := some 96) (v := ?_) (a' := ?_) #[true,true,true,false,false,false,true,false] rfl rfl (any_of HT_.out (by kernel_rfl)) (fun _ _ _ h => h) (Or.inl ⟨by rfl, ?_⟩) ?_ ?_
         rotate_left
         ·intro w'
          go_simp
          with_reducible rfl
         rotate_left
         ·simp only [Act.put, List.setIfInBounds_toArray, List.set_cons_zero, List.set_cons_succ, i64_w, i32_w]
          rfl
         refine take_ (i := 3) (N := some 93) (v := ?_) (a' := ?_) #[true,true,true,true,false,false,true,false] rfl rfl (take_ofW HT_.out HW_.out (by kernel_rfl)) (fun _ _ _ h => h) (Or.inl ⟨by rfl, ?_⟩) hHeld ?_ ?_
         rotate_left
         ·rintro w' ⟨s0, s1, s2, s3, s4, s5, s6, s7, s8, s9⟩
          go_simp
          with_reducible rfl
         rotate_left
         ·simp only [Act.put, List.setIfInBounds_toArray, List.set_cons_zero, List.set_cons_succ, i64_w, i32_w]
          rfl
         refine take_ (i := 4) (N := some 94) (v := ?_) (a' := ?_) #[true,true,true,true,true,false,true,false] rfl rfl (take_ofW HT_.out HW_.out (by kernel_rfl)) (fun _ _ _ h => h) (Or.inl ⟨by rfl, ?_⟩) hHeld ?_ ?_
         rotate_left
         ·rintro w' ⟨s0, s1, s2, s3, s4, s5, s6, s7, s8, s9⟩
          go_simp
          with_reducible rfl
         rotate_left
         ·simp only [Act.put, List.setIfInBounds_toArray, List.set_cons_zero, List.set_cons_succ, i64_w, i32_w]
          rfl
         refine one_ (i := 5) (N := some 95) #[true,true,true,true,true,true,true,false] rfl rfl (one_of HT_.out (by kernel_rfl)) (by decide) (fun K hK => ?_)
         refine goes_ Try.func31 (by kernel_rfl) rfl #[.agg #[.string ((rd_T26 l0 x20_2).f0), .string ((rd_T26 l0 x20_2).f1), .int .i64 ((rd_T26 l0 x20_2).f2), .int .i64 ((rd_T26 l0 x20_2).f3.f0), .int .i64 ((rd_T26 l0 x20_2).f3.f1)], .agg #[.string a2_0, .string a2_1, .int .i64 a2_2, .int .i64 a2_3, .int .i64 a2_4]] (by rfl) rfl rfl (by (try simp only [List.map_toArray, List.map_cons, List.map_nil]); first | done | rfl | (simp only [List.length_drop, List.length_take]; rfl)) ?_
         with_reducible refine (reg_Newer.calls k2 ((rd_T26 l0 x20_2).f0) ((rd_T26 l0 x20_2).f1) ((rd_T26 l0 x20_2).f2) ((rd_T26 l0 x20_2).f3.f0) ((rd_T26 l0 x20_2).f3.f1) a2_0 a2_1 a2_2 a2_3 a2_4 t250 _ A52.out).mono ?_
         rintro e w61 ⟨rfl, hb⟩
         refine ⟨_, rfl, ?_⟩
         have n0_ := Aside0.mk (blk_below (g := gb209) (o := .cells #[.string a2_0, .string a2_1, .int .i64 a2_2, .int .i64 a2_3, .int .i64 a2_4] 26 (0, 0)) (by (with_reducible repeat (first | refine blk_drewN ?_ _ | refine blk_drew ?_ | refine blk_alloc ?_ _)); exact BK209.out) hb)
         have n1_ := Aside0.mk (blk_below (g := gb238) (o := .cells #[.string t232, .string t233, .int .i64 t234, .int .i64 t235, .int .i64 t236] 26 (0, 0)) (by (with_reducible repeat (first | refine blk_drewN ?_ _ | refine blk_drew ?_ | refine blk_alloc ?_ _)); exact BK238.out) hb)
         have n2_ := Aside0.mk (blk_below (g := gb245) (o := .cells #[.string t239, .string t240, .int .i64 t241, .int .i64 t242, .int .i64 t243] 26 (0, 0)) (by (with_reducible repeat (first | refine blk_drewN ?_ _ | refine blk_drew ?_ | refine blk_alloc ?_ _)); exact BK245.out) hb)
         have n3_ := Aside0.mk (below_step (by repeat (first | (with_reducible first | exact HB.out | apply below_alloc | apply pw_below_drewN | apply below_drew1 | refine below_set ?_ GE209.out | refine below_set ?_ GE238.out | refine below_set ?_ GE245.out) | exact HB.out)) hb)
         clear BK209
         clear BK238
         clear BK245
         clear HB
         have BK209 := n0_
         have BK238 := n1_
         have BK245 := n2_
         have HB := n3_
         clear n0_ n1_ n2_ n3_
         (try clear hb)
         (try clear hb2)
         (try clear hk)
         (try clear hi)
         refine hK.out _ _ ⟨(blk_cell BK209.out 0).trans rfl, (blk_cell BK209.out 1).trans rfl, (blk_cell BK209.out 2).trans rfl, (blk_cell BK209.out 3).trans rfl, (blk_cell BK209.out 4).trans rfl, ((HB.out.cell (World.block_lt_of_cell? w _ hw249_0)).trans hw249_0), ((HB.out.cell (World.block_lt_of_cell? w _ hw249_1)).trans hw249_1), ((HB.out.cell (World.block_lt_of_cell? w _ hw249_2)).trans hw249_2), ((HB.out.cell (World.block_lt_of_cell? w _ hw249_3)).trans hw249_3), ((HB.out.cell (World.block_lt_of_cell? w _ hw249_4)).trans hw249_4)⟩ (fun hHeld => ?_)
         clear hK K
         refine norm_ (a' := ?_) ?_ ?_
         rotate_left
         ·show Act.put _ (some 95) _ = _
          simp only [Act.put, List.setIfInBounds_toArray, List.set_cons_zero, List.set_cons_succ, i64_w, i32_w]
          rfl
         refine pure_ (i := 7) (N := some 97) (v := ?_) (a' := ?_) #[true,true,true,true,true,true,true,true] rfl rfl (any_of HT_.out (by kernel_rfl)) (fun _ _ _ h => h) (Or.inl ⟨by rfl, ?_⟩) ?_ ?_
         rotate_left
         ·intro w'
          go_simp
          with_reducible rfl
         rotate_left
         ·simp only [Act.put, List.setIfInBounds_toArray, List.set_cons_zero, List.set_cons_succ, i64_w, i32_w]
          rfl
         refine done_ (done_of HT_.out (by kernel_rfl)) ?_
         try go_wp2
         go_roundg k2
         case measure => have := HJ8.out; have := HK2.out; omega
         case rel => exact ⟨(wrap64 (x20_2 + 1)), (by first | rfl | (simp; done) | (simp [*]; done)), H', ⟨by have := HJ8.out; have := HK2.out; omega⟩, ⟨by (with_reducible repeat (first | refine blk_drewN ?_ _ | refine blk_drew ?_ | refine blk_alloc ?_ _)); exact BK209.out⟩, ⟨by (with_reducible repeat (first | refine blk_drewN ?_ _ | refine blk_drew ?_ | refine blk_alloc ?_ _)); exact BK238.out⟩, ⟨by (with_reducible repeat (first | refine blk_drewN ?_ _ | refine blk_drew ?_ | refine blk_alloc ?_ _)); exact BK245.out⟩, ⟨by repeat (first | (with_reducible first | exact HB.out | apply below_alloc | apply pw_below_drewN | apply below_drew1 | refine below_set ?_ GE209.out | refine below_set ?_ GE238.out | refine below_set ?_ GE245.out) | exact HB.out)⟩⟩
       ·rw [if_neg c50] at H
        exact absurd H (by simp)
      ·rw [if_neg c49] at H
       have c49b0 : decide (x20_2 < (l0.length : Int)) = false := decide_eq_false c49
       clear c49
       replace H := Option.bind_eq_some_iff.mp H
       obtain ⟨t246, A620, H⟩ := H
       replace H : (if (t246 == t217) = true then (if t224 = true then (if t231 = true then (if (t232.toList == t239.toList && (t233.toList == t240.toList && (t234 == t241 && ((t235 == t242 && (t236 == t243)))))) = true then (some (t237 == t244)) else (some false)) else (some false)) else (some false)) else (some false)) = some r := H
       have A62 := Aside0.mk A620
       clear A620
       by_cases c63 : (t246 == t217) = true
       ·rw [if_pos c63] at H
        have c63b0 : (t246 == t217) = true := c63
        (try (have c63b1 : decide (t246 = t217) = true := by simpa using c63))
        (try (have c63b2 : (t246 == t217) = true := by simpa using c63))
        clear c63
        by_cases c64 : t224 = true
        ·subst c64
         have H1 : (if t231 = true then (if (t232.toList == t239.toList && (t233.toList == t240.toList && (t234 == t241 && ((t235 == t242 && (t236 == t243)))))) = true then (some (t237 == t244)) else (some false)) else (some false)) = some r := by rw [if_pos rfl] at H; exact H
         clear H
         have H := H1
         clear H1
         by_cases c65 : t231 = true
         ·subst c65
          have H1 : (if (t232.toList == t239.toList && (t233.toList == t240.toList && (t234 == t241 && ((t235 == t242 && (t236 == t243)))))) = true then (some (t237 == t244)) else (some false)) = some r := by rw [if_pos rfl] at H; exact H
          clear H
          have H := H1
          clear H1
          by_cases c66 : (t232.toList == t239.toList && (t233.toList == t240.toList && (t234 == t241 && ((t235 == t242 && (t236 == t243)))))) = true
          ·rw [if_pos c66] at H
           have c66b0 : (t232.toList == t239.toList && (t233.toList == t240.toList && (t234 == t241 && ((t235 == t242 && (t236 == t243)))))) = true := c66
           (try (have c66b1 : decide (t232.toList = t239.toList && (t233.toList == t240.toList && (t234 == t241 && ((t235 == t242 && (t236 == t243)))))) = true := by simpa using c66))
           (try (have c66b2 : (t232.toList == t239.toList && (t233.toList == t240.toList && (t234 == t241 && ((t235 == t242 && (t236 == t243)))))) = true := by simpa using c66))
           clear c66
           obtain rfl := Option.some.inj H
           go_wp2_with (first | ((with_reducible refine gate_callee (f := 32) rfl ?_); refine goesL_ (some 99) rfl rfl Try.func32 (by kernel_rfl) rfl #[.slice A0 l0.length c0] rfl (by (try simp only [List.map_toArray, List.map_cons, List.map_nil]); first | done | rfl | (simp only [List.length_drop, List.length_take]; rfl)) ?_; (with_reducible refine (reg_May.calls k2 _ _ l0 t246 _ ?side1 ?side2 A62.out).mono ?_); (case side1 => repeat (first | exact (Kd.C_below HR0.out HB.out) | (with_reducible refine Kd.C_alloc ?_ _) | (with_reducible refine Kd.C_drewN ?_ _) | (with_reducible refine Kd.C_drew ?_))); (case side2 => exact HC0.out); rintro e w67 ⟨rfl, hb⟩; refine ⟨_, rfl, ?_⟩; have n0_ := Aside0.mk (blk_below (g := gb209) (o := .cells #[.string a2_0, .string a2_1, .int .i64 a2_2, .int .i64 a2_3, .int .i64 a2_4] 26 (0, 0)) (by (with_reducible repeat (first | refine blk_drewN ?_ _ | refine blk_drew ?_ | refine blk_alloc ?_ _)); exact BK209.out) hb); have n1_ := Aside0.mk (blk_below (g := gb238) (o := .cells #[.string t232, .string t233, .int .i64 t234, .int .i64 t235, .int .i64 t236] 26 (0, 0)) (by (with_reducible repeat (first | refine blk_drewN ?_ _ | refine blk_drew ?_ | refine blk_alloc ?_ _)); exact BK238.out) hb); have n2_ := Aside0.mk (blk_below (g := gb245) (o := .cells #[.string t239, .string t240, .int .i64 t241, .int .i64 t242, .int .i64 t243] 26 (0, 0)) (by (with_reducible repeat (first | refine blk_drewN ?_ _ | refine blk_drew ?_ | refine blk_alloc ?_ _)); exact BK245.out) hb); have n3_ := Aside0.mk (below_step (by repeat (first | (with_reducible first | exact HB.out | apply below_alloc | apply pw_below_drewN | apply below_drew1 | refine below_set ?_ GE209.out | refine below_set ?_ GE238.out | refine below_set ?_ GE245.out) | exact HB.out)) hb); clear BK209; clear BK238; clear BK245; clear HB; have BK209 := n0_; have BK238 := n1_; have BK245 := n2_; have HB := n3_; clear n0_ n1_ n2_ n3_; (try clear hb); (try clear hb2); (try clear hk); (try clear hi); have hnb68 := NB238_209.out; have hnc68 := NB209_238.out; have hnb69 := NB238_245.out; have hnc69 := NB245_238.out; have hcz70_0 : w67.cell? ⟨gb238, 0, none⟩ = some (.string t232) := (blk_cell BK238.out 0).trans rfl; have hcz70_1 : w67.cell? ⟨gb238, 1, none⟩ = some (.string t233) := (blk_cell BK238.out 1).trans rfl; have hcz70_2 : w67.cell? ⟨gb238, 2, none⟩ = some (.int .i64 t234) := (blk_cell BK238.out 2).trans rfl; have hcz70_3 : w67.cell? ⟨gb238, 3, none⟩ = some (.int .i64 t235) := (blk_cell BK238.out 3).trans rfl; have hcz70_4 : w67.cell? ⟨gb238, 4, none⟩ = some (.int .i64 t236) := (blk_cell BK238.out 4).trans rfl; have hfz70_0 := blk_frozen BK238.out 0; have hfz70_1 := blk_frozen BK238.out 1; have hfz70_2 := blk_frozen BK238.out 2; have hfz70_3 := blk_frozen BK238.out 3; have hfz70_4 := blk_frozen BK238.out 4; have hnb71 := NB245_209.out; have hnc71 := NB209_245.out; have hcz72_0 : w67.cell? ⟨gb245, 0, none⟩ = some (.string t239) := (blk_cell BK245.out 0).trans rfl; have hcz72_1 : w67.cell? ⟨gb245, 1, none⟩ = some (.string t240) := (blk_cell BK245.out 1).trans rfl; have hcz72_2 : w67.cell? ⟨gb245, 2, none⟩ = some (.int .i64 t241) := (blk_cell BK245.out 2).trans rfl; have hcz72_3 : w67.cell? ⟨gb245, 3, none⟩ = some (.int .i64 t242) := (blk_cell BK245.out 3).trans rfl; have hcz72_4 : w67.cell? ⟨gb245, 4, none⟩ = some (.int .i64 t243) := (blk_cell BK245.out 4).trans rfl; have hfz72_0 := blk_frozen BK245.out 0; have hfz72_1 := blk_frozen BK245.out 1; have hfz72_2 := blk_frozen BK245.out 2; have hfz72_3 := blk_frozen BK245.out 3; have hfz72_4 := blk_frozen BK245.out 4))
           go_ret
           exact ⟨by first | rfl | (simp [errW_none, errW_some] <;> rfl) | (simp [*, errW_none, errW_some] <;> rfl), by repeat (first | (with_reducible first | exact HB.out | apply below_alloc | apply pw_below_drewN | apply below_drew1 | refine below_set ?_ GE209.out | refine below_set ?_ GE238.out | refine below_set ?_ GE245.out) | exact HB.out)⟩
          ·rw [if_neg c66] at H
           have c66b0 : (t232.toList == t239.toList && (t233.toList == t240.toList && (t234 == t241 && ((t235 == t242 && (t236 == t243)))))) = false := by simpa using c66
           (try (have c66b1 : decide (t232.toList = t239.toList && (t233.toList == t240.toList && (t234 == t241 && ((t235 == t242 && (t236 == t243)))))) = false := by simpa using c66))
           (try (have c66b2 : (t232.toList == t239.toList && (t233.toList == t240.toList && (t234 == t241 && ((t235 == t242 && (t236 == t243)))))) = false := by simpa using c66))
           (try (have c66b3 : ¬ (t232.toList = t239.toList && (t233.toList == t240.toList && (t234 == t241 && ((t235 == t242 && (t236 == t243)))))) := by simpa using c66))
           clear c66
           obtain rfl := Option.some.inj H
           go_wp2_with (first | ((with_reducible refine gate_callee (f := 32) rfl ?_); refine goesL_ (some 99) rfl rfl Try.func32 (by kernel_rfl) rfl #[.slice A0 l0.length c0] rfl (by (try simp only [List.map_toArray, List.map_cons, List.map_nil]); first | done | rfl | (simp only [List.length_drop, List.length_take]; rfl)) ?_; (with_reducible refine (reg_May.calls k2 _ _ l0 t246 _ ?side1 ?side2 A62.out).mono ?_); (case side1 => repeat (first | exact (Kd.C_below HR0.out HB.out) | (with_reducible refine Kd.C_alloc ?_ _) | (with_reducible refine Kd.C_drewN ?_ _) | (with_reducible refine Kd.C_drew ?_))); (case side2 => exact HC0.out); rintro e w73 ⟨rfl, hb⟩; refine ⟨_, rfl, ?_⟩; have n0_ := Aside0.mk (blk_below (g := gb209) (o := .cells #[.string a2_0, .string a2_1, .int .i64 a2_2, .int .i64 a2_3, .int .i64 a2_4] 26 (0, 0)) (by (with_reducible repeat (first | refine blk_drewN ?_ _ | refine blk_drew ?_ | refine blk_alloc ?_ _)); exact BK209.out) hb); have n1_ := Aside0.mk (blk_below (g := gb238) (o := .cells #[.string t232, .string t233, .int .i64 t234, .int .i64 t235, .int .i64 t236] 26 (0, 0)) (by (with_reducible repeat (first | refine blk_drewN ?_ _ | refine blk_drew ?_ | refine blk_alloc ?_ _)); exact BK238.out) hb); have n2_ := Aside0.mk (blk_below (g := gb245) (o := .cells #[.string t239, .string t240, .int .i64 t241, .int .i64 t242, .int .i64 t243] 26 (0, 0)) (by (with_reducible repeat (first | refine blk_drewN ?_ _ | refine blk_drew ?_ | refine blk_alloc ?_ _)); exact BK245.out) hb); have n3_ := Aside0.mk (below_step (by repeat (first | (with_reducible first | exact HB.out | apply below_alloc | apply pw_below_drewN | apply below_drew1 | refine below_set ?_ GE209.out | refine below_set ?_ GE238.out | refine below_set ?_ GE245.out) | exact HB.out)) hb); clear BK209; clear BK238; clear BK245; clear HB; have BK209 := n0_; have BK238 := n1_; have BK245 := n2_; have HB := n3_; clear n0_ n1_ n2_ n3_; (try clear hb); (try clear hb2); (try clear hk); (try clear hi); have hnb74 := NB238_209.out; have hnc74 := NB209_238.out; have hnb75 := NB238_245.out; have hnc75 := NB245_238.out; have hcz76_0 : w73.cell? ⟨gb238, 0, none⟩ = some (.string t232) := (blk_cell BK238.out 0).trans rfl; have hcz76_1 : w73.cell? ⟨gb238, 1, none⟩ = some (.string t233) := (blk_cell BK238.out 1).trans rfl; have hcz76_2 : w73.cell? ⟨gb238, 2, none⟩ = some (.int .i64 t234) := (blk_cell BK238.out 2).trans rfl; have hcz76_3 : w73.cell? ⟨gb238, 3, none⟩ = some (.int .i64 t235) := (blk_cell BK238.out 3).trans rfl; have hcz76_4 : w73.cell? ⟨gb238, 4, none⟩ = some (.int .i64 t236) := (blk_cell BK238.out 4).trans rfl; have hfz76_0 := blk_frozen BK238.out 0; have hfz76_1 := blk_frozen BK238.out 1; have hfz76_2 := blk_frozen BK238.out 2; have hfz76_3 := blk_frozen BK238.out 3; have hfz76_4 := blk_frozen BK238.out 4; have hnb77 := NB245_209.out; have hnc77 := NB209_245.out; have hcz78_0 : w73.cell? ⟨gb245, 0, none⟩ = some (.string t239) := (blk_cell BK245.out 0).trans rfl; have hcz78_1 : w73.cell? ⟨gb245, 1, none⟩ = some (.string t240) := (blk_cell BK245.out 1).trans rfl; have hcz78_2 : w73.cell? ⟨gb245, 2, none⟩ = some (.int .i64 t241) := (blk_cell BK245.out 2).trans rfl; have hcz78_3 : w73.cell? ⟨gb245, 3, none⟩ = some (.int .i64 t242) := (blk_cell BK245.out 3).trans rfl; have hcz78_4 : w73.cell? ⟨gb245, 4, none⟩ = some (.int .i64 t243) := (blk_cell BK245.out 4).trans rfl; have hfz78_0 := blk_frozen BK245.out 0; have hfz78_1 := blk_frozen BK245.out 1; have hfz78_2 := blk_frozen BK245.out 2; have hfz78_3 := blk_frozen BK245.out 3; have hfz78_4 := blk_frozen BK245.out 4))
           go_ret
           exact ⟨by first | rfl | (simp [errW_none, errW_some] <;> rfl) | (simp [*, errW_none, errW_some] <;> rfl), by repeat (first | (with_reducible first | exact HB.out | apply below_alloc | apply pw_below_drewN | apply below_drew1 | refine below_set ?_ GE209.out | refine below_set ?_ GE238.out | refine below_set ?_ GE245.out) | exact HB.out)⟩
         ·replace c65 := Bool.eq_false_iff.mpr c65
          subst c65
          have H1 : (some false) = some r := by rw [if_neg (show ¬ (false = true) by decide)] at H; exact H
          clear H
          have H := H1
          clear H1
          obtain rfl := Option.some.inj H
          go_wp2_with (first | ((with_reducible refine gate_callee (f := 32) rfl ?_); refine goesL_ (some 99) rfl rfl Try.func32 (by kernel_rfl) rfl #[.slice A0 l0.length c0] rfl (by (try simp only [List.map_toArray, List.map_cons, List.map_nil]); first | done | rfl | (simp only [List.length_drop, List.length_take]; rfl)) ?_; (with_reducible refine (reg_May.calls k2 _ _ l0 t246 _ ?side1 ?side2 A62.out).mono ?_); (case side1 => repeat (first | exact (Kd.C_below HR0.out HB.out) | (with_reducible refine Kd.C_alloc ?_ _) | (with_reducible refine Kd.C_drewN ?_ _) | (with_reducible refine Kd.C_drew ?_))); (case side2 => exact HC0.out); rintro e w79 ⟨rfl, hb⟩; refine ⟨_, rfl, ?_⟩; have n0_ := Aside0.mk (blk_below (g := gb209) (o := .cells #[.string a2_0, .string a2_1, .int .i64 a2_2, .int .i64 a2_3, .int .i64 a2_4] 26 (0, 0)) (by (with_reducible repeat (first | refine blk_drewN ?_ _ | refine blk_drew ?_ | refine blk_alloc ?_ _)); exact BK209.out) hb); have n1_ := Aside0.mk (blk_below (g := gb238) (o := .cells #[.string t232, .string t233, .int .i64 t234, .int .i64 t235, .int .i64 t236] 26 (0, 0)) (by (with_reducible repeat (first | refine blk_drewN ?_ _ | refine blk_drew ?_ | refine blk_alloc ?_ _)); exact BK238.out) hb); have n2_ := Aside0.mk (blk_below (g := gb245) (o := .cells #[.string t239, .string t240, .int .i64 t241, .int .i64 t242, .int .i64 t243] 26 (0, 0)) (by (with_reducible repeat (first | refine blk_drewN ?_ _ | refine blk_drew ?_ | refine blk_alloc ?_ _)); exact BK245.out) hb); have n3_ := Aside0.mk (below_step (by repeat (first | (with_reducible first | exact HB.out | apply below_alloc | apply pw_below_drewN | apply below_drew1 | refine below_set ?_ GE209.out | refine below_set ?_ GE238.out | refine below_set ?_ GE245.out) | exact HB.out)) hb); clear BK209; clear BK238; clear BK245; clear HB; have BK209 := n0_; have BK238 := n1_; have BK245 := n2_; have HB := n3_; clear n0_ n1_ n2_ n3_; (try clear hb); (try clear hb2); (try clear hk); (try clear hi)))
          go_ret
          exact ⟨by first | rfl | (simp [errW_none, errW_some] <;> rfl) | (simp [*, errW_none, errW_some] <;> rfl), by repeat (first | (with_reducible first | exact HB.out | apply below_alloc | apply pw_below_drewN | apply below_drew1 | refine below_set ?_ GE209.out | refine below_set ?_ GE238.out | refine below_set ?_ GE245.out) | exact HB.out)⟩
        ·replace c64 := Bool.eq_false_iff.mpr c64
         subst c64
         have H1 : (some false) = some r := by rw [if_neg (show ¬ (false = true) by decide)] at H; exact H
         clear H
         have H := H1
         clear H1
         obtain rfl := Option.some.inj H
         go_wp2_with (first | ((with_reducible refine gate_callee (f := 32) rfl ?_); refine goesL_ (some 99) rfl rfl Try.func32 (by kernel_rfl) rfl #[.slice A0 l0.length c0] rfl (by (try simp only [List.map_toArray, List.map_cons, List.map_nil]); first | done | rfl | (simp only [List.length_drop, List.length_take]; rfl)) ?_; (with_reducible refine (reg_May.calls k2 _ _ l0 t246 _ ?side1 ?side2 A62.out).mono ?_); (case side1 => repeat (first | exact (Kd.C_below HR0.out HB.out) | (with_reducible refine Kd.C_alloc ?_ _) | (with_reducible refine Kd.C_drewN ?_ _) | (with_reducible refine Kd.C_drew ?_))); (case side2 => exact HC0.out); rintro e w80 ⟨rfl, hb⟩; refine ⟨_, rfl, ?_⟩; have n0_ := Aside0.mk (blk_below (g := gb209) (o := .cells #[.string a2_0, .string a2_1, .int .i64 a2_2, .int .i64 a2_3, .int .i64 a2_4] 26 (0, 0)) (by (with_reducible repeat (first | refine blk_drewN ?_ _ | refine blk_drew ?_ | refine blk_alloc ?_ _)); exact BK209.out) hb); have n1_ := Aside0.mk (blk_below (g := gb238) (o := .cells #[.string t232, .string t233, .int .i64 t234, .int .i64 t235, .int .i64 t236] 26 (0, 0)) (by (with_reducible repeat (first | refine blk_drewN ?_ _ | refine blk_drew ?_ | refine blk_alloc ?_ _)); exact BK238.out) hb); have n2_ := Aside0.mk (blk_below (g := gb245) (o := .cells #[.string t239, .string t240, .int .i64 t241, .int .i64 t242, .int .i64 t243] 26 (0, 0)) (by (with_reducible repeat (first | refine blk_drewN ?_ _ | refine blk_drew ?_ | refine blk_alloc ?_ _)); exact BK245.out) hb); have n3_ := Aside0.mk (below_step (by repeat (first | (with_reducible first | exact HB.out | apply below_alloc | apply pw_below_drewN | apply below_drew1 | refine below_set ?_ GE209.out | refine below_set ?_ GE238.out | refine below_set ?_ GE245.out) | exact HB.out)) hb); clear BK209; clear BK238; clear BK245; clear HB; have BK209 := n0_; have BK238 := n1_; have BK245 := n2_; have HB := n3_; clear n0_ n1_ n2_ n3_; (try clear hb); (try clear hb2); (try clear hk); (try clear hi)))
         go_ret
         exact ⟨by first | rfl | (simp [errW_none, errW_some] <;> rfl) | (simp [*, errW_none, errW_some] <;> rfl), by repeat (first | (with_reducible first | exact HB.out | apply below_alloc | apply pw_below_drewN | apply below_drew1 | refine below_set ?_ GE209.out | refine below_set ?_ GE238.out | refine below_set ?_ GE245.out) | exact HB.out)⟩
       ·rw [if_neg c63] at H
        have c63b0 : (t246 == t217) = false := by simpa using c63
        (try (have c63b1 : decide (t246 = t217) = false := by simpa using c63))
        (try (have c63b2 : (t246 == t217) = false := by simpa using c63))
        (try (have c63b3 : ¬ (t246 = t217) := by simpa using c63))
        clear c63
        obtain rfl := Option.some.inj H
        go_wp2_with (first | ((with_reducible refine gate_callee (f := 32) rfl ?_); refine goesL_ (some 99) rfl rfl Try.func32 (by kernel_rfl) rfl #[.slice A0 l0.length c0] rfl (by (try simp only [List.map_toArray, List.map_cons, List.map_nil]); first | done | rfl | (simp only [List.length_drop, List.length_take]; rfl)) ?_; (with_reducible refine (reg_May.calls k2 _ _ l0 t246 _ ?side1 ?side2 A62.out).mono ?_); (case side1 => repeat (first | exact (Kd.C_below HR0.out HB.out) | (with_reducible refine Kd.C_alloc ?_ _) | (with_reducible refine Kd.C_drewN ?_ _) | (with_reducible refine Kd.C_drew ?_))); (case side2 => exact HC0.out); rintro e w81 ⟨rfl, hb⟩; refine ⟨_, rfl, ?_⟩; have n0_ := Aside0.mk (blk_below (g := gb209) (o := .cells #[.string a2_0, .string a2_1, .int .i64 a2_2, .int .i64 a2_3, .int .i64 a2_4] 26 (0, 0)) (by (with_reducible repeat (first | refine blk_drewN ?_ _ | refine blk_drew ?_ | refine blk_alloc ?_ _)); exact BK209.out) hb); have n1_ := Aside0.mk (blk_below (g := gb238) (o := .cells #[.string t232, .string t233, .int .i64 t234, .int .i64 t235, .int .i64 t236] 26 (0, 0)) (by (with_reducible repeat (first | refine blk_drewN ?_ _ | refine blk_drew ?_ | refine blk_alloc ?_ _)); exact BK238.out) hb); have n2_ := Aside0.mk (blk_below (g := gb245) (o := .cells #[.string t239, .string t240, .int .i64 t241, .int .i64 t242, .int .i64 t243] 26 (0, 0)) (by (with_reducible repeat (first | refine blk_drewN ?_ _ | refine blk_drew ?_ | refine blk_alloc ?_ _)); exact BK245.out) hb); have n3_ := Aside0.mk (below_step (by repeat (first | (with_reducible first | exact HB.out | apply below_alloc | apply pw_below_drewN | apply below_drew1 | refine below_set ?_ GE209.out | refine below_set ?_ GE238.out | refine below_set ?_ GE245.out) | exact HB.out)) hb); clear BK209; clear BK238; clear BK245; clear HB; have BK209 := n0_; have BK238 := n1_; have BK245 := n2_; have HB := n3_; clear n0_ n1_ n2_ n3_; (try clear hb); (try clear hb2); (try clear hk); (try clear hi)))
        go_ret
        exact ⟨by first | rfl | (simp [errW_none, errW_some] <;> rfl) | (simp [*, errW_none, errW_some] <;> rfl), by repeat (first | (with_reducible first | exact HB.out | apply below_alloc | apply pw_below_drewN | apply below_drew1 | refine below_set ?_ GE209.out | refine below_set ?_ GE238.out | refine below_set ?_ GE245.out) | exact HB.out)⟩

end Go.Proofs.Ytannmdngejdjkaa.L
