-- PRINTED by print.py (a twelfth state) out of the translation. Not trusted: Lean checks it.
import Derived.Test.YtannmdngejdjkaaLx0
import Derived.Test.YtannmdngejdjkaaLx3
import Derived.Test.YtannmdngejdjkaaLx33
import Derived.Test.YtannmdngejdjkaaLx34
import Derived.Test.YtannmdngejdjkaaLx35
import Derived.Test.YtannmdngejdjkaaLHPairAdd
import Derived.Test.YtannmdngejdjkaaLHPairDel
import Derived.Test.YtannmdngejdjkaaLHPairMerge
namespace Go.Proofs.Ytannmdngejdjkaa.L
open Go.RowKit Go.Proofs.YtannmdngejdjkaaW.PrintWords Go.Proofs.YtannmdngejdjkaaW.PrintLast Go.Proofs.YtannmdngejdjkaaW.PrintMore
attribute [local go_sem] max2_int min2_int max_two min_two max_three min_three max_four min_four   -- for this text's walks alone
set_option linter.unusedVariables false
set_option linter.unusedSimpArgs false

attribute [local go_sem high] eqA57
/-! ### law08_PairWins: function 15 -/
mutual
def law08_PairWins.j0 : Nat → List (S57) → ByteArray → ByteArray → Bool → Bool → ByteArray → ByteArray → Int → Int → Option (Bool)
 | 0, _, _, _, _, _, _, _, _, _ => none
 | k + 1, x0, x2, x3, x9, x54, x826000, x826001, x826002, x826003 => if x54 = true then (some x9) else (law08_PairWins.l0 k x0 x2 x3 false 0 x826000 x826001 x826002 x826003)
def law08_PairWins.l0 : Nat → List (S57) → ByteArray → ByteArray → Bool → Int → ByteArray → ByteArray → Int → Int → Option (Bool)
 | 0, _, _, _, _, _, _, _, _, _ => none
 | k + 1, x0, x2, x3, x12, x13, x826000, x826001, x826002, x826003 => if x13 < (x0.length : Int) then (if x12 = true then (law08_PairWins.l0 k x0 x2 x3 true (wrap64 (x13 + 1)) x826000 x826001 x826002 x826003) else (if 0 ≤ x13 then (law08_PairWins.l0 k x0 x2 x3 ((((rd_T57 x0 x13).f0).toList) == x826000.toList && ((((rd_T57 x0 x13).f1).toList) == x826001.toList && ((((rd_T57 x0 x13).f2.f0) == x826002 && (((rd_T57 x0 x13).f2.f1) == x826003))))) (wrap64 (x13 + 1)) x826000 x826001 x826002 x826003) else (none))) else ((pair_Add.f x0 x826000 x826001 x826002 x826003).bind fun t838 => ((pair_Del.f x0 x2 x3).bind fun t841 => ((pair_Merge.f x0 t838 t841).bind fun t844 => (law08_PairWins.l1 k x2 x3 x12 t844 false 0 x826000 x826001 x826002 x826003))))
def law08_PairWins.l1 : Nat → ByteArray → ByteArray → Bool → List (S57) → Bool → Int → ByteArray → ByteArray → Int → Int → Option (Bool)
 | 0, _, _, _, _, _, _, _, _, _, _ => none
 | k + 1, x2, x3, x12, x14, x15, x16, x826000, x826001, x826002, x826003 => if x16 < (x14.length : Int) then (if x15 = true then (if 0 ≤ x16 then (if (!((((rd_T57 x14 x16).f0).toList) == x826000.toList) || (!((((rd_T57 x14 x16).f1).toList) == x826001.toList) || ((!(((rd_T57 x14 x16).f2.f0) == x826002) || (!(((rd_T57 x14 x16).f2.f1) == x826003)))))) = true then (if ((rd_T57 x14 x16).f0).toList = x2.toList then (if ((rd_T57 x14 x16).f1).toList = x3.toList then (some false) else (law08_PairWins.l1 k x2 x3 x12 x14 true (wrap64 (x16 + 1)) x826000 x826001 x826002 x826003)) else (law08_PairWins.l1 k x2 x3 x12 x14 true (wrap64 (x16 + 1)) x826000 x826001 x826002 x826003)) else (law08_PairWins.l1 k x2 x3 x12 x14 true (wrap64 (x16 + 1)) x826000 x826001 x826002 x826003)) else (none)) else (if 0 ≤ x16 then (if (!((((rd_T57 x14 x16).f0).toList) == x826000.toList) || (!((((rd_T57 x14 x16).f1).toList) == x826001.toList) || ((!(((rd_T57 x14 x16).f2.f0) == x826002) || (!(((rd_T57 x14 x16).f2.f1) == x826003)))))) = true then (if ((rd_T57 x14 x16).f0).toList = x2.toList then (if ((rd_T57 x14 x16).f1).toList = x3.toList then (some false) else (law08_PairWins.l1 k x2 x3 x12 x14 ((((rd_T57 x14 x16).f0).toList) == x826000.toList && ((((rd_T57 x14 x16).f1).toList) == x826001.toList && ((((rd_T57 x14 x16).f2.f0) == x826002 && (((rd_T57 x14 x16).f2.f1) == x826003))))) (wrap64 (x16 + 1)) x826000 x826001 x826002 x826003)) else (law08_PairWins.l1 k x2 x3 x12 x14 ((((rd_T57 x14 x16).f0).toList) == x826000.toList && ((((rd_T57 x14 x16).f1).toList) == x826001.toList && ((((rd_T57 x14 x16).f2.f0) == x826002 && (((rd_T57 x14 x16).f2.f1) == x826003))))) (wrap64 (x16 + 1)) x826000 x826001 x826002 x826003)) else (law08_PairWins.l1 k x2 x3 x12 x14 ((((rd_T57 x14 x16).f0).toList) == x826000.toList && ((((rd_T57 x14 x16).f1).toList) == x826001.toList && ((((rd_T57 x14 x16).f2.f0) == x826002 && (((rd_T57 x14 x16).f2.f1) == x826003))))) (wrap64 (x16 + 1)) x826000 x826001 x826002 x826003)) else (none))) else (if x826000.toList = x2.toList then ((pair_May.f k x14).bind fun t854 => (if t854 = true then (if x12 = true then (some (x15 == (!(x826001.toList == x3.toList)))) else (some (x15 == true))) else (some false))) else ((pair_May.f k x14).bind fun t855 => (if t855 = true then (if x12 = true then (some (x15 == (!false))) else (some (x15 == true))) else (some false))))
end
def law08_PairWins.f (k : Nat) (l0 : List (S57)) (a1_0 : ByteArray) (a1_1 : ByteArray) (a1_2 : Int) (a1_3 : Int) (a2 : ByteArray) (a3 : ByteArray) : Option (Bool) := (law08_awake.f k).bind fun t826 => ((law08_Few.f k l0).bind fun t827 => ((law08_Few.f k (([(⟨a1_0, a1_1, (⟨a1_2, a1_3⟩ : S24)⟩ : S57)] : List (S57)))).bind fun t831 => (if t826 = true then (if t827 = true then (if t831 = true then ((pair_May.f k l0).bind fun t832 => (if t832 = true then ((pair_May.f k (([(⟨a1_0, a1_1, (⟨a1_2, a1_3⟩ : S24)⟩ : S57)] : List (S57)))).bind fun t836 => (if t836 = true then (if (a2.size : Int) > 100 then (law08_PairWins.j0 k l0 a2 a3 t826 true a1_0 a1_1 a1_2 a1_3) else (law08_PairWins.j0 k l0 a2 a3 t826 (decide ((a3.size : Int) > 100)) a1_0 a1_1 a1_2 a1_3)) else (law08_PairWins.j0 k l0 a2 a3 t826 true a1_0 a1_1 a1_2 a1_3))) else (law08_PairWins.j0 k l0 a2 a3 t826 true a1_0 a1_1 a1_2 a1_3))) else (law08_PairWins.j0 k l0 a2 a3 t826 true a1_0 a1_1 a1_2 a1_3)) else (law08_PairWins.j0 k l0 a2 a3 t826 true a1_0 a1_1 a1_2 a1_3)) else (law08_PairWins.j0 k l0 a2 a3 t826 true a1_0 a1_1 a1_2 a1_3))))
theorem law08_PairWins.mono_l : ∀ k, (∀ y0 y1 y2 y3 y4 y5 y6 y7 y8, LeO (law08_PairWins.j0 k y0 y1 y2 y3 y4 y5 y6 y7 y8) (law08_PairWins.j0 (k + 1) y0 y1 y2 y3 y4 y5 y6 y7 y8)) ∧ (∀ y0 y1 y2 y3 y4 y5 y6 y7 y8, LeO (law08_PairWins.l0 k y0 y1 y2 y3 y4 y5 y6 y7 y8) (law08_PairWins.l0 (k + 1) y0 y1 y2 y3 y4 y5 y6 y7 y8)) ∧ (∀ y0 y1 y2 y3 y4 y5 y6 y7 y8 y9, LeO (law08_PairWins.l1 k y0 y1 y2 y3 y4 y5 y6 y7 y8 y9) (law08_PairWins.l1 (k + 1) y0 y1 y2 y3 y4 y5 y6 y7 y8 y9))
 | 0 => ⟨fun _ _ _ _ _ _ _ _ _ r h => by simp [law08_PairWins.j0] at h, fun _ _ _ _ _ _ _ _ _ r h => by simp [law08_PairWins.l0] at h, fun _ _ _ _ _ _ _ _ _ _ r h => by simp [law08_PairWins.l1] at h⟩
 | k + 1 => by
  obtain ⟨ih0, ih1, ih2⟩ := law08_PairWins.mono_l k
  refine ⟨?_, ?_, ?_⟩
  ·intro y0 y1 y2 y3 y4 y5 y6 y7 y8
   unfold law08_PairWins.j0
   repeat' first
   | (with_reducible exact ih0 _ _ _ _ _ _ _ _ _)
   | (with_reducible exact ih1 _ _ _ _ _ _ _ _ _)
   | (with_reducible exact ih2 _ _ _ _ _ _ _ _ _ _)
   | (with_reducible exact law08_Few.mono _ _)
   | (with_reducible exact law08_awake.mono _)
   | (with_reducible exact pair_May.mono _ _)
   | (with_reducible exact LeO.refl _)
   | (with_reducible exact LeO.none _)
   | (with_reducible refine LeO.ite ?_ ?_)
   | (with_reducible refine LeO.bind ?_ (fun _ => ?_))
   | exact ih0 _ _ _ _ _ _ _ _ _
   | exact ih1 _ _ _ _ _ _ _ _ _
   | exact ih2 _ _ _ _ _ _ _ _ _ _
   | exact law08_Few.mono _ _
   | exact law08_awake.mono _
   | exact pair_May.mono _ _
   | exact LeO.none _
   | refine LeO.ite ?_ ?_
   | refine LeO.bind ?_ (fun _ => ?_)
  ·intro y0 y1 y2 y3 y4 y5 y6 y7 y8
   unfold law08_PairWins.l0
   repeat' first
   | (with_reducible exact ih0 _ _ _ _ _ _ _ _ _)
   | (with_reducible exact ih1 _ _ _ _ _ _ _ _ _)
   | (with_reducible exact ih2 _ _ _ _ _ _ _ _ _ _)
   | (with_reducible exact law08_Few.mono _ _)
   | (with_reducible exact law08_awake.mono _)
   | (with_reducible exact pair_May.mono _ _)
   | (with_reducible exact LeO.refl _)
   | (with_reducible exact LeO.none _)
   | (with_reducible refine LeO.ite ?_ ?_)
   | (with_reducible refine LeO.bind ?_ (fun _ => ?_))
   | exact ih0 _ _ _ _ _ _ _ _ _
   | exact ih1 _ _ _ _ _ _ _ _ _
   | exact ih2 _ _ _ _ _ _ _ _ _ _
   | exact law08_Few.mono _ _
   | exact law08_awake.mono _
   | exact pair_May.mono _ _
   | exact LeO.none _
   | refine LeO.ite ?_ ?_
   | refine LeO.bind ?_ (fun _ => ?_)
  ·intro y0 y1 y2 y3 y4 y5 y6 y7 y8 y9
   unfold law08_PairWins.l1
   repeat' first
   | (with_reducible exact ih0 _ _ _ _ _ _ _ _ _)
   | (with_reducible exact ih1 _ _ _ _ _ _ _ _ _)
   | (with_reducible exact ih2 _ _ _ _ _ _ _ _ _ _)
   | (with_reducible exact law08_Few.mono _ _)
   | (with_reducible exact law08_awake.mono _)
   | (with_reducible exact pair_May.mono _ _)
   | (with_reducible exact LeO.refl _)
   | (with_reducible exact LeO.none _)
   | (with_reducible refine LeO.ite ?_ ?_)
   | (with_reducible refine LeO.bind ?_ (fun _ => ?_))
   | exact ih0 _ _ _ _ _ _ _ _ _
   | exact ih1 _ _ _ _ _ _ _ _ _
   | exact ih2 _ _ _ _ _ _ _ _ _ _
   | exact law08_Few.mono _ _
   | exact law08_awake.mono _
   | exact pair_May.mono _ _
   | exact LeO.none _
   | refine LeO.ite ?_ ?_
   | refine LeO.bind ?_ (fun _ => ?_)
theorem law08_PairWins.mono : ∀ a0 a1 a2 a3 a4 a5 a6 k, LeO (law08_PairWins.f k a0 a1 a2 a3 a4 a5 a6) (law08_PairWins.f (k + 1) a0 a1 a2 a3 a4 a5 a6) := by
 intro a0 a1 a2 a3 a4 a5 a6 k
 obtain ⟨ih0, ih1, ih2⟩ := law08_PairWins.mono_l k
 unfold law08_PairWins.f
 repeat' first
   | (with_reducible exact ih0 _ _ _ _ _ _ _ _ _)
   | (with_reducible exact ih1 _ _ _ _ _ _ _ _ _)
   | (with_reducible exact ih2 _ _ _ _ _ _ _ _ _ _)
   | (with_reducible exact law08_Few.mono _ _)
   | (with_reducible exact law08_awake.mono _)
   | (with_reducible exact pair_May.mono _ _)
   | (with_reducible exact LeO.refl _)
   | (with_reducible exact LeO.none _)
   | (with_reducible refine LeO.ite ?_ ?_)
   | (with_reducible refine LeO.bind ?_ (fun _ => ?_))
   | exact ih0 _ _ _ _ _ _ _ _ _
   | exact ih1 _ _ _ _ _ _ _ _ _
   | exact ih2 _ _ _ _ _ _ _ _ _ _
   | exact law08_Few.mono _ _
   | exact law08_awake.mono _
   | exact pair_May.mono _ _
   | exact LeO.none _
   | refine LeO.ite ?_ ?_
   | refine LeO.bind ?_ (fun _ => ?_)
set_option maxHeartbeats 8000000 in
set_option maxRecDepth 100000 in
theorem law08_PairWins.calls (k : Nat) (A0 : Option Addr) (c0 : Nat) (l0 : List (S57)) (a1_0 : ByteArray) (a1_1 : ByteArray) (a1_2 : Int) (a1_3 : Int) (a2 : ByteArray) (a3 : ByteArray) (r : Bool) (w : World) (hr0 : Kd.C k57 w A0 l0.length l0) (hc0 : l0.length ≤ c0) (h : law08_PairWins.f k l0 a1_0 a1_1 a1_2 a1_3 a2 a3 = some r) :
  Calls Try.prog 15 #[.slice A0 l0.length c0, .agg #[.string a1_0, .string a1_1, .int .i64 a1_2, .int .i64 a1_3], .string a2, .string a3] w fun e w' => e = .returned (.bool r) ∧ Below w.heap.size w w' := by
 have hu57 := Try.underlying57
 have HR0 := Aside0.mk hr0
 have HC0 := Aside0.mk hc0
 clear hr0 hc0
 have HB := Aside0.mk (Below.refl w.heap.size w)
 have H : ((law08_awake.f k).bind fun t826 => ((law08_Few.f k l0).bind fun t827 => ((law08_Few.f k (([(⟨a1_0, a1_1, (⟨a1_2, a1_3⟩ : S24)⟩ : S57)] : List (S57)))).bind fun t831 => (if t826 = true then (if t827 = true then (if t831 = true then ((pair_May.f k l0).bind fun t832 => (if t832 = true then ((pair_May.f k (([(⟨a1_0, a1_1, (⟨a1_2, a1_3⟩ : S24)⟩ : S57)] : List (S57)))).bind fun t836 => (if t836 = true then (if (a2.size : Int) > 100 then (law08_PairWins.j0 k l0 a2 a3 t826 true a1_0 a1_1 a1_2 a1_3) else (law08_PairWins.j0 k l0 a2 a3 t826 (decide ((a3.size : Int) > 100)) a1_0 a1_1 a1_2 a1_3)) else (law08_PairWins.j0 k l0 a2 a3 t826 true a1_0 a1_1 a1_2 a1_3))) else (law08_PairWins.j0 k l0 a2 a3 t826 true a1_0 a1_1 a1_2 a1_3))) else (law08_PairWins.j0 k l0 a2 a3 t826 true a1_0 a1_1 a1_2 a1_3)) else (law08_PairWins.j0 k l0 a2 a3 t826 true a1_0 a1_1 a1_2 a1_3)) else (law08_PairWins.j0 k l0 a2 a3 t826 true a1_0 a1_1 a1_2 a1_3))))) = some r := h
 clear h
 replace H := Option.bind_eq_some_iff.mp H
 obtain ⟨t826, A50, H⟩ := H
 replace H : ((law08_Few.f k l0).bind fun t827 => ((law08_Few.f k (([(⟨a1_0, a1_1, (⟨a1_2, a1_3⟩ : S24)⟩ : S57)] : List (S57)))).bind fun t831 => (if t826 = true then (if t827 = true then (if t831 = true then ((pair_May.f k l0).bind fun t832 => (if t832 = true then ((pair_May.f k (([(⟨a1_0, a1_1, (⟨a1_2, a1_3⟩ : S24)⟩ : S57)] : List (S57)))).bind fun t836 => (if t836 = true then (if (a2.size : Int) > 100 then (law08_PairWins.j0 k l0 a2 a3 t826 true a1_0 a1_1 a1_2 a1_3) else (law08_PairWins.j0 k l0 a2 a3 t826 (decide ((a3.size : Int) > 100)) a1_0 a1_1 a1_2 a1_3)) else (law08_PairWins.j0 k l0 a2 a3 t826 true a1_0 a1_1 a1_2 a1_3))) else (law08_PairWins.j0 k l0 a2 a3 t826 true a1_0 a1_1 a1_2 a1_3))) else (law08_PairWins.j0 k l0 a2 a3 t826 true a1_0 a1_1 a1_2 a1_3)) else (law08_PairWins.j0 k l0 a2 a3 t826 true a1_0 a1_1 a1_2 a1_3)) else (law08_PairWins.j0 k l0 a2 a3 t826 true a1_0 a1_1 a1_2 a1_3)))) = some r := H
 have A5 := Aside0.mk A50
 clear A50
 replace H := Option.bind_eq_some_iff.mp H
 obtain ⟨t827, A60, H⟩ := H
 replace H : ((law08_Few.f k (([(⟨a1_0, a1_1, (⟨a1_2, a1_3⟩ : S24)⟩ : S57)] : List (S57)))).bind fun t831 => (if t826 = true then (if t827 = true then (if t831 = true then ((pair_May.f k l0).bind fun t832 => (if t832 = true then ((pair_May.f k (([(⟨a1_0, a1_1, (⟨a1_2, a1_3⟩ : S24)⟩ : S57)] : List (S57)))).bind fun t836 => (if t836 = true then (if (a2.size : Int) > 100 then (law08_PairWins.j0 k l0 a2 a3 t826 true a1_0 a1_1 a1_2 a1_3) else (law08_PairWins.j0 k l0 a2 a3 t826 (decide ((a3.size : Int) > 100)) a1_0 a1_1 a1_2 a1_3)) else (law08_PairWins.j0 k l0 a2 a3 t826 true a1_0 a1_1 a1_2 a1_3))) else (law08_PairWins.j0 k l0 a2 a3 t826 true a1_0 a1_1 a1_2 a1_3))) else (law08_PairWins.j0 k l0 a2 a3 t826 true a1_0 a1_1 a1_2 a1_3)) else (law08_PairWins.j0 k l0 a2 a3 t826 true a1_0 a1_1 a1_2 a1_3)) else (law08_PairWins.j0 k l0 a2 a3 t826 true a1_0 a1_1 a1_2 a1_3))) = some r := H
 have A6 := Aside0.mk A60
 clear A60
 obtain ⟨y828, hy828⟩ : ∃ y_ : List (S57), y_ = (([(⟨a1_0, a1_1, (⟨a1_2, a1_3⟩ : S24)⟩ : S57)] : List (S57))) := ⟨_, rfl⟩
 replace H : ((law08_Few.f k y828).bind fun t831 => (if t826 = true then (if t827 = true then (if t831 = true then ((pair_May.f k l0).bind fun t832 => (if t832 = true then ((pair_May.f k (([(⟨a1_0, a1_1, (⟨a1_2, a1_3⟩ : S24)⟩ : S57)] : List (S57)))).bind fun t836 => (if t836 = true then (if (a2.size : Int) > 100 then (law08_PairWins.j0 k l0 a2 a3 t826 true a1_0 a1_1 a1_2 a1_3) else (law08_PairWins.j0 k l0 a2 a3 t826 (decide ((a3.size : Int) > 100)) a1_0 a1_1 a1_2 a1_3)) else (law08_PairWins.j0 k l0 a2 a3 t826 true a1_0 a1_1 a1_2 a1_3))) else (law08_PairWins.j0 k l0 a2 a3 t826 true a1_0 a1_1 a1_2 a1_3))) else (law08_PairWins.j0 k l0 a2 a3 t826 true a1_0 a1_1 a1_2 a1_3)) else (law08_PairWins.j0 k l0 a2 a3 t826 true a1_0 a1_1 a1_2 a1_3)) else (law08_PairWins.j0 k l0 a2 a3 t826 true a1_0 a1_1 a1_2 a1_3))) = some r := by first | (rw [hy828]; with_reducible exact H) | (have H2_ := (Option.bind_some _ _).symm.trans H; rw [hy828]; with_reducible exact H2_) | (have H2_ := (Option.bind_some _ _).symm.trans H; with_reducible exact H2_) | with_reducible exact H | (rw [hy828]; exact H) | exact H
 have Ny828 := Aside0.mk hy828
 clear hy828
 replace H := Option.bind_eq_some_iff.mp H
 obtain ⟨t831, A70, H⟩ := H
 replace H : (if t826 = true then (if t827 = true then (if t831 = true then ((pair_May.f k l0).bind fun t832 => (if t832 = true then ((pair_May.f k (([(⟨a1_0, a1_1, (⟨a1_2, a1_3⟩ : S24)⟩ : S57)] : List (S57)))).bind fun t836 => (if t836 = true then (if (a2.size : Int) > 100 then (law08_PairWins.j0 k l0 a2 a3 t826 true a1_0 a1_1 a1_2 a1_3) else (law08_PairWins.j0 k l0 a2 a3 t826 (decide ((a3.size : Int) > 100)) a1_0 a1_1 a1_2 a1_3)) else (law08_PairWins.j0 k l0 a2 a3 t826 true a1_0 a1_1 a1_2 a1_3))) else (law08_PairWins.j0 k l0 a2 a3 t826 true a1_0 a1_1 a1_2 a1_3))) else (law08_PairWins.j0 k l0 a2 a3 t826 true a1_0 a1_1 a1_2 a1_3)) else (law08_PairWins.j0 k l0 a2 a3 t826 true a1_0 a1_1 a1_2 a1_3)) else (law08_PairWins.j0 k l0 a2 a3 t826 true a1_0 a1_1 a1_2 a1_3)) = some r := H
 have A7 := Aside0.mk A70
 clear A70
 have HC8 := Aside0.mk H
 clear H
 go_enter Try.func15, Try.ntmps15
 go_upto_region 4 with (first | ((with_reducible refine gate_dst (N := 5) rfl ?_); (try (refine gate_guard (by rfl) ?_; dsimp only)); refine box_event ?hg (N := 5) ?hd (cs := #[.string a1_0, .string a1_1, .int .i64 a1_2, .int .i64 a1_3]) (t := 57) ?hr ?_; (case hd => rfl); (case hg => rfl); (case hr => first | (go_simp; done) | (go_simp; rfl)); intro gb825 hg w9 hbox hb; have n0_ := Aside0.mk (below_step (by repeat (first | (with_reducible first | exact HB.out | apply below_alloc | apply pw_below_drewN | apply below_drew1) | exact HB.out)) hb); have n1_ := Aside0.mk (hbox); have n2_ := Aside0.mk ((by rw [hg]; exact (below_size (by repeat (first | (with_reducible first | exact HB.out | apply below_alloc | apply pw_below_drewN | apply below_drew1) | exact HB.out))) : w.heap.size ≤ gb825)); have n3_ := Aside0.mk ((by rw [hg]; exact (below_size (by repeat (first | (with_reducible first | exact HB.out | apply below_alloc | apply pw_below_drewN | apply below_drew1) | exact HB.out))) : w.heap.size ≤ gb825)); clear HB; have HB := n0_; have BK825 := n1_; have GW825 := n2_; have GE825 := n3_; clear n0_ n1_ n2_ n3_; clear hb hbox hg) | (go_at_call 45; (with_reducible refine (law08_awake.calls k  t826 _ A5.out).mono ?_); rintro e w10 ⟨rfl, hb⟩; have n0_ := Aside0.mk (blk_below (g := gb825) (o := .cells #[.string a1_0, .string a1_1, .int .i64 a1_2, .int .i64 a1_3] 57 (0, 0)) (by (with_reducible repeat (first | refine blk_drewN ?_ _ | refine blk_drew ?_ | refine blk_alloc ?_ _)); exact BK825.out) hb); have n1_ := Aside0.mk (below_step (by repeat (first | (with_reducible first | exact HB.out | apply below_alloc | apply pw_below_drewN | apply below_drew1 | refine below_set ?_ GE825.out) | exact HB.out)) hb); clear BK825; clear HB; have BK825 := n0_; have HB := n1_; clear n0_ n1_; (try clear hb); (try clear hb2); (try clear hk); (try clear hi)) | (go_at_call 46; (with_reducible refine (law08_Few.calls k _ _ l0 t827 _ ?side1 ?side2 A6.out).mono ?_); (case side1 => repeat (first | exact (Kd.C_below HR0.out HB.out) | (with_reducible refine Kd.C_alloc ?_ _) | (with_reducible refine Kd.C_drewN ?_ _) | (with_reducible refine Kd.C_drew ?_))); (case side2 => exact HC0.out); rintro e w' ⟨rfl, ⟨nd, rfl⟩⟩; (try first | exact ⟨rfl, _, World.drewN_drewN _ _ _⟩ | exact ⟨rfl, _, Eq.trans (World.drewN_drewN _ _ _) (congrArg (World.drewN _) (Nat.add_assoc _ _ _))⟩); have hcz11_0 : w10.cell? ⟨gb825, 0, none⟩ = some (.string a1_0) := (blk_cell BK825.out 0).trans rfl; have hcz11_1 : w10.cell? ⟨gb825, 1, none⟩ = some (.string a1_1) := (blk_cell BK825.out 1).trans rfl; have hcz11_2 : w10.cell? ⟨gb825, 2, none⟩ = some (.int .i64 a1_2) := (blk_cell BK825.out 2).trans rfl; have hcz11_3 : w10.cell? ⟨gb825, 3, none⟩ = some (.int .i64 a1_3) := (blk_cell BK825.out 3).trans rfl; have hfz11_0 := blk_frozen BK825.out 0; have hfz11_1 := blk_frozen BK825.out 1; have hfz11_2 := blk_frozen BK825.out 2; have hfz11_3 := blk_frozen BK825.out 3) | ((with_reducible refine gate_dst (N := 22) rfl ?_); (try (refine gate_guard (by rfl) ?_; dsimp only)); refine Kd.R_lit k57 _ 57 ?hg (N := 22) ?hd (xs := ([(⟨a1_0, a1_1, (⟨a1_2, a1_3⟩ : S24)⟩ : S57)] : List (S57))) (inner := [.string a1_0, .string a1_1, .int .i64 a1_2, .int .i64 a1_3]) (ok := fun _ => True) (okp := fun _ => True) ?hr ?hp (fun _ hk => hk) trivial (Below.refl _ _) (Nat.le_refl _) (by simp) ?_; (case hd => rfl); (case hg => rfl); (case hr => first | (go_simp; done) | (go_simp; rfl)); (case hp => exact (Reps.c4 (show Kd.M k57 _ _ _ (⟨a1_0, a1_1, (⟨a1_2, a1_3⟩ : S24)⟩ : S57) [.string a1_0, .string a1_1, .int .i64 a1_2, .int .i64 a1_3] from (k57_mkM _ _ _ (⟨a1_0, a1_1, (⟨a1_2, a1_3⟩ : S24)⟩ : S57) )) (Reps.none _ _))); intro v829 w12 ho13 hb hg_ hnew_; clear hg_ hnew_; (first | rw [← Ny828.out] at ho13 | (simp only [Int.reduceToNat] at ho13; rw [← Ny828.out] at ho13)); have n0_ := Aside0.mk (Kd.R_lower (Kd.R_newB ho13 (g := gb825) (o := .cells #[.string a1_0, .string a1_1, .int .i64 a1_2, .int .i64 a1_3] 57 (0, 0)) (by (with_reducible repeat (first | refine blk_drewN ?_ _ | refine blk_drew ?_ | refine blk_alloc ?_ _)); exact BK825.out)) (below_size (by repeat (first | (with_reducible first | exact HB.out | apply below_alloc | apply pw_below_drewN | apply below_drew1 | refine below_set ?_ GE825.out) | exact HB.out)))); have n1_ := Aside0.mk (blk_below (g := gb825) (o := .cells #[.string a1_0, .string a1_1, .int .i64 a1_2, .int .i64 a1_3] 57 (0, 0)) (by (with_reducible repeat (first | refine blk_drewN ?_ _ | refine blk_drew ?_ | refine blk_alloc ?_ _)); exact BK825.out) hb); have n2_ := Aside0.mk (below_step (by repeat (first | (with_reducible first | exact HB.out | apply below_alloc | apply pw_below_drewN | apply below_drew1 | refine below_set ?_ GE825.out) | exact HB.out)) hb); clear BK825; clear HB; have HO830 := n0_; have BK825 := n1_; have HB := n2_; clear n0_ n1_ n2_; clear hb ho13; obtain ⟨Ao14, co14, eo14⟩ := Kd.R_slice HO830.out; subst eo14) | (go_at_call 46; (with_reducible refine (law08_Few.calls k _ _ y828 t831 _ ?side1 ?side2 A7.out).mono ?_); (case side1 => repeat (first | exact (Kd.R_reads' HO830.out).2.2 | (with_reducible refine Kd.C_alloc ?_ _) | (with_reducible refine Kd.C_drewN ?_ _) | (with_reducible refine Kd.C_drew ?_))); (case side2 => exact (Kd.R_reads' HO830.out).2.1); rintro e w' ⟨rfl, ⟨nd, rfl⟩⟩; (try first | exact ⟨rfl, _, World.drewN_drewN _ _ _⟩ | exact ⟨rfl, _, Eq.trans (World.drewN_drewN _ _ _) (congrArg (World.drewN _) (Nat.add_assoc _ _ _))⟩)))
 repeat (go_quiet (first | ((with_reducible refine gate_dst (N := 5) rfl ?_); (try (refine gate_guard (by rfl) ?_; dsimp only)); refine box_event ?hg (N := 5) ?hd (cs := #[.string a1_0, .string a1_1, .int .i64 a1_2, .int .i64 a1_3]) (t := 57) ?hr ?_; (case hd => rfl); (case hg => rfl); (case hr => first | (go_simp; done) | (go_simp; rfl)); intro gb825 hg w9 hbox hb; have n0_ := Aside0.mk (below_step (by repeat (first | (with_reducible first | exact HB.out | apply below_alloc | apply pw_below_drewN | apply below_drew1) | exact HB.out)) hb); have n1_ := Aside0.mk (hbox); have n2_ := Aside0.mk ((by rw [hg]; exact (below_size (by repeat (first | (with_reducible first | exact HB.out | apply below_alloc | apply pw_below_drewN | apply below_drew1) | exact HB.out))) : w.heap.size ≤ gb825)); have n3_ := Aside0.mk ((by rw [hg]; exact (below_size (by repeat (first | (with_reducible first | exact HB.out | apply below_alloc | apply pw_below_drewN | apply below_drew1) | exact HB.out))) : w.heap.size ≤ gb825)); clear HB; have HB := n0_; have BK825 := n1_; have GW825 := n2_; have GE825 := n3_; clear n0_ n1_ n2_ n3_; clear hb hbox hg) | (go_at_call 45; (with_reducible refine (law08_awake.calls k  t826 _ A5.out).mono ?_); rintro e w10 ⟨rfl, hb⟩; have n0_ := Aside0.mk (blk_below (g := gb825) (o := .cells #[.string a1_0, .string a1_1, .int .i64 a1_2, .int .i64 a1_3] 57 (0, 0)) (by (with_reducible repeat (first | refine blk_drewN ?_ _ | refine blk_drew ?_ | refine blk_alloc ?_ _)); exact BK825.out) hb); have n1_ := Aside0.mk (below_step (by repeat (first | (with_reducible first | exact HB.out | apply below_alloc | apply pw_below_drewN | apply below_drew1 | refine below_set ?_ GE825.out) | exact HB.out)) hb); clear BK825; clear HB; have BK825 := n0_; have HB := n1_; clear n0_ n1_; (try clear hb); (try clear hb2); (try clear hk); (try clear hi)) | (go_at_call 46; (with_reducible refine (law08_Few.calls k _ _ l0 t827 _ ?side1 ?side2 A6.out).mono ?_); (case side1 => repeat (first | exact (Kd.C_below HR0.out HB.out) | (with_reducible refine Kd.C_alloc ?_ _) | (with_reducible refine Kd.C_drewN ?_ _) | (with_reducible refine Kd.C_drew ?_))); (case side2 => exact HC0.out); rintro e w' ⟨rfl, ⟨nd, rfl⟩⟩; (try first | exact ⟨rfl, _, World.drewN_drewN _ _ _⟩ | exact ⟨rfl, _, Eq.trans (World.drewN_drewN _ _ _) (congrArg (World.drewN _) (Nat.add_assoc _ _ _))⟩); have hcz11_0 : w10.cell? ⟨gb825, 0, none⟩ = some (.string a1_0) := (blk_cell BK825.out 0).trans rfl; have hcz11_1 : w10.cell? ⟨gb825, 1, none⟩ = some (.string a1_1) := (blk_cell BK825.out 1).trans rfl; have hcz11_2 : w10.cell? ⟨gb825, 2, none⟩ = some (.int .i64 a1_2) := (blk_cell BK825.out 2).trans rfl; have hcz11_3 : w10.cell? ⟨gb825, 3, none⟩ = some (.int .i64 a1_3) := (blk_cell BK825.out 3).trans rfl; have hfz11_0 := blk_frozen BK825.out 0; have hfz11_1 := blk_frozen BK825.out 1; have hfz11_2 := blk_frozen BK825.out 2; have hfz11_3 := blk_frozen BK825.out 3) | ((with_reducible refine gate_dst (N := 22) rfl ?_); (try (refine gate_guard (by rfl) ?_; dsimp only)); refine Kd.R_lit k57 _ 57 ?hg (N := 22) ?hd (xs := ([(⟨a1_0, a1_1, (⟨a1_2, a1_3⟩ : S24)⟩ : S57)] : List (S57))) (inner := [.string a1_0, .string a1_1, .int .i64 a1_2, .int .i64 a1_3]) (ok := fun _ => True) (okp := fun _ => True) ?hr ?hp (fun _ hk => hk) trivial (Below.refl _ _) (Nat.le_refl _) (by simp) ?_; (case hd => rfl); (case hg => rfl); (case hr => first | (go_simp; done) | (go_simp; rfl)); (case hp => exact (Reps.c4 (show Kd.M k57 _ _ _ (⟨a1_0, a1_1, (⟨a1_2, a1_3⟩ : S24)⟩ : S57) [.string a1_0, .string a1_1, .int .i64 a1_2, .int .i64 a1_3] from (k57_mkM _ _ _ (⟨a1_0, a1_1, (⟨a1_2, a1_3⟩ : S24)⟩ : S57) )) (Reps.none _ _))); intro v829 w12 ho13 hb hg_ hnew_; clear hg_ hnew_; (first | rw [← Ny828.out] at ho13 | (simp only [Int.reduceToNat] at ho13; rw [← Ny828.out] at ho13)); have n0_ := Aside0.mk (Kd.R_lower (Kd.R_newB ho13 (g := gb825) (o := .cells #[.string a1_0, .string a1_1, .int .i64 a1_2, .int .i64 a1_3] 57 (0, 0)) (by (with_reducible repeat (first | refine blk_drewN ?_ _ | refine blk_drew ?_ | refine blk_alloc ?_ _)); exact BK825.out)) (below_size (by repeat (first | (with_reducible first | exact HB.out | apply below_alloc | apply pw_below_drewN | apply below_drew1 | refine below_set ?_ GE825.out) | exact HB.out)))); have n1_ := Aside0.mk (blk_below (g := gb825) (o := .cells #[.string a1_0, .string a1_1, .int .i64 a1_2, .int .i64 a1_3] 57 (0, 0)) (by (with_reducible repeat (first | refine blk_drewN ?_ _ | refine blk_drew ?_ | refine blk_alloc ?_ _)); exact BK825.out) hb); have n2_ := Aside0.mk (below_step (by repeat (first | (with_reducible first | exact HB.out | apply below_alloc | apply pw_below_drewN | apply below_drew1 | refine below_set ?_ GE825.out) | exact HB.out)) hb); clear BK825; clear HB; have HO830 := n0_; have BK825 := n1_; have HB := n2_; clear n0_ n1_ n2_; clear hb ho13; obtain ⟨Ao14, co14, eo14⟩ := Kd.R_slice HO830.out; subst eo14) | (go_at_call 46; (with_reducible refine (law08_Few.calls k _ _ y828 t831 _ ?side1 ?side2 A7.out).mono ?_); (case side1 => repeat (first | exact (Kd.R_reads' HO830.out).2.2 | (with_reducible refine Kd.C_alloc ?_ _) | (with_reducible refine Kd.C_drewN ?_ _) | (with_reducible refine Kd.C_drew ?_))); (case side2 => exact (Kd.R_reads' HO830.out).2.1); rintro e w' ⟨rfl, ⟨nd, rfl⟩⟩; (try first | exact ⟨rfl, _, World.drewN_drewN _ _ _⟩ | exact ⟨rfl, _, Eq.trans (World.drewN_drewN _ _ _) (congrArg (World.drewN _) (Nat.add_assoc _ _ _))⟩))); go_upto_region 4 with (first | ((with_reducible refine gate_dst (N := 5) rfl ?_); (try (refine gate_guard (by rfl) ?_; dsimp only)); refine box_event ?hg (N := 5) ?hd (cs := #[.string a1_0, .string a1_1, .int .i64 a1_2, .int .i64 a1_3]) (t := 57) ?hr ?_; (case hd => rfl); (case hg => rfl); (case hr => first | (go_simp; done) | (go_simp; rfl)); intro gb825 hg w9 hbox hb; have n0_ := Aside0.mk (below_step (by repeat (first | (with_reducible first | exact HB.out | apply below_alloc | apply pw_below_drewN | apply below_drew1) | exact HB.out)) hb); have n1_ := Aside0.mk (hbox); have n2_ := Aside0.mk ((by rw [hg]; exact (below_size (by repeat (first | (with_reducible first | exact HB.out | apply below_alloc | apply pw_below_drewN | apply below_drew1) | exact HB.out))) : w.heap.size ≤ gb825)); have n3_ := Aside0.mk ((by rw [hg]; exact (below_size (by repeat (first | (with_reducible first | exact HB.out | apply below_alloc | apply pw_below_drewN | apply below_drew1) | exact HB.out))) : w.heap.size ≤ gb825)); clear HB; have HB := n0_; have BK825 := n1_; have GW825 := n2_; have GE825 := n3_; clear n0_ n1_ n2_ n3_; clear hb hbox hg) | (go_at_call 45; (with_reducible refine (law08_awake.calls k  t826 _ A5.out).mono ?_); rintro e w10 ⟨rfl, hb⟩; have n0_ := Aside0.mk (blk_below (g := gb825) (o := .cells #[.string a1_0, .string a1_1, .int .i64 a1_2, .int .i64 a1_3] 57 (0, 0)) (by (with_reducible repeat (first | refine blk_drewN ?_ _ | refine blk_drew ?_ | refine blk_alloc ?_ _)); exact BK825.out) hb); have n1_ := Aside0.mk (below_step (by repeat (first | (with_reducible first | exact HB.out | apply below_alloc | apply pw_below_drewN | apply below_drew1 | refine below_set ?_ GE825.out) | exact HB.out)) hb); clear BK825; clear HB; have BK825 := n0_; have HB := n1_; clear n0_ n1_; (try clear hb); (try clear hb2); (try clear hk); (try clear hi)) | (go_at_call 46; (with_reducible refine (law08_Few.calls k _ _ l0 t827 _ ?side1 ?side2 A6.out).mono ?_); (case side1 => repeat (first | exact (Kd.C_below HR0.out HB.out) | (with_reducible refine Kd.C_alloc ?_ _) | (with_reducible refine Kd.C_drewN ?_ _) | (with_reducible refine Kd.C_drew ?_))); (case side2 => exact HC0.out); rintro e w' ⟨rfl, ⟨nd, rfl⟩⟩; (try first | exact ⟨rfl, _, World.drewN_drewN _ _ _⟩ | exact ⟨rfl, _, Eq.trans (World.drewN_drewN _ _ _) (congrArg (World.drewN _) (Nat.add_assoc _ _ _))⟩); have hcz11_0 : w10.cell? ⟨gb825, 0, none⟩ = some (.string a1_0) := (blk_cell BK825.out 0).trans rfl; have hcz11_1 : w10.cell? ⟨gb825, 1, none⟩ = some (.string a1_1) := (blk_cell BK825.out 1).trans rfl; have hcz11_2 : w10.cell? ⟨gb825, 2, none⟩ = some (.int .i64 a1_2) := (blk_cell BK825.out 2).trans rfl; have hcz11_3 : w10.cell? ⟨gb825, 3, none⟩ = some (.int .i64 a1_3) := (blk_cell BK825.out 3).trans rfl; have hfz11_0 := blk_frozen BK825.out 0; have hfz11_1 := blk_frozen BK825.out 1; have hfz11_2 := blk_frozen BK825.out 2; have hfz11_3 := blk_frozen BK825.out 3) | ((with_reducible refine gate_dst (N := 22) rfl ?_); (try (refine gate_guard (by rfl) ?_; dsimp only)); refine Kd.R_lit k57 _ 57 ?hg (N := 22) ?hd (xs := ([(⟨a1_0, a1_1, (⟨a1_2, a1_3⟩ : S24)⟩ : S57)] : List (S57))) (inner := [.string a1_0, .string a1_1, .int .i64 a1_2, .int .i64 a1_3]) (ok := fun _ => True) (okp := fun _ => True) ?hr ?hp (fun _ hk => hk) trivial (Below.refl _ _) (Nat.le_refl _) (by simp) ?_; (case hd => rfl); (case hg => rfl); (case hr => first | (go_simp; done) | (go_simp; rfl)); (case hp => exact (Reps.c4 (show Kd.M k57 _ _ _ (⟨a1_0, a1_1, (⟨a1_2, a1_3⟩ : S24)⟩ : S57) [.string a1_0, .string a1_1, .int .i64 a1_2, .int .i64 a1_3] from (k57_mkM _ _ _ (⟨a1_0, a1_1, (⟨a1_2, a1_3⟩ : S24)⟩ : S57) )) (Reps.none _ _))); intro v829 w12 ho13 hb hg_ hnew_; clear hg_ hnew_; (first | rw [← Ny828.out] at ho13 | (simp only [Int.reduceToNat] at ho13; rw [← Ny828.out] at ho13)); have n0_ := Aside0.mk (Kd.R_lower (Kd.R_newB ho13 (g := gb825) (o := .cells #[.string a1_0, .string a1_1, .int .i64 a1_2, .int .i64 a1_3] 57 (0, 0)) (by (with_reducible repeat (first | refine blk_drewN ?_ _ | refine blk_drew ?_ | refine blk_alloc ?_ _)); exact BK825.out)) (below_size (by repeat (first | (with_reducible first | exact HB.out | apply below_alloc | apply pw_below_drewN | apply below_drew1 | refine below_set ?_ GE825.out) | exact HB.out)))); have n1_ := Aside0.mk (blk_below (g := gb825) (o := .cells #[.string a1_0, .string a1_1, .int .i64 a1_2, .int .i64 a1_3] 57 (0, 0)) (by (with_reducible repeat (first | refine blk_drewN ?_ _ | refine blk_drew ?_ | refine blk_alloc ?_ _)); exact BK825.out) hb); have n2_ := Aside0.mk (below_step (by repeat (first | (with_reducible first | exact HB.out | apply below_alloc | apply pw_below_drewN | apply below_drew1 | refine below_set ?_ GE825.out) | exact HB.out)) hb); clear BK825; clear HB; have HO830 := n0_; have BK825 := n1_; have HB := n2_; clear n0_ n1_ n2_; clear hb ho13; obtain ⟨Ao14, co14, eo14⟩ := Kd.R_slice HO830.out; subst eo14) | (go_at_call 46; (with_reducible refine (law08_Few.calls k _ _ y828 t831 _ ?side1 ?side2 A7.out).mono ?_); (case side1 => repeat (first | exact (Kd.R_reads' HO830.out).2.2 | (with_reducible refine Kd.C_alloc ?_ _) | (with_reducible refine Kd.C_drewN ?_ _) | (with_reducible refine Kd.C_drew ?_))); (case side2 => exact (Kd.R_reads' HO830.out).2.1); rintro e w' ⟨rfl, ⟨nd, rfl⟩⟩; (try first | exact ⟨rfl, _, World.drewN_drewN _ _ _⟩ | exact ⟨rfl, _, Eq.trans (World.drewN_drewN _ _ _) (congrArg (World.drewN _) (Nat.add_assoc _ _ _))⟩))))
 (try simp only [Act.put, List.setIfInBounds_toArray, List.set_cons_zero, List.set_cons_succ])
 go_cut [54] (fun v54 wc => ∃ (kq : Nat) (x54_7 : Bool), v54 = .bool x54_7 ∧ Aside0 (law08_PairWins.j0 kq l0 a2 a3 t826 x54_7 a1_0 a1_1 a1_2 a1_3 = some r) ∧ Aside0 (kq ≤ k) ∧ Aside0 (wc.heap[gb825]? = some (.cells #[.string a1_0, .string a1_1, .int .i64 a1_2, .int .i64 a1_3] 57 (0, 0))) ∧ Aside0 (Below w.heap.size w wc))
 case first =>
  have H := HC8.out
  clear HC8
  by_cases c15 : t826 = true
  ·subst c15
   have H1 : (if t827 = true then (if t831 = true then ((pair_May.f k l0).bind fun t832 => (if t832 = true then ((pair_May.f k (([(⟨a1_0, a1_1, (⟨a1_2, a1_3⟩ : S24)⟩ : S57)] : List (S57)))).bind fun t836 => (if t836 = true then (if (a2.size : Int) > 100 then (law08_PairWins.j0 k l0 a2 a3 true true a1_0 a1_1 a1_2 a1_3) else (law08_PairWins.j0 k l0 a2 a3 true (decide ((a3.size : Int) > 100)) a1_0 a1_1 a1_2 a1_3)) else (law08_PairWins.j0 k l0 a2 a3 true true a1_0 a1_1 a1_2 a1_3))) else (law08_PairWins.j0 k l0 a2 a3 true true a1_0 a1_1 a1_2 a1_3))) else (law08_PairWins.j0 k l0 a2 a3 true true a1_0 a1_1 a1_2 a1_3)) else (law08_PairWins.j0 k l0 a2 a3 true true a1_0 a1_1 a1_2 a1_3)) = some r := by rw [if_pos rfl] at H; exact H
   clear H
   have H := H1
   clear H1
   by_cases c16 : t827 = true
   ·subst c16
    have H1 : (if t831 = true then ((pair_May.f k l0).bind fun t832 => (if t832 = true then ((pair_May.f k (([(⟨a1_0, a1_1, (⟨a1_2, a1_3⟩ : S24)⟩ : S57)] : List (S57)))).bind fun t836 => (if t836 = true then (if (a2.size : Int) > 100 then (law08_PairWins.j0 k l0 a2 a3 true true a1_0 a1_1 a1_2 a1_3) else (law08_PairWins.j0 k l0 a2 a3 true (decide ((a3.size : Int) > 100)) a1_0 a1_1 a1_2 a1_3)) else (law08_PairWins.j0 k l0 a2 a3 true true a1_0 a1_1 a1_2 a1_3))) else (law08_PairWins.j0 k l0 a2 a3 true true a1_0 a1_1 a1_2 a1_3))) else (law08_PairWins.j0 k l0 a2 a3 true true a1_0 a1_1 a1_2 a1_3)) = some r := by rw [if_pos rfl] at H; exact H
    clear H
    have H := H1
    clear H1
    by_cases c17 : t831 = true
    ·subst c17
     have H1 : ((pair_May.f k l0).bind fun t832 => (if t832 = true then ((pair_May.f k (([(⟨a1_0, a1_1, (⟨a1_2, a1_3⟩ : S24)⟩ : S57)] : List (S57)))).bind fun t836 => (if t836 = true then (if (a2.size : Int) > 100 then (law08_PairWins.j0 k l0 a2 a3 true true a1_0 a1_1 a1_2 a1_3) else (law08_PairWins.j0 k l0 a2 a3 true (decide ((a3.size : Int) > 100)) a1_0 a1_1 a1_2 a1_3)) else (law08_PairWins.j0 k l0 a2 a3 true true a1_0 a1_1 a1_2 a1_3))) else (law08_PairWins.j0 k l0 a2 a3 true true a1_0 a1_1 a1_2 a1_3))) = some r := by rw [if_pos rfl] at H; exact H
     clear H
     have H := H1
     clear H1
     replace H := Option.bind_eq_some_iff.mp H
     obtain ⟨t832, A180, H⟩ := H
     replace H : (if t832 = true then ((pair_May.f k (([(⟨a1_0, a1_1, (⟨a1_2, a1_3⟩ : S24)⟩ : S57)] : List (S57)))).bind fun t836 => (if t836 = true then (if (a2.size : Int) > 100 then (law08_PairWins.j0 k l0 a2 a3 true true a1_0 a1_1 a1_2 a1_3) else (law08_PairWins.j0 k l0 a2 a3 true (decide ((a3.size : Int) > 100)) a1_0 a1_1 a1_2 a1_3)) else (law08_PairWins.j0 k l0 a2 a3 true true a1_0 a1_1 a1_2 a1_3))) else (law08_PairWins.j0 k l0 a2 a3 true true a1_0 a1_1 a1_2 a1_3)) = some r := H
     have A18 := Aside0.mk A180
     clear A180
     by_cases c19 : t832 = true
     ·subst c19
      have H1 : ((pair_May.f k (([(⟨a1_0, a1_1, (⟨a1_2, a1_3⟩ : S24)⟩ : S57)] : List (S57)))).bind fun t836 => (if t836 = true then (if (a2.size : Int) > 100 then (law08_PairWins.j0 k l0 a2 a3 true true a1_0 a1_1 a1_2 a1_3) else (law08_PairWins.j0 k l0 a2 a3 true (decide ((a3.size : Int) > 100)) a1_0 a1_1 a1_2 a1_3)) else (law08_PairWins.j0 k l0 a2 a3 true true a1_0 a1_1 a1_2 a1_3))) = some r := by rw [if_pos rfl] at H; exact H
      clear H
      have H := H1
      clear H1
      obtain ⟨y833, hy833⟩ : ∃ y_ : List (S57), y_ = (([(⟨a1_0, a1_1, (⟨a1_2, a1_3⟩ : S24)⟩ : S57)] : List (S57))) := ⟨_, rfl⟩
      replace H : ((pair_May.f k y833).bind fun t836 => (if t836 = true then (if (a2.size : Int) > 100 then (law08_PairWins.j0 k l0 a2 a3 true true a1_0 a1_1 a1_2 a1_3) else (law08_PairWins.j0 k l0 a2 a3 true (decide ((a3.size : Int) > 100)) a1_0 a1_1 a1_2 a1_3)) else (law08_PairWins.j0 k l0 a2 a3 true true a1_0 a1_1 a1_2 a1_3))) = some r := by first | (rw [hy833]; with_reducible exact H) | (have H2_ := (Option.bind_some _ _).symm.trans H; rw [hy833]; with_reducible exact H2_) | (have H2_ := (Option.bind_some _ _).symm.trans H; with_reducible exact H2_) | with_reducible exact H | (rw [hy833]; exact H) | exact H
      have Ny833 := Aside0.mk hy833
      clear hy833
      replace H := Option.bind_eq_some_iff.mp H
      obtain ⟨t836, A200, H⟩ := H
      replace H : (if t836 = true then (if (a2.size : Int) > 100 then (law08_PairWins.j0 k l0 a2 a3 true true a1_0 a1_1 a1_2 a1_3) else (law08_PairWins.j0 k l0 a2 a3 true (decide ((a3.size : Int) > 100)) a1_0 a1_1 a1_2 a1_3)) else (law08_PairWins.j0 k l0 a2 a3 true true a1_0 a1_1 a1_2 a1_3)) = some r := H
      have A20 := Aside0.mk A200
      clear A200
      by_cases c21 : t836 = true
      ·subst c21
       have H1 : (if (a2.size : Int) > 100 then (law08_PairWins.j0 k l0 a2 a3 true true a1_0 a1_1 a1_2 a1_3) else (law08_PairWins.j0 k l0 a2 a3 true (decide ((a3.size : Int) > 100)) a1_0 a1_1 a1_2 a1_3)) = some r := by rw [if_pos rfl] at H; exact H
       clear H
       have H := H1
       clear H1
       by_cases c22 : (a2.size : Int) > 100
       ·rw [if_pos c22] at H
        have c22b0 : decide (100 < (a2.size : Int)) = true := decide_eq_true c22
        have c22b1 : decide (100 < a2.size) = true := decide_eq_true (by omega)
        clear c22
        (first | rw [c22b0] | (simp only [i64_w, i32_w]; rw [c22b0]) | skip)
        have H' := Aside0.mk H
        clear H
        go_wp2_with (first | (go_at_call 60; (with_reducible refine (pair_May.calls k _ _ l0 true _ ?side1 ?side2 A18.out).mono ?_); (case side1 => repeat (first | exact (Kd.C_below HR0.out HB.out) | (with_reducible refine Kd.C_alloc ?_ _) | (with_reducible refine Kd.C_drewN ?_ _) | (with_reducible refine Kd.C_drew ?_))); (case side2 => exact HC0.out); rintro e w23 ⟨rfl, hb⟩; have n0_ := Aside0.mk (Kd.R_below (by (with_reducible repeat (first | apply Kd.R_alloc | apply Kd.R_drewN | apply Kd.R_drew)); exact HO830.out) hb); have n1_ := Aside0.mk (blk_below (g := gb825) (o := .cells #[.string a1_0, .string a1_1, .int .i64 a1_2, .int .i64 a1_3] 57 (0, 0)) (by (with_reducible repeat (first | refine blk_drewN ?_ _ | refine blk_drew ?_ | refine blk_alloc ?_ _)); exact BK825.out) hb); have n2_ := Aside0.mk (below_step (by repeat (first | (with_reducible first | exact HB.out | apply below_alloc | apply pw_below_drewN | apply below_drew1 | refine below_set ?_ GE825.out) | exact HB.out)) hb); clear HO830; clear BK825; clear HB; have HO830 := n0_; have BK825 := n1_; have HB := n2_; clear n0_ n1_ n2_; (try clear hb); (try clear hb2); (try clear hk); (try clear hi); have hcz24_0 : w23.cell? ⟨gb825, 0, none⟩ = some (.string a1_0) := (blk_cell BK825.out 0).trans rfl; have hcz24_1 : w23.cell? ⟨gb825, 1, none⟩ = some (.string a1_1) := (blk_cell BK825.out 1).trans rfl; have hcz24_2 : w23.cell? ⟨gb825, 2, none⟩ = some (.int .i64 a1_2) := (blk_cell BK825.out 2).trans rfl; have hcz24_3 : w23.cell? ⟨gb825, 3, none⟩ = some (.int .i64 a1_3) := (blk_cell BK825.out 3).trans rfl; have hfz24_0 := blk_frozen BK825.out 0; have hfz24_1 := blk_frozen BK825.out 1; have hfz24_2 := blk_frozen BK825.out 2; have hfz24_3 := blk_frozen BK825.out 3) | ((with_reducible refine gate_dst (N := 41) rfl ?_); (try (refine gate_guard (by rfl) ?_; dsimp only)); refine Kd.R_lit k57 _ 57 ?hg (N := 41) ?hd (xs := ([(⟨a1_0, a1_1, (⟨a1_2, a1_3⟩ : S24)⟩ : S57)] : List (S57))) (inner := [.string a1_0, .string a1_1, .int .i64 a1_2, .int .i64 a1_3]) (ok := fun _ => True) (okp := fun _ => True) ?hr ?hp (fun _ hk => hk) trivial (Below.refl _ _) (Nat.le_refl _) (by simp) ?_; (case hd => rfl); (case hg => rfl); (case hr => first | (go_simp; done) | (go_simp; rfl)); (case hp => exact (Reps.c4 (show Kd.M k57 _ _ _ (⟨a1_0, a1_1, (⟨a1_2, a1_3⟩ : S24)⟩ : S57) [.string a1_0, .string a1_1, .int .i64 a1_2, .int .i64 a1_3] from (k57_mkM _ _ _ (⟨a1_0, a1_1, (⟨a1_2, a1_3⟩ : S24)⟩ : S57) )) (Reps.none _ _))); intro v834 w25 ho26 hb hg_ hnew_; clear hg_ hnew_; (first | rw [← Ny833.out] at ho26 | (simp only [Int.reduceToNat] at ho26; rw [← Ny833.out] at ho26)); have n0_ := Aside0.mk (Kd.R_elder' (by (with_reducible repeat (first | apply Kd.R_alloc | apply Kd.R_drewN | apply Kd.R_drew)); exact HO830.out) (Kd.R_base ho26) hb); have n1_ := Aside0.mk (Kd.R_lower (Kd.R_newB (Kd.R_new' ho26 (Kd.R_lt (by (with_reducible repeat (first | apply Kd.R_alloc | apply Kd.R_drewN | apply Kd.R_drew)); exact HO830.out))) (g := gb825) (o := .cells #[.string a1_0, .string a1_1, .int .i64 a1_2, .int .i64 a1_3] 57 (0, 0)) (by (with_reducible repeat (first | refine blk_drewN ?_ _ | refine blk_drew ?_ | refine blk_alloc ?_ _)); exact BK825.out)) (below_size (by repeat (first | (with_reducible first | exact HB.out | apply below_alloc | apply pw_below_drewN | apply below_drew1 | refine below_set ?_ GE825.out) | exact HB.out)))); have n2_ := Aside0.mk (blk_below (g := gb825) (o := .cells #[.string a1_0, .string a1_1, .int .i64 a1_2, .int .i64 a1_3] 57 (0, 0)) (by (with_reducible repeat (first | refine blk_drewN ?_ _ | refine blk_drew ?_ | refine blk_alloc ?_ _)); exact BK825.out) hb); have n3_ := Aside0.mk (below_step (by repeat (first | (with_reducible first | exact HB.out | apply below_alloc | apply pw_below_drewN | apply below_drew1 | refine below_set ?_ GE825.out) | exact HB.out)) hb); clear HO830; clear BK825; clear HB; have HO830 := n0_; have HO835 := n1_; have BK825 := n2_; have HB := n3_; clear n0_ n1_ n2_ n3_; clear hb ho26; obtain ⟨Ao27, co27, eo27⟩ := Kd.R_slice HO835.out; subst eo27) | (go_at_call 60; (with_reducible refine (pair_May.calls k _ _ y833 true _ ?side1 ?side2 A20.out).mono ?_); (case side1 => repeat (first | exact (Kd.R_reads' HO835.out).2.2 | (with_reducible refine Kd.C_alloc ?_ _) | (with_reducible refine Kd.C_drewN ?_ _) | (with_reducible refine Kd.C_drew ?_))); (case side2 => exact (Kd.R_reads' HO835.out).2.1); rintro e w28 ⟨rfl, hb⟩; have n0_ := Aside0.mk (Kd.R_below (by (with_reducible repeat (first | apply Kd.R_alloc | apply Kd.R_drewN | apply Kd.R_drew)); exact HO830.out) hb); have n1_ := Aside0.mk (Kd.R_below (by (with_reducible repeat (first | apply Kd.R_alloc | apply Kd.R_drewN | apply Kd.R_drew)); exact HO835.out) hb); have n2_ := Aside0.mk (blk_below (g := gb825) (o := .cells #[.string a1_0, .string a1_1, .int .i64 a1_2, .int .i64 a1_3] 57 (0, 0)) (by (with_reducible repeat (first | refine blk_drewN ?_ _ | refine blk_drew ?_ | refine blk_alloc ?_ _)); exact BK825.out) hb); have n3_ := Aside0.mk (below_step (by repeat (first | (with_reducible first | exact HB.out | apply below_alloc | apply pw_below_drewN | apply below_drew1 | refine below_set ?_ GE825.out) | exact HB.out)) hb); clear HO830; clear HO835; clear BK825; clear HB; have HO830 := n0_; have HO835 := n1_; have BK825 := n2_; have HB := n3_; clear n0_ n1_ n2_ n3_; (try clear hb); (try clear hb2); (try clear hk); (try clear hi)))
        repeat (go_quiet (first | (go_at_call 60; (with_reducible refine (pair_May.calls k _ _ l0 true _ ?side1 ?side2 A18.out).mono ?_); (case side1 => repeat (first | exact (Kd.C_below HR0.out HB.out) | (with_reducible refine Kd.C_alloc ?_ _) | (with_reducible refine Kd.C_drewN ?_ _) | (with_reducible refine Kd.C_drew ?_))); (case side2 => exact HC0.out); rintro e w23 ⟨rfl, hb⟩; have n0_ := Aside0.mk (Kd.R_below (by (with_reducible repeat (first | apply Kd.R_alloc | apply Kd.R_drewN | apply Kd.R_drew)); exact HO830.out) hb); have n1_ := Aside0.mk (blk_below (g := gb825) (o := .cells #[.string a1_0, .string a1_1, .int .i64 a1_2, .int .i64 a1_3] 57 (0, 0)) (by (with_reducible repeat (first | refine blk_drewN ?_ _ | refine blk_drew ?_ | refine blk_alloc ?_ _)); exact BK825.out) hb); have n2_ := Aside0.mk (below_step (by repeat (first | (with_reducible first | exact HB.out | apply below_alloc | apply pw_below_drewN | apply below_drew1 | refine below_set ?_ GE825.out) | exact HB.out)) hb); clear HO830; clear BK825; clear HB; have HO830 := n0_; have BK825 := n1_; have HB := n2_; clear n0_ n1_ n2_; (try clear hb); (try clear hb2); (try clear hk); (try clear hi); have hcz24_0 : w23.cell? ⟨gb825, 0, none⟩ = some (.string a1_0) := (blk_cell BK825.out 0).trans rfl; have hcz24_1 : w23.cell? ⟨gb825, 1, none⟩ = some (.string a1_1) := (blk_cell BK825.out 1).trans rfl; have hcz24_2 : w23.cell? ⟨gb825, 2, none⟩ = some (.int .i64 a1_2) := (blk_cell BK825.out 2).trans rfl; have hcz24_3 : w23.cell? ⟨gb825, 3, none⟩ = some (.int .i64 a1_3) := (blk_cell BK825.out 3).trans rfl; have hfz24_0 := blk_frozen BK825.out 0; have hfz24_1 := blk_frozen BK825.out 1; have hfz24_2 := blk_frozen BK825.out 2; have hfz24_3 := blk_frozen BK825.out 3) | ((with_reducible refine gate_dst (N := 41) rfl ?_); (try (refine gate_guard (by rfl) ?_; dsimp only)); refine Kd.R_lit k57 _ 57 ?hg (N := 41) ?hd (xs := ([(⟨a1_0, a1_1, (⟨a1_2, a1_3⟩ : S24)⟩ : S57)] : List (S57))) (inner := [.string a1_0, .string a1_1, .int .i64 a1_2, .int .i64 a1_3]) (ok := fun _ => True) (okp := fun _ => True) ?hr ?hp (fun _ hk => hk) trivial (Below.refl _ _) (Nat.le_refl _) (by simp) ?_; (case hd => rfl); (case hg => rfl); (case hr => first | (go_simp; done) | (go_simp; rfl)); (case hp => exact (Reps.c4 (show Kd.M k57 _ _ _ (⟨a1_0, a1_1, (⟨a1_2, a1_3⟩ : S24)⟩ : S57) [.string a1_0, .string a1_1, .int .i64 a1_2, .int .i64 a1_3] from (k57_mkM _ _ _ (⟨a1_0, a1_1, (⟨a1_2, a1_3⟩ : S24)⟩ : S57) )) (Reps.none _ _))); intro v834 w25 ho26 hb hg_ hnew_; clear hg_ hnew_; (first | rw [← Ny833.out] at ho26 | (simp only [Int.reduceToNat] at ho26; rw [← Ny833.out] at ho26)); have n0_ := Aside0.mk (Kd.R_elder' (by (with_reducible repeat (first | apply Kd.R_alloc | apply Kd.R_drewN | apply Kd.R_drew)); exact HO830.out) (Kd.R_base ho26) hb); have n1_ := Aside0.mk (Kd.R_lower (Kd.R_newB (Kd.R_new' ho26 (Kd.R_lt (by (with_reducible repeat (first | apply Kd.R_alloc | apply Kd.R_drewN | apply Kd.R_drew)); exact HO830.out))) (g := gb825) (o := .cells #[.string a1_0, .string a1_1, .int .i64 a1_2, .int .i64 a1_3] 57 (0, 0)) (by (with_reducible repeat (first | refine blk_drewN ?_ _ | refine blk_drew ?_ | refine blk_alloc ?_ _)); exact BK825.out)) (below_size (by repeat (first | (with_reducible first | exact HB.out | apply below_alloc | apply pw_below_drewN | apply below_drew1 | refine below_set ?_ GE825.out) | exact HB.out)))); have n2_ := Aside0.mk (blk_below (g := gb825) (o := .cells #[.string a1_0, .string a1_1, .int .i64 a1_2, .int .i64 a1_3] 57 (0, 0)) (by (with_reducible repeat (first | refine blk_drewN ?_ _ | refine blk_drew ?_ | refine blk_alloc ?_ _)); exact BK825.out) hb); have n3_ := Aside0.mk (below_step (by repeat (first | (with_reducible first | exact HB.out | apply below_alloc | apply pw_below_drewN | apply below_drew1 | refine below_set ?_ GE825.out) | exact HB.out)) hb); clear HO830; clear BK825; clear HB; have HO830 := n0_; have HO835 := n1_; have BK825 := n2_; have HB := n3_; clear n0_ n1_ n2_ n3_; clear hb ho26; obtain ⟨Ao27, co27, eo27⟩ := Kd.R_slice HO835.out; subst eo27) | (go_at_call 60; (with_reducible refine (pair_May.calls k _ _ y833 true _ ?side1 ?side2 A20.out).mono ?_); (case side1 => repeat (first | exact (Kd.R_reads' HO835.out).2.2 | (with_reducible refine Kd.C_alloc ?_ _) | (with_reducible refine Kd.C_drewN ?_ _) | (with_reducible refine Kd.C_drew ?_))); (case side2 => exact (Kd.R_reads' HO835.out).2.1); rintro e w28 ⟨rfl, hb⟩; have n0_ := Aside0.mk (Kd.R_below (by (with_reducible repeat (first | apply Kd.R_alloc | apply Kd.R_drewN | apply Kd.R_drew)); exact HO830.out) hb); have n1_ := Aside0.mk (Kd.R_below (by (with_reducible repeat (first | apply Kd.R_alloc | apply Kd.R_drewN | apply Kd.R_drew)); exact HO835.out) hb); have n2_ := Aside0.mk (blk_below (g := gb825) (o := .cells #[.string a1_0, .string a1_1, .int .i64 a1_2, .int .i64 a1_3] 57 (0, 0)) (by (with_reducible repeat (first | refine blk_drewN ?_ _ | refine blk_drew ?_ | refine blk_alloc ?_ _)); exact BK825.out) hb); have n3_ := Aside0.mk (below_step (by repeat (first | (with_reducible first | exact HB.out | apply below_alloc | apply pw_below_drewN | apply below_drew1 | refine below_set ?_ GE825.out) | exact HB.out)) hb); clear HO830; clear HO835; clear BK825; clear HB; have HO830 := n0_; have HO835 := n1_; have BK825 := n2_; have HB := n3_; clear n0_ n1_ n2_ n3_; (try clear hb); (try clear hb2); (try clear hk); (try clear hi))); try go_wp2_with (first | (go_at_call 60; (with_reducible refine (pair_May.calls k _ _ l0 true _ ?side1 ?side2 A18.out).mono ?_); (case side1 => repeat (first | exact (Kd.C_below HR0.out HB.out) | (with_reducible refine Kd.C_alloc ?_ _) | (with_reducible refine Kd.C_drewN ?_ _) | (with_reducible refine Kd.C_drew ?_))); (case side2 => exact HC0.out); rintro e w23 ⟨rfl, hb⟩; have n0_ := Aside0.mk (Kd.R_below (by (with_reducible repeat (first | apply Kd.R_alloc | apply Kd.R_drewN | apply Kd.R_drew)); exact HO830.out) hb); have n1_ := Aside0.mk (blk_below (g := gb825) (o := .cells #[.string a1_0, .string a1_1, .int .i64 a1_2, .int .i64 a1_3] 57 (0, 0)) (by (with_reducible repeat (first | refine blk_drewN ?_ _ | refine blk_drew ?_ | refine blk_alloc ?_ _)); exact BK825.out) hb); have n2_ := Aside0.mk (below_step (by repeat (first | (with_reducible first | exact HB.out | apply below_alloc | apply pw_below_drewN | apply below_drew1 | refine below_set ?_ GE825.out) | exact HB.out)) hb); clear HO830; clear BK825; clear HB; have HO830 := n0_; have BK825 := n1_; have HB := n2_; clear n0_ n1_ n2_; (try clear hb); (try clear hb2); (try clear hk); (try clear hi); have hcz24_0 : w23.cell? ⟨gb825, 0, none⟩ = some (.string a1_0) := (blk_cell BK825.out 0).trans rfl; have hcz24_1 : w23.cell? ⟨gb825, 1, none⟩ = some (.string a1_1) := (blk_cell BK825.out 1).trans rfl; have hcz24_2 : w23.cell? ⟨gb825, 2, none⟩ = some (.int .i64 a1_2) := (blk_cell BK825.out 2).trans rfl; have hcz24_3 : w23.cell? ⟨gb825, 3, none⟩ = some (.int .i64 a1_3) := (blk_cell BK825.out 3).trans rfl; have hfz24_0 := blk_frozen BK825.out 0; have hfz24_1 := blk_frozen BK825.out 1; have hfz24_2 := blk_frozen BK825.out 2; have hfz24_3 := blk_frozen BK825.out 3) | ((with_reducible refine gate_dst (N := 41) rfl ?_); (try (refine gate_guard (by rfl) ?_; dsimp only)); refine Kd.R_lit k57 _ 57 ?hg (N := 41) ?hd (xs := ([(⟨a1_0, a1_1, (⟨a1_2, a1_3⟩ : S24)⟩ : S57)] : List (S57))) (inner := [.string a1_0, .string a1_1, .int .i64 a1_2, .int .i64 a1_3]) (ok := fun _ => True) (okp := fun _ => True) ?hr ?hp (fun _ hk => hk) trivial (Below.refl _ _) (Nat.le_refl _) (by simp) ?_; (case hd => rfl); (case hg => rfl); (case hr => first | (go_simp; done) | (go_simp; rfl)); (case hp => exact (Reps.c4 (show Kd.M k57 _ _ _ (⟨a1_0, a1_1, (⟨a1_2, a1_3⟩ : S24)⟩ : S57) [.string a1_0, .string a1_1, .int .i64 a1_2, .int .i64 a1_3] from (k57_mkM _ _ _ (⟨a1_0, a1_1, (⟨a1_2, a1_3⟩ : S24)⟩ : S57) )) (Reps.none _ _))); intro v834 w25 ho26 hb hg_ hnew_; clear hg_ hnew_; (first | rw [← Ny833.out] at ho26 | (simp only [Int.reduceToNat] at ho26; rw [← Ny833.out] at ho26)); have n0_ := Aside0.mk (Kd.R_elder' (by (with_reducible repeat (first | apply Kd.R_alloc | apply Kd.R_drewN | apply Kd.R_drew)); exact HO830.out) (Kd.R_base ho26) hb); have n1_ := Aside0.mk (Kd.R_lower (Kd.R_newB (Kd.R_new' ho26 (Kd.R_lt (by (with_reducible repeat (first | apply Kd.R_alloc | apply Kd.R_drewN | apply Kd.R_drew)); exact HO830.out))) (g := gb825) (o := .cells #[.string a1_0, .string a1_1, .int .i64 a1_2, .int .i64 a1_3] 57 (0, 0)) (by (with_reducible repeat (first | refine blk_drewN ?_ _ | refine blk_drew ?_ | refine blk_alloc ?_ _)); exact BK825.out)) (below_size (by repeat (first | (with_reducible first | exact HB.out | apply below_alloc | apply pw_below_drewN | apply below_drew1 | refine below_set ?_ GE825.out) | exact HB.out)))); have n2_ := Aside0.mk (blk_below (g := gb825) (o := .cells #[.string a1_0, .string a1_1, .int .i64 a1_2, .int .i64 a1_3] 57 (0, 0)) (by (with_reducible repeat (first | refine blk_drewN ?_ _ | refine blk_drew ?_ | refine blk_alloc ?_ _)); exact BK825.out) hb); have n3_ := Aside0.mk (below_step (by repeat (first | (with_reducible first | exact HB.out | apply below_alloc | apply pw_below_drewN | apply below_drew1 | refine below_set ?_ GE825.out) | exact HB.out)) hb); clear HO830; clear BK825; clear HB; have HO830 := n0_; have HO835 := n1_; have BK825 := n2_; have HB := n3_; clear n0_ n1_ n2_ n3_; clear hb ho26; obtain ⟨Ao27, co27, eo27⟩ := Kd.R_slice HO835.out; subst eo27) | (go_at_call 60; (with_reducible refine (pair_May.calls k _ _ y833 true _ ?side1 ?side2 A20.out).mono ?_); (case side1 => repeat (first | exact (Kd.R_reads' HO835.out).2.2 | (with_reducible refine Kd.C_alloc ?_ _) | (with_reducible refine Kd.C_drewN ?_ _) | (with_reducible refine Kd.C_drew ?_))); (case side2 => exact (Kd.R_reads' HO835.out).2.1); rintro e w28 ⟨rfl, hb⟩; have n0_ := Aside0.mk (Kd.R_below (by (with_reducible repeat (first | apply Kd.R_alloc | apply Kd.R_drewN | apply Kd.R_drew)); exact HO830.out) hb); have n1_ := Aside0.mk (Kd.R_below (by (with_reducible repeat (first | apply Kd.R_alloc | apply Kd.R_drewN | apply Kd.R_drew)); exact HO835.out) hb); have n2_ := Aside0.mk (blk_below (g := gb825) (o := .cells #[.string a1_0, .string a1_1, .int .i64 a1_2, .int .i64 a1_3] 57 (0, 0)) (by (with_reducible repeat (first | refine blk_drewN ?_ _ | refine blk_drew ?_ | refine blk_alloc ?_ _)); exact BK825.out) hb); have n3_ := Aside0.mk (below_step (by repeat (first | (with_reducible first | exact HB.out | apply below_alloc | apply pw_below_drewN | apply below_drew1 | refine below_set ?_ GE825.out) | exact HB.out)) hb); clear HO830; clear HO835; clear BK825; clear HB; have HO830 := n0_; have HO835 := n1_; have BK825 := n2_; have HB := n3_; clear n0_ n1_ n2_ n3_; (try clear hb); (try clear hb2); (try clear hk); (try clear hi))))
        go_meet
        case rel => exact ⟨_, (true), (by first | rfl | (simp; done) | (simp [*]; done)), H', ⟨by first | omega | exact Nat.le_refl _⟩, ⟨by (with_reducible repeat (first | refine blk_drewN ?_ _ | refine blk_drew ?_ | refine blk_alloc ?_ _)); exact BK825.out⟩, ⟨by repeat (first | (with_reducible first | exact HB.out | apply below_alloc | apply pw_below_drewN | apply below_drew1 | refine below_set ?_ GE825.out) | exact HB.out)⟩⟩
       ·rw [if_neg c22] at H
        have c22b0 : decide (100 < (a2.size : Int)) = false := decide_eq_false c22
        have c22b1 : decide (100 < a2.size) = false := decide_eq_false (by omega)
        clear c22
        (first | rw [c22b0] | (simp only [i64_w, i32_w]; rw [c22b0]) | skip)
        have H' := Aside0.mk H
        clear H
        go_wp2_with (first | (go_at_call 60; (with_reducible refine (pair_May.calls k _ _ l0 true _ ?side1 ?side2 A18.out).mono ?_); (case side1 => repeat (first | exact (Kd.C_below HR0.out HB.out) | (with_reducible refine Kd.C_alloc ?_ _) | (with_reducible refine Kd.C_drewN ?_ _) | (with_reducible refine Kd.C_drew ?_))); (case side2 => exact HC0.out); rintro e w29 ⟨rfl, hb⟩; have n0_ := Aside0.mk (Kd.R_below (by (with_reducible repeat (first | apply Kd.R_alloc | apply Kd.R_drewN | apply Kd.R_drew)); exact HO830.out) hb); have n1_ := Aside0.mk (blk_below (g := gb825) (o := .cells #[.string a1_0, .string a1_1, .int .i64 a1_2, .int .i64 a1_3] 57 (0, 0)) (by (with_reducible repeat (first | refine blk_drewN ?_ _ | refine blk_drew ?_ | refine blk_alloc ?_ _)); exact BK825.out) hb); have n2_ := Aside0.mk (below_step (by repeat (first | (with_reducible first | exact HB.out | apply below_alloc | apply pw_below_drewN | apply below_drew1 | refine below_set ?_ GE825.out) | exact HB.out)) hb); clear HO830; clear BK825; clear HB; have HO830 := n0_; have BK825 := n1_; have HB := n2_; clear n0_ n1_ n2_; (try clear hb); (try clear hb2); (try clear hk); (try clear hi); have hcz30_0 : w29.cell? ⟨gb825, 0, none⟩ = some (.string a1_0) := (blk_cell BK825.out 0).trans rfl; have hcz30_1 : w29.cell? ⟨gb825, 1, none⟩ = some (.string a1_1) := (blk_cell BK825.out 1).trans rfl; have hcz30_2 : w29.cell? ⟨gb825, 2, none⟩ = some (.int .i64 a1_2) := (blk_cell BK825.out 2).trans rfl; have hcz30_3 : w29.cell? ⟨gb825, 3, none⟩ = some (.int .i64 a1_3) := (blk_cell BK825.out 3).trans rfl; have hfz30_0 := blk_frozen BK825.out 0; have hfz30_1 := blk_frozen BK825.out 1; have hfz30_2 := blk_frozen BK825.out 2; have hfz30_3 := blk_frozen BK825.out 3) | ((with_reducible refine gate_dst (N := 41) rfl ?_); (try (refine gate_guard (by rfl) ?_; dsimp only)); refine Kd.R_lit k57 _ 57 ?hg (N := 41) ?hd (xs := ([(⟨a1_0, a1_1, (⟨a1_2, a1_3⟩ : S24)⟩ : S57)] : List (S57))) (inner := [.string a1_0, .string a1_1, .int .i64 a1_2, .int .i64 a1_3]) (ok := fun _ => True) (okp := fun _ => True) ?hr ?hp (fun _ hk => hk) trivial (Below.refl _ _) (Nat.le_refl _) (by simp) ?_; (case hd => rfl); (case hg => rfl); (case hr => first | (go_simp; done) | (go_simp; rfl)); (case hp => exact (Reps.c4 (show Kd.M k57 _ _ _ (⟨a1_0, a1_1, (⟨a1_2, a1_3⟩ : S24)⟩ : S57) [.string a1_0, .string a1_1, .int .i64 a1_2, .int .i64 a1_3] from (k57_mkM _ _ _ (⟨a1_0, a1_1, (⟨a1_2, a1_3⟩ : S24)⟩ : S57) )) (Reps.none _ _))); intro v834 w31 ho32 hb hg_ hnew_; clear hg_ hnew_; (first | rw [← Ny833.out] at ho32 | (simp only [Int.reduceToNat] at ho32; rw [← Ny833.out] at ho32)); have n0_ := Aside0.mk (Kd.R_elder' (by (with_reducible repeat (first | apply Kd.R_alloc | apply Kd.R_drewN | apply Kd.R_drew)); exact HO830.out) (Kd.R_base ho32) hb); have n1_ := Aside0.mk (Kd.R_lower (Kd.R_newB (Kd.R_new' ho32 (Kd.R_lt (by (with_reducible repeat (first | apply Kd.R_alloc | apply Kd.R_drewN | apply Kd.R_drew)); exact HO830.out))) (g := gb825) (o := .cells #[.string a1_0, .string a1_1, .int .i64 a1_2, .int .i64 a1_3] 57 (0, 0)) (by (with_reducible repeat (first | refine blk_drewN ?_ _ | refine blk_drew ?_ | refine blk_alloc ?_ _)); exact BK825.out)) (below_size (by repeat (first | (with_reducible first | exact HB.out | apply below_alloc | apply pw_below_drewN | apply below_drew1 | refine below_set ?_ GE825.out) | exact HB.out)))); have n2_ := Aside0.mk (blk_below (g := gb825) (o := .cells #[.string a1_0, .string a1_1, .int .i64 a1_2, .int .i64 a1_3] 57 (0, 0)) (by (with_reducible repeat (first | refine blk_drewN ?_ _ | refine blk_drew ?_ | refine blk_alloc ?_ _)); exact BK825.out) hb); have n3_ := Aside0.mk (below_step (by repeat (first | (with_reducible first | exact HB.out | apply below_alloc | apply pw_below_drewN | apply below_drew1 | refine below_set ?_ GE825.out) | exact HB.out)) hb); clear HO830; clear BK825; clear HB; have HO830 := n0_; have HO835 := n1_; have BK825 := n2_; have HB := n3_; clear n0_ n1_ n2_ n3_; clear hb ho32; obtain ⟨Ao33, co33, eo33⟩ := Kd.R_slice HO835.out; subst eo33) | (go_at_call 60; (with_reducible refine (pair_May.calls k _ _ y833 true _ ?side1 ?side2 A20.out).mono ?_); (case side1 => repeat (first | exact (Kd.R_reads' HO835.out).2.2 | (with_reducible refine Kd.C_alloc ?_ _) | (with_reducible refine Kd.C_drewN ?_ _) | (with_reducible refine Kd.C_drew ?_))); (case side2 => exact (Kd.R_reads' HO835.out).2.1); rintro e w34 ⟨rfl, hb⟩; have n0_ := Aside0.mk (Kd.R_below (by (with_reducible repeat (first | apply Kd.R_alloc | apply Kd.R_drewN | apply Kd.R_drew)); exact HO830.out) hb); have n1_ := Aside0.mk (Kd.R_below (by (with_reducible repeat (first | apply Kd.R_alloc | apply Kd.R_drewN | apply Kd.R_drew)); exact HO835.out) hb); have n2_ := Aside0.mk (blk_below (g := gb825) (o := .cells #[.string a1_0, .string a1_1, .int .i64 a1_2, .int .i64 a1_3] 57 (0, 0)) (by (with_reducible repeat (first | refine blk_drewN ?_ _ | refine blk_drew ?_ | refine blk_alloc ?_ _)); exact BK825.out) hb); have n3_ := Aside0.mk (below_step (by repeat (first | (with_reducible first | exact HB.out | apply below_alloc | apply pw_below_drewN | apply below_drew1 | refine below_set ?_ GE825.out) | exact HB.out)) hb); clear HO830; clear HO835; clear BK825; clear HB; have HO830 := n0_; have HO835 := n1_; have BK825 := n2_; have HB := n3_; clear n0_ n1_ n2_ n3_; (try clear hb); (try clear hb2); (try clear hk); (try clear hi)))
        repeat (go_quiet (first | (go_at_call 60; (with_reducible refine (pair_May.calls k _ _ l0 true _ ?side1 ?side2 A18.out).mono ?_); (case side1 => repeat (first | exact (Kd.C_below HR0.out HB.out) | (with_reducible refine Kd.C_alloc ?_ _) | (with_reducible refine Kd.C_drewN ?_ _) | (with_reducible refine Kd.C_drew ?_))); (case side2 => exact HC0.out); rintro e w29 ⟨rfl, hb⟩; have n0_ := Aside0.mk (Kd.R_below (by (with_reducible repeat (first | apply Kd.R_alloc | apply Kd.R_drewN | apply Kd.R_drew)); exact HO830.out) hb); have n1_ := Aside0.mk (blk_below (g := gb825) (o := .cells #[.string a1_0, .string a1_1, .int .i64 a1_2, .int .i64 a1_3] 57 (0, 0)) (by (with_reducible repeat (first | refine blk_drewN ?_ _ | refine blk_drew ?_ | refine blk_alloc ?_ _)); exact BK825.out) hb); have n2_ := Aside0.mk (below_step (by repeat (first | (with_reducible first | exact HB.out | apply below_alloc | apply pw_below_drewN | apply below_drew1 | refine below_set ?_ GE825.out) | exact HB.out)) hb); clear HO830; clear BK825; clear HB; have HO830 := n0_; have BK825 := n1_; have HB := n2_; clear n0_ n1_ n2_; (try clear hb); (try clear hb2); (try clear hk); (try clear hi); have hcz30_0 : w29.cell? ⟨gb825, 0, none⟩ = some (.string a1_0) := (blk_cell BK825.out 0).trans rfl; have hcz30_1 : w29.cell? ⟨gb825, 1, none⟩ = some (.string a1_1) := (blk_cell BK825.out 1).trans rfl; have hcz30_2 : w29.cell? ⟨gb825, 2, none⟩ = some (.int .i64 a1_2) := (blk_cell BK825.out 2).trans rfl; have hcz30_3 : w29.cell? ⟨gb825, 3, none⟩ = some (.int .i64 a1_3) := (blk_cell BK825.out 3).trans rfl; have hfz30_0 := blk_frozen BK825.out 0; have hfz30_1 := blk_frozen BK825.out 1; have hfz30_2 := blk_frozen BK825.out 2; have hfz30_3 := blk_frozen BK825.out 3) | ((with_reducible refine gate_dst (N := 41) rfl ?_); (try (refine gate_guard (by rfl) ?_; dsimp only)); refine Kd.R_lit k57 _ 57 ?hg (N := 41) ?hd (xs := ([(⟨a1_0, a1_1, (⟨a1_2, a1_3⟩ : S24)⟩ : S57)] : List (S57))) (inner := [.string a1_0, .string a1_1, .int .i64 a1_2, .int .i64 a1_3]) (ok := fun _ => True) (okp := fun _ => True) ?hr ?hp (fun _ hk => hk) trivial (Below.refl _ _) (Nat.le_refl _) (by simp) ?_; (case hd => rfl); (case hg => rfl); (case hr => first | (go_simp; done) | (go_simp; rfl)); (case hp => exact (Reps.c4 (show Kd.M k57 _ _ _ (⟨a1_0, a1_1, (⟨a1_2, a1_3⟩ : S24)⟩ : S57) [.string a1_0, .string a1_1, .int .i64 a1_2, .int .i64 a1_3] from (k57_mkM _ _ _ (⟨a1_0, a1_1, (⟨a1_2, a1_3⟩ : S24)⟩ : S57) )) (Reps.none _ _))); intro v834 w31 ho32 hb hg_ hnew_; clear hg_ hnew_; (first | rw [← Ny833.out] at ho32 | (simp only [Int.reduceToNat] at ho32; rw [← Ny833.out] at ho32)); have n0_ := Aside0.mk (Kd.R_elder' (by (with_reducible repeat (first | apply Kd.R_alloc | apply Kd.R_drewN | apply Kd.R_drew)); exact HO830.out) (Kd.R_base ho32) hb); have n1_ := Aside0.mk (Kd.R_lower (Kd.R_newB (Kd.R_new' ho32 (Kd.R_lt (by (with_reducible repeat (first | apply Kd.R_alloc | apply Kd.R_drewN | apply Kd.R_drew)); exact HO830.out))) (g := gb825) (o := .cells #[.string a1_0, .string a1_1, .int .i64 a1_2, .int .i64 a1_3] 57 (0, 0)) (by (with_reducible repeat (first | refine blk_drewN ?_ _ | refine blk_drew ?_ | refine blk_alloc ?_ _)); exact BK825.out)) (below_size (by repeat (first | (with_reducible first | exact HB.out | apply below_alloc | apply pw_below_drewN | apply below_drew1 | refine below_set ?_ GE825.out) | exact HB.out)))); have n2_ := Aside0.mk (blk_below (g := gb825) (o := .cells #[.string a1_0, .string a1_1, .int .i64 a1_2, .int .i64 a1_3] 57 (0, 0)) (by (with_reducible repeat (first | refine blk_drewN ?_ _ | refine blk_drew ?_ | refine blk_alloc ?_ _)); exact BK825.out) hb); have n3_ := Aside0.mk (below_step (by repeat (first | (with_reducible first | exact HB.out | apply below_alloc | apply pw_below_drewN | apply below_drew1 | refine below_set ?_ GE825.out) | exact HB.out)) hb); clear HO830; clear BK825; clear HB; have HO830 := n0_; have HO835 := n1_; have BK825 := n2_; have HB := n3_; clear n0_ n1_ n2_ n3_; clear hb ho32; obtain ⟨Ao33, co33, eo33⟩ := Kd.R_slice HO835.out; subst eo33) | (go_at_call 60; (with_reducible refine (pair_May.calls k _ _ y833 true _ ?side1 ?side2 A20.out).mono ?_); (case side1 => repeat (first | exact (Kd.R_reads' HO835.out).2.2 | (with_reducible refine Kd.C_alloc ?_ _) | (with_reducible refine Kd.C_drewN ?_ _) | (with_reducible refine Kd.C_drew ?_))); (case side2 => exact (Kd.R_reads' HO835.out).2.1); rintro e w34 ⟨rfl, hb⟩; have n0_ := Aside0.mk (Kd.R_below (by (with_reducible repeat (first | apply Kd.R_alloc | apply Kd.R_drewN | apply Kd.R_drew)); exact HO830.out) hb); have n1_ := Aside0.mk (Kd.R_below (by (with_reducible repeat (first | apply Kd.R_alloc | apply Kd.R_drewN | apply Kd.R_drew)); exact HO835.out) hb); have n2_ := Aside0.mk (blk_below (g := gb825) (o := .cells #[.string a1_0, .string a1_1, .int .i64 a1_2, .int .i64 a1_3] 57 (0, 0)) (by (with_reducible repeat (first | refine blk_drewN ?_ _ | refine blk_drew ?_ | refine blk_alloc ?_ _)); exact BK825.out) hb); have n3_ := Aside0.mk (below_step (by repeat (first | (with_reducible first | exact HB.out | apply below_alloc | apply pw_below_drewN | apply below_drew1 | refine below_set ?_ GE825.out) | exact HB.out)) hb); clear HO830; clear HO835; clear BK825; clear HB; have HO830 := n0_; have HO835 := n1_; have BK825 := n2_; have HB := n3_; clear n0_ n1_ n2_ n3_; (try clear hb); (try clear hb2); (try clear hk); (try clear hi))); try go_wp2_with (first | (go_at_call 60; (with_reducible refine (pair_May.calls k _ _ l0 true _ ?side1 ?side2 A18.out).mono ?_); (case side1 => repeat (first | exact (Kd.C_below HR0.out HB.out) | (with_reducible refine Kd.C_alloc ?_ _) | (with_reducible refine Kd.C_drewN ?_ _) | (with_reducible refine Kd.C_drew ?_))); (case side2 => exact HC0.out); rintro e w29 ⟨rfl, hb⟩; have n0_ := Aside0.mk (Kd.R_below (by (with_reducible repeat (first | apply Kd.R_alloc | apply Kd.R_drewN | apply Kd.R_drew)); exact HO830.out) hb); have n1_ := Aside0.mk (blk_below (g := gb825) (o := .cells #[.string a1_0, .string a1_1, .int .i64 a1_2, .int .i64 a1_3] 57 (0, 0)) (by (with_reducible repeat (first | refine blk_drewN ?_ _ | refine blk_drew ?_ | refine blk_alloc ?_ _)); exact BK825.out) hb); have n2_ := Aside0.mk (below_step (by repeat (first | (with_reducible first | exact HB.out | apply below_alloc | apply pw_below_drewN | apply below_drew1 | refine below_set ?_ GE825.out) | exact HB.out)) hb); clear HO830; clear BK825; clear HB; have HO830 := n0_; have BK825 := n1_; have HB := n2_; clear n0_ n1_ n2_; (try clear hb); (try clear hb2); (try clear hk); (try clear hi); have hcz30_0 : w29.cell? ⟨gb825, 0, none⟩ = some (.string a1_0) := (blk_cell BK825.out 0).trans rfl; have hcz30_1 : w29.cell? ⟨gb825, 1, none⟩ = some (.string a1_1) := (blk_cell BK825.out 1).trans rfl; have hcz30_2 : w29.cell? ⟨gb825, 2, none⟩ = some (.int .i64 a1_2) := (blk_cell BK825.out 2).trans rfl; have hcz30_3 : w29.cell? ⟨gb825, 3, none⟩ = some (.int .i64 a1_3) := (blk_cell BK825.out 3).trans rfl; have hfz30_0 := blk_frozen BK825.out 0; have hfz30_1 := blk_frozen BK825.out 1; have hfz30_2 := blk_frozen BK825.out 2; have hfz30_3 := blk_frozen BK825.out 3) | ((with_reducible refine gate_dst (N := 41) rfl ?_); (try (refine gate_guard (by rfl) ?_; dsimp only)); refine Kd.R_lit k57 _ 57 ?hg (N := 41) ?hd (xs := ([(⟨a1_0, a1_1, (⟨a1_2, a1_3⟩ : S24)⟩ : S57)] : List (S57))) (inner := [.string a1_0, .string a1_1, .int .i64 a1_2, .int .i64 a1_3]) (ok := fun _ => True) (okp := fun _ => True) ?hr ?hp (fun _ hk => hk) trivial (Below.refl _ _) (Nat.le_refl _) (by simp) ?_; (case hd => rfl); (case hg => rfl); (case hr => first | (go_simp; done) | (go_simp; rfl)); (case hp => exact (Reps.c4 (show Kd.M k57 _ _ _ (⟨a1_0, a1_1, (⟨a1_2, a1_3⟩ : S24)⟩ : S57) [.string a1_0, .string a1_1, .int .i64 a1_2, .int .i64 a1_3] from (k57_mkM _ _ _ (⟨a1_0, a1_1, (⟨a1_2, a1_3⟩ : S24)⟩ : S57) )) (Reps.none _ _))); intro v834 w31 ho32 hb hg_ hnew_; clear hg_ hnew_; (first | rw [← Ny833.out] at ho32 | (simp only [Int.reduceToNat] at ho32; rw [← Ny833.out] at ho32)); have n0_ := Aside0.mk (Kd.R_elder' (by (with_reducible repeat (first | apply Kd.R_alloc | apply Kd.R_drewN | apply Kd.R_drew)); exact HO830.out) (Kd.R_base ho32) hb); have n1_ := Aside0.mk (Kd.R_lower (Kd.R_newB (Kd.R_new' ho32 (Kd.R_lt (by (with_reducible repeat (first | apply Kd.R_alloc | apply Kd.R_drewN | apply Kd.R_drew)); exact HO830.out))) (g := gb825) (o := .cells #[.string a1_0, .string a1_1, .int .i64 a1_2, .int .i64 a1_3] 57 (0, 0)) (by (with_reducible repeat (first | refine blk_drewN ?_ _ | refine blk_drew ?_ | refine blk_alloc ?_ _)); exact BK825.out)) (below_size (by repeat (first | (with_reducible first | exact HB.out | apply below_alloc | apply pw_below_drewN | apply below_drew1 | refine below_set ?_ GE825.out) | exact HB.out)))); have n2_ := Aside0.mk (blk_below (g := gb825) (o := .cells #[.string a1_0, .string a1_1, .int .i64 a1_2, .int .i64 a1_3] 57 (0, 0)) (by (with_reducible repeat (first | refine blk_drewN ?_ _ | refine blk_drew ?_ | refine blk_alloc ?_ _)); exact BK825.out) hb); have n3_ := Aside0.mk (below_step (by repeat (first | (with_reducible first | exact HB.out | apply below_alloc | apply pw_below_drewN | apply below_drew1 | refine below_set ?_ GE825.out) | exact HB.out)) hb); clear HO830; clear BK825; clear HB; have HO830 := n0_; have HO835 := n1_; have BK825 := n2_; have HB := n3_; clear n0_ n1_ n2_ n3_; clear hb ho32; obtain ⟨Ao33, co33, eo33⟩ := Kd.R_slice HO835.out; subst eo33) | (go_at_call 60; (with_reducible refine (pair_May.calls k _ _ y833 true _ ?side1 ?side2 A20.out).mono ?_); (case side1 => repeat (first | exact (Kd.R_reads' HO835.out).2.2 | (with_reducible refine Kd.C_alloc ?_ _) | (with_reducible refine Kd.C_drewN ?_ _) | (with_reducible refine Kd.C_drew ?_))); (case side2 => exact (Kd.R_reads' HO835.out).2.1); rintro e w34 ⟨rfl, hb⟩; have n0_ := Aside0.mk (Kd.R_below (by (with_reducible repeat (first | apply Kd.R_alloc | apply Kd.R_drewN | apply Kd.R_drew)); exact HO830.out) hb); have n1_ := Aside0.mk (Kd.R_below (by (with_reducible repeat (first | apply Kd.R_alloc | apply Kd.R_drewN | apply Kd.R_drew)); exact HO835.out) hb); have n2_ := Aside0.mk (blk_below (g := gb825) (o := .cells #[.string a1_0, .string a1_1, .int .i64 a1_2, .int .i64 a1_3] 57 (0, 0)) (by (with_reducible repeat (first | refine blk_drewN ?_ _ | refine blk_drew ?_ | refine blk_alloc ?_ _)); exact BK825.out) hb); have n3_ := Aside0.mk (below_step (by repeat (first | (with_reducible first | exact HB.out | apply below_alloc | apply pw_below_drewN | apply below_drew1 | refine below_set ?_ GE825.out) | exact HB.out)) hb); clear HO830; clear HO835; clear BK825; clear HB; have HO830 := n0_; have HO835 := n1_; have BK825 := n2_; have HB := n3_; clear n0_ n1_ n2_ n3_; (try clear hb); (try clear hb2); (try clear hk); (try clear hi))))
        go_meet
        case rel => exact ⟨_, (decide ((a3.size : Int) > 100)), (by first | rfl | (simp; done) | (simp [*]; done)), H', ⟨by first | omega | exact Nat.le_refl _⟩, ⟨by (with_reducible repeat (first | refine blk_drewN ?_ _ | refine blk_drew ?_ | refine blk_alloc ?_ _)); exact BK825.out⟩, ⟨by repeat (first | (with_reducible first | exact HB.out | apply below_alloc | apply pw_below_drewN | apply below_drew1 | refine below_set ?_ GE825.out) | exact HB.out)⟩⟩
      ·replace c21 := Bool.eq_false_iff.mpr c21
       subst c21
       have H1 : (law08_PairWins.j0 k l0 a2 a3 true true a1_0 a1_1 a1_2 a1_3) = some r := by rw [if_neg (show ¬ (false = true) by decide)] at H; exact H
       clear H
       have H := H1
       clear H1
       have H' := Aside0.mk H
       clear H
       go_wp2_with (first | (go_at_call 60; (with_reducible refine (pair_May.calls k _ _ l0 true _ ?side1 ?side2 A18.out).mono ?_); (case side1 => repeat (first | exact (Kd.C_below HR0.out HB.out) | (with_reducible refine Kd.C_alloc ?_ _) | (with_reducible refine Kd.C_drewN ?_ _) | (with_reducible refine Kd.C_drew ?_))); (case side2 => exact HC0.out); rintro e w35 ⟨rfl, hb⟩; have n0_ := Aside0.mk (Kd.R_below (by (with_reducible repeat (first | apply Kd.R_alloc | apply Kd.R_drewN | apply Kd.R_drew)); exact HO830.out) hb); have n1_ := Aside0.mk (blk_below (g := gb825) (o := .cells #[.string a1_0, .string a1_1, .int .i64 a1_2, .int .i64 a1_3] 57 (0, 0)) (by (with_reducible repeat (first | refine blk_drewN ?_ _ | refine blk_drew ?_ | refine blk_alloc ?_ _)); exact BK825.out) hb); have n2_ := Aside0.mk (below_step (by repeat (first | (with_reducible first | exact HB.out | apply below_alloc | apply pw_below_drewN | apply below_drew1 | refine below_set ?_ GE825.out) | exact HB.out)) hb); clear HO830; clear BK825; clear HB; have HO830 := n0_; have BK825 := n1_; have HB := n2_; clear n0_ n1_ n2_; (try clear hb); (try clear hb2); (try clear hk); (try clear hi); have hcz36_0 : w35.cell? ⟨gb825, 0, none⟩ = some (.string a1_0) := (blk_cell BK825.out 0).trans rfl; have hcz36_1 : w35.cell? ⟨gb825, 1, none⟩ = some (.string a1_1) := (blk_cell BK825.out 1).trans rfl; have hcz36_2 : w35.cell? ⟨gb825, 2, none⟩ = some (.int .i64 a1_2) := (blk_cell BK825.out 2).trans rfl; have hcz36_3 : w35.cell? ⟨gb825, 3, none⟩ = some (.int .i64 a1_3) := (blk_cell BK825.out 3).trans rfl; have hfz36_0 := blk_frozen BK825.out 0; have hfz36_1 := blk_frozen BK825.out 1; have hfz36_2 := blk_frozen BK825.out 2; have hfz36_3 := blk_frozen BK825.out 3) | ((with_reducible refine gate_dst (N := 41) rfl ?_); (try (refine gate_guard (by rfl) ?_; dsimp only)); refine Kd.R_lit k57 _ 57 ?hg (N := 41) ?hd (xs := ([(⟨a1_0, a1_1, (⟨a1_2, a1_3⟩ : S24)⟩ : S57)] : List (S57))) (inner := [.string a1_0, .string a1_1, .int .i64 a1_2, .int .i64 a1_3]) (ok := fun _ => True) (okp := fun _ => True) ?hr ?hp (fun _ hk => hk) trivial (Below.refl _ _) (Nat.le_refl _) (by simp) ?_; (case hd => rfl); (case hg => rfl); (case hr => first | (go_simp; done) | (go_simp; rfl)); (case hp => exact (Reps.c4 (show Kd.M k57 _ _ _ (⟨a1_0, a1_1, (⟨a1_2, a1_3⟩ : S24)⟩ : S57) [.string a1_0, .string a1_1, .int .i64 a1_2, .int .i64 a1_3] from (k57_mkM _ _ _ (⟨a1_0, a1_1, (⟨a1_2, a1_3⟩ : S24)⟩ : S57) )) (Reps.none _ _))); intro v834 w37 ho38 hb hg_ hnew_; clear hg_ hnew_; (first | rw [← Ny833.out] at ho38 | (simp only [Int.reduceToNat] at ho38; rw [← Ny833.out] at ho38)); have n0_ := Aside0.mk (Kd.R_elder' (by (with_reducible repeat (first | apply Kd.R_alloc | apply Kd.R_drewN | apply Kd.R_drew)); exact HO830.out) (Kd.R_base ho38) hb); have n1_ := Aside0.mk (Kd.R_lower (Kd.R_newB (Kd.R_new' ho38 (Kd.R_lt (by (with_reducible repeat (first | apply Kd.R_alloc | apply Kd.R_drewN | apply Kd.R_drew)); exact HO830.out))) (g := gb825) (o := .cells #[.string a1_0, .string a1_1, .int .i64 a1_2, .int .i64 a1_3] 57 (0, 0)) (by (with_reducible repeat (first | refine blk_drewN ?_ _ | refine blk_drew ?_ | refine blk_alloc ?_ _)); exact BK825.out)) (below_size (by repeat (first | (with_reducible first | exact HB.out | apply below_alloc | apply pw_below_drewN | apply below_drew1 | refine below_set ?_ GE825.out) | exact HB.out)))); have n2_ := Aside0.mk (blk_below (g := gb825) (o := .cells #[.string a1_0, .string a1_1, .int .i64 a1_2, .int .i64 a1_3] 57 (0, 0)) (by (with_reducible repeat (first | refine blk_drewN ?_ _ | refine blk_drew ?_ | refine blk_alloc ?_ _)); exact BK825.out) hb); have n3_ := Aside0.mk (below_step (by repeat (first | (with_reducible first | exact HB.out | apply below_alloc | apply pw_below_drewN | apply below_drew1 | refine below_set ?_ GE825.out) | exact HB.out)) hb); clear HO830; clear BK825; clear HB; have HO830 := n0_; have HO835 := n1_; have BK825 := n2_; have HB := n3_; clear n0_ n1_ n2_ n3_; clear hb ho38; obtain ⟨Ao39, co39, eo39⟩ := Kd.R_slice HO835.out; subst eo39) | (go_at_call 60; (with_reducible refine (pair_May.calls k _ _ y833 false _ ?side1 ?side2 A20.out).mono ?_); (case side1 => repeat (first | exact (Kd.R_reads' HO835.out).2.2 | (with_reducible refine Kd.C_alloc ?_ _) | (with_reducible refine Kd.C_drewN ?_ _) | (with_reducible refine Kd.C_drew ?_))); (case side2 => exact (Kd.R_reads' HO835.out).2.1); rintro e w40 ⟨rfl, hb⟩; have n0_ := Aside0.mk (Kd.R_below (by (with_reducible repeat (first | apply Kd.R_alloc | apply Kd.R_drewN | apply Kd.R_drew)); exact HO830.out) hb); have n1_ := Aside0.mk (Kd.R_below (by (with_reducible repeat (first | apply Kd.R_alloc | apply Kd.R_drewN | apply Kd.R_drew)); exact HO835.out) hb); have n2_ := Aside0.mk (blk_below (g := gb825) (o := .cells #[.string a1_0, .string a1_1, .int .i64 a1_2, .int .i64 a1_3] 57 (0, 0)) (by (with_reducible repeat (first | refine blk_drewN ?_ _ | refine blk_drew ?_ | refine blk_alloc ?_ _)); exact BK825.out) hb); have n3_ := Aside0.mk (below_step (by repeat (first | (with_reducible first | exact HB.out | apply below_alloc | apply pw_below_drewN | apply below_drew1 | refine below_set ?_ GE825.out) | exact HB.out)) hb); clear HO830; clear HO835; clear BK825; clear HB; have HO830 := n0_; have HO835 := n1_; have BK825 := n2_; have HB := n3_; clear n0_ n1_ n2_ n3_; (try clear hb); (try clear hb2); (try clear hk); (try clear hi)))
       repeat (go_quiet (first | (go_at_call 60; (with_reducible refine (pair_May.calls k _ _ l0 true _ ?side1 ?side2 A18.out).mono ?_); (case side1 => repeat (first | exact (Kd.C_below HR0.out HB.out) | (with_reducible refine Kd.C_alloc ?_ _) | (with_reducible refine Kd.C_drewN ?_ _) | (with_reducible refine Kd.C_drew ?_))); (case side2 => exact HC0.out); rintro e w35 ⟨rfl, hb⟩; have n0_ := Aside0.mk (Kd.R_below (by (with_reducible repeat (first | apply Kd.R_alloc | apply Kd.R_drewN | apply Kd.R_drew)); exact HO830.out) hb); have n1_ := Aside0.mk (blk_below (g := gb825) (o := .cells #[.string a1_0, .string a1_1, .int .i64 a1_2, .int .i64 a1_3] 57 (0, 0)) (by (with_reducible repeat (first | refine blk_drewN ?_ _ | refine blk_drew ?_ | refine blk_alloc ?_ _)); exact BK825.out) hb); have n2_ := Aside0.mk (below_step (by repeat (first | (with_reducible first | exact HB.out | apply below_alloc | apply pw_below_drewN | apply below_drew1 | refine below_set ?_ GE825.out) | exact HB.out)) hb); clear HO830; clear BK825; clear HB; have HO830 := n0_; have BK825 := n1_; have HB := n2_; clear n0_ n1_ n2_; (try clear hb); (try clear hb2); (try clear hk); (try clear hi); have hcz36_0 : w35.cell? ⟨gb825, 0, none⟩ = some (.string a1_0) := (blk_cell BK825.out 0).trans rfl; have hcz36_1 : w35.cell? ⟨gb825, 1, none⟩ = some (.string a1_1) := (blk_cell BK825.out 1).trans rfl; have hcz36_2 : w35.cell? ⟨gb825, 2, none⟩ = some (.int .i64 a1_2) := (blk_cell BK825.out 2).trans rfl; have hcz36_3 : w35.cell? ⟨gb825, 3, none⟩ = some (.int .i64 a1_3) := (blk_cell BK825.out 3).trans rfl; have hfz36_0 := blk_frozen BK825.out 0; have hfz36_1 := blk_frozen BK825.out 1; have hfz36_2 := blk_frozen BK825.out 2; have hfz36_3 := blk_frozen BK825.out 3) | ((with_reducible refine gate_dst (N := 41) rfl ?_); (try (refine gate_guard (by rfl) ?_; dsimp only)); refine Kd.R_lit k57 _ 57 ?hg (N := 41) ?hd (xs := ([(⟨a1_0, a1_1, (⟨a1_2, a1_3⟩ : S24)⟩ : S57)] : List (S57))) (inner := [.string a1_0, .string a1_1, .int .i64 a1_2, .int .i64 a1_3]) (ok := fun _ => True) (okp := fun _ => True) ?hr ?hp (fun _ hk => hk) trivial (Below.refl _ _) (Nat.le_refl _) (by simp) ?_; (case hd => rfl); (case hg => rfl); (case hr => first | (go_simp; done) | (go_simp; rfl)); (case hp => exact (Reps.c4 (show Kd.M k57 _ _ _ (⟨a1_0, a1_1, (⟨a1_2, a1_3⟩ : S24)⟩ : S57) [.string a1_0, .string a1_1, .int .i64 a1_2, .int .i64 a1_3] from (k57_mkM _ _ _ (⟨a1_0, a1_1, (⟨a1_2, a1_3⟩ : S24)⟩ : S57) )) (Reps.none _ _))); intro v834 w37 ho38 hb hg_ hnew_; clear hg_ hnew_; (first | rw [← Ny833.out] at ho38 | (simp only [Int.reduceToNat] at ho38; rw [← Ny833.out] at ho38)); have n0_ := Aside0.mk (Kd.R_elder' (by (with_reducible repeat (first | apply Kd.R_alloc | apply Kd.R_drewN | apply Kd.R_drew)); exact HO830.out) (Kd.R_base ho38) hb); have n1_ := Aside0.mk (Kd.R_lower (Kd.R_newB (Kd.R_new' ho38 (Kd.R_lt (by (with_reducible repeat (first | apply Kd.R_alloc | apply Kd.R_drewN | apply Kd.R_drew)); exact HO830.out))) (g := gb825) (o := .cells #[.string a1_0, .string a1_1, .int .i64 a1_2, .int .i64 a1_3] 57 (0, 0)) (by (with_reducible repeat (first | refine blk_drewN ?_ _ | refine blk_drew ?_ | refine blk_alloc ?_ _)); exact BK825.out)) (below_size (by repeat (first | (with_reducible first | exact HB.out | apply below_alloc | apply pw_below_drewN | apply below_drew1 | refine below_set ?_ GE825.out) | exact HB.out)))); have n2_ := Aside0.mk (blk_below (g := gb825) (o := .cells #[.string a1_0, .string a1_1, .int .i64 a1_2, .int .i64 a1_3] 57 (0, 0)) (by (with_reducible repeat (first | refine blk_drewN ?_ _ | refine blk_drew ?_ | refine blk_alloc ?_ _)); exact BK825.out) hb); have n3_ := Aside0.mk (below_step (by repeat (first | (with_reducible first | exact HB.out | apply below_alloc | apply pw_below_drewN | apply below_drew1 | refine below_set ?_ GE825.out) | exact HB.out)) hb); clear HO830; clear BK825; clear HB; have HO830 := n0_; have HO835 := n1_; have BK825 := n2_; have HB := n3_; clear n0_ n1_ n2_ n3_; clear hb ho38; obtain ⟨Ao39, co39, eo39⟩ := Kd.R_slice HO835.out; subst eo39) | (go_at_call 60; (with_reducible refine (pair_May.calls k _ _ y833 false _ ?side1 ?side2 A20.out).mono ?_); (case side1 => repeat (first | exact (Kd.R_reads' HO835.out).2.2 | (with_reducible refine Kd.C_alloc ?_ _) | (with_reducible refine Kd.C_drewN ?_ _) | (with_reducible refine Kd.C_drew ?_))); (case side2 => exact (Kd.R_reads' HO835.out).2.1); rintro e w40 ⟨rfl, hb⟩; have n0_ := Aside0.mk (Kd.R_below (by (with_reducible repeat (first | apply Kd.R_alloc | apply Kd.R_drewN | apply Kd.R_drew)); exact HO830.out) hb); have n1_ := Aside0.mk (Kd.R_below (by (with_reducible repeat (first | apply Kd.R_alloc | apply Kd.R_drewN | apply Kd.R_drew)); exact HO835.out) hb); have n2_ := Aside0.mk (blk_below (g := gb825) (o := .cells #[.string a1_0, .string a1_1, .int .i64 a1_2, .int .i64 a1_3] 57 (0, 0)) (by (with_reducible repeat (first | refine blk_drewN ?_ _ | refine blk_drew ?_ | refine blk_alloc ?_ _)); exact BK825.out) hb); have n3_ := Aside0.mk (below_step (by repeat (first | (with_reducible first | exact HB.out | apply below_alloc | apply pw_below_drewN | apply below_drew1 | refine below_set ?_ GE825.out) | exact HB.out)) hb); clear HO830; clear HO835; clear BK825; clear HB; have HO830 := n0_; have HO835 := n1_; have BK825 := n2_; have HB := n3_; clear n0_ n1_ n2_ n3_; (try clear hb); (try clear hb2); (try clear hk); (try clear hi))); try go_wp2_with (first | (go_at_call 60; (with_reducible refine (pair_May.calls k _ _ l0 true _ ?side1 ?side2 A18.out).mono ?_); (case side1 => repeat (first | exact (Kd.C_below HR0.out HB.out) | (with_reducible refine Kd.C_alloc ?_ _) | (with_reducible refine Kd.C_drewN ?_ _) | (with_reducible refine Kd.C_drew ?_))); (case side2 => exact HC0.out); rintro e w35 ⟨rfl, hb⟩; have n0_ := Aside0.mk (Kd.R_below (by (with_reducible repeat (first | apply Kd.R_alloc | apply Kd.R_drewN | apply Kd.R_drew)); exact HO830.out) hb); have n1_ := Aside0.mk (blk_below (g := gb825) (o := .cells #[.string a1_0, .string a1_1, .int .i64 a1_2, .int .i64 a1_3] 57 (0, 0)) (by (with_reducible repeat (first | refine blk_drewN ?_ _ | refine blk_drew ?_ | refine blk_alloc ?_ _)); exact BK825.out) hb); have n2_ := Aside0.mk (below_step (by repeat (first | (with_reducible first | exact HB.out | apply below_alloc | apply pw_below_drewN | apply below_drew1 | refine below_set ?_ GE825.out) | exact HB.out)) hb); clear HO830; clear BK825; clear HB; have HO830 := n0_; have BK825 := n1_; have HB := n2_; clear n0_ n1_ n2_; (try clear hb); (try clear hb2); (try clear hk); (try clear hi); have hcz36_0 : w35.cell? ⟨gb825, 0, none⟩ = some (.string a1_0) := (blk_cell BK825.out 0).trans rfl; have hcz36_1 : w35.cell? ⟨gb825, 1, none⟩ = some (.string a1_1) := (blk_cell BK825.out 1).trans rfl; have hcz36_2 : w35.cell? ⟨gb825, 2, none⟩ = some (.int .i64 a1_2) := (blk_cell BK825.out 2).trans rfl; have hcz36_3 : w35.cell? ⟨gb825, 3, none⟩ = some (.int .i64 a1_3) := (blk_cell BK825.out 3).trans rfl; have hfz36_0 := blk_frozen BK825.out 0; have hfz36_1 := blk_frozen BK825.out 1; have hfz36_2 := blk_frozen BK825.out 2; have hfz36_3 := blk_frozen BK825.out 3) | ((with_reducible refine gate_dst (N := 41) rfl ?_); (try (refine gate_guard (by rfl) ?_; dsimp only)); refine Kd.R_lit k57 _ 57 ?hg (N := 41) ?hd (xs := ([(⟨a1_0, a1_1, (⟨a1_2, a1_3⟩ : S24)⟩ : S57)] : List (S57))) (inner := [.string a1_0, .string a1_1, .int .i64 a1_2, .int .i64 a1_3]) (ok := fun _ => True) (okp := fun _ => True) ?hr ?hp (fun _ hk => hk) trivial (Below.refl _ _) (Nat.le_refl _) (by simp) ?_; (case hd => rfl); (case hg => rfl); (case hr => first | (go_simp; done) | (go_simp; rfl)); (case hp => exact (Reps.c4 (show Kd.M k57 _ _ _ (⟨a1_0, a1_1, (⟨a1_2, a1_3⟩ : S24)⟩ : S57) [.string a1_0, .string a1_1, .int .i64 a1_2, .int .i64 a1_3] from (k57_mkM _ _ _ (⟨a1_0, a1_1, (⟨a1_2, a1_3⟩ : S24)⟩ : S57) )) (Reps.none _ _))); intro v834 w37 ho38 hb hg_ hnew_; clear hg_ hnew_; (first | rw [← Ny833.out] at ho38 | (simp only [Int.reduceToNat] at ho38; rw [← Ny833.out] at ho38)); have n0_ := Aside0.mk (Kd.R_elder' (by (with_reducible repeat (first | apply Kd.R_alloc | apply Kd.R_drewN | apply Kd.R_drew)); exact HO830.out) (Kd.R_base ho38) hb); have n1_ := Aside0.mk (Kd.R_lower (Kd.R_newB (Kd.R_new' ho38 (Kd.R_lt (by (with_reducible repeat (first | apply Kd.R_alloc | apply Kd.R_drewN | apply Kd.R_drew)); exact HO830.out))) (g := gb825) (o := .cells #[.string a1_0, .string a1_1, .int .i64 a1_2, .int .i64 a1_3] 57 (0, 0)) (by (with_reducible repeat (first | refine blk_drewN ?_ _ | refine blk_drew ?_ | refine blk_alloc ?_ _)); exact BK825.out)) (below_size (by repeat (first | (with_reducible first | exact HB.out | apply below_alloc | apply pw_below_drewN | apply below_drew1 | refine below_set ?_ GE825.out) | exact HB.out)))); have n2_ := Aside0.mk (blk_below (g := gb825) (o := .cells #[.string a1_0, .string a1_1, .int .i64 a1_2, .int .i64 a1_3] 57 (0, 0)) (by (with_reducible repeat (first | refine blk_drewN ?_ _ | refine blk_drew ?_ | refine blk_alloc ?_ _)); exact BK825.out) hb); have n3_ := Aside0.mk (below_step (by repeat (first | (with_reducible first | exact HB.out | apply below_alloc | apply pw_below_drewN | apply below_drew1 | refine below_set ?_ GE825.out) | exact HB.out)) hb); clear HO830; clear BK825; clear HB; have HO830 := n0_; have HO835 := n1_; have BK825 := n2_; have HB := n3_; clear n0_ n1_ n2_ n3_; clear hb ho38; obtain ⟨Ao39, co39, eo39⟩ := Kd.R_slice HO835.out; subst eo39) | (go_at_call 60; (with_reducible refine (pair_May.calls k _ _ y833 false _ ?side1 ?side2 A20.out).mono ?_); (case side1 => repeat (first | exact (Kd.R_reads' HO835.out).2.2 | (with_reducible refine Kd.C_alloc ?_ _) | (with_reducible refine Kd.C_drewN ?_ _) | (with_reducible refine Kd.C_drew ?_))); (case side2 => exact (Kd.R_reads' HO835.out).2.1); rintro e w40 ⟨rfl, hb⟩; have n0_ := Aside0.mk (Kd.R_below (by (with_reducible repeat (first | apply Kd.R_alloc | apply Kd.R_drewN | apply Kd.R_drew)); exact HO830.out) hb); have n1_ := Aside0.mk (Kd.R_below (by (with_reducible repeat (first | apply Kd.R_alloc | apply Kd.R_drewN | apply Kd.R_drew)); exact HO835.out) hb); have n2_ := Aside0.mk (blk_below (g := gb825) (o := .cells #[.string a1_0, .string a1_1, .int .i64 a1_2, .int .i64 a1_3] 57 (0, 0)) (by (with_reducible repeat (first | refine blk_drewN ?_ _ | refine blk_drew ?_ | refine blk_alloc ?_ _)); exact BK825.out) hb); have n3_ := Aside0.mk (below_step (by repeat (first | (with_reducible first | exact HB.out | apply below_alloc | apply pw_below_drewN | apply below_drew1 | refine below_set ?_ GE825.out) | exact HB.out)) hb); clear HO830; clear HO835; clear BK825; clear HB; have HO830 := n0_; have HO835 := n1_; have BK825 := n2_; have HB := n3_; clear n0_ n1_ n2_ n3_; (try clear hb); (try clear hb2); (try clear hk); (try clear hi))))
       go_meet
       case rel => exact ⟨_, (true), (by first | rfl | (simp; done) | (simp [*]; done)), H', ⟨by first | omega | exact Nat.le_refl _⟩, ⟨by (with_reducible repeat (first | refine blk_drewN ?_ _ | refine blk_drew ?_ | refine blk_alloc ?_ _)); exact BK825.out⟩, ⟨by repeat (first | (with_reducible first | exact HB.out | apply below_alloc | apply pw_below_drewN | apply below_drew1 | refine below_set ?_ GE825.out) | exact HB.out)⟩⟩
     ·replace c19 := Bool.eq_false_iff.mpr c19
      subst c19
      have H1 : (law08_PairWins.j0 k l0 a2 a3 true true a1_0 a1_1 a1_2 a1_3) = some r := by rw [if_neg (show ¬ (false = true) by decide)] at H; exact H
      clear H
      have H := H1
      clear H1
      have H' := Aside0.mk H
      clear H
      go_wp2_with (first | (go_at_call 60; (with_reducible refine (pair_May.calls k _ _ l0 false _ ?side1 ?side2 A18.out).mono ?_); (case side1 => repeat (first | exact (Kd.C_below HR0.out HB.out) | (with_reducible refine Kd.C_alloc ?_ _) | (with_reducible refine Kd.C_drewN ?_ _) | (with_reducible refine Kd.C_drew ?_))); (case side2 => exact HC0.out); rintro e w41 ⟨rfl, hb⟩; have n0_ := Aside0.mk (Kd.R_below (by (with_reducible repeat (first | apply Kd.R_alloc | apply Kd.R_drewN | apply Kd.R_drew)); exact HO830.out) hb); have n1_ := Aside0.mk (blk_below (g := gb825) (o := .cells #[.string a1_0, .string a1_1, .int .i64 a1_2, .int .i64 a1_3] 57 (0, 0)) (by (with_reducible repeat (first | refine blk_drewN ?_ _ | refine blk_drew ?_ | refine blk_alloc ?_ _)); exact BK825.out) hb); have n2_ := Aside0.mk (below_step (by repeat (first | (with_reducible first | exact HB.out | apply below_alloc | apply pw_below_drewN | apply below_drew1 | refine below_set ?_ GE825.out) | exact HB.out)) hb); clear HO830; clear BK825; clear HB; have HO830 := n0_; have BK825 := n1_; have HB := n2_; clear n0_ n1_ n2_; (try clear hb); (try clear hb2); (try clear hk); (try clear hi)))
      repeat (go_quiet (first | (go_at_call 60; (with_reducible refine (pair_May.calls k _ _ l0 false _ ?side1 ?side2 A18.out).mono ?_); (case side1 => repeat (first | exact (Kd.C_below HR0.out HB.out) | (with_reducible refine Kd.C_alloc ?_ _) | (with_reducible refine Kd.C_drewN ?_ _) | (with_reducible refine Kd.C_drew ?_))); (case side2 => exact HC0.out); rintro e w41 ⟨rfl, hb⟩; have n0_ := Aside0.mk (Kd.R_below (by (with_reducible repeat (first | apply Kd.R_alloc | apply Kd.R_drewN | apply Kd.R_drew)); exact HO830.out) hb); have n1_ := Aside0.mk (blk_below (g := gb825) (o := .cells #[.string a1_0, .string a1_1, .int .i64 a1_2, .int .i64 a1_3] 57 (0, 0)) (by (with_reducible repeat (first | refine blk_drewN ?_ _ | refine blk_drew ?_ | refine blk_alloc ?_ _)); exact BK825.out) hb); have n2_ := Aside0.mk (below_step (by repeat (first | (with_reducible first | exact HB.out | apply below_alloc | apply pw_below_drewN | apply below_drew1 | refine below_set ?_ GE825.out) | exact HB.out)) hb); clear HO830; clear BK825; clear HB; have HO830 := n0_; have BK825 := n1_; have HB := n2_; clear n0_ n1_ n2_; (try clear hb); (try clear hb2); (try clear hk); (try clear hi))); try go_wp2_with (first | (go_at_call 60; (with_reducible refine (pair_May.calls k _ _ l0 false _ ?side1 ?side2 A18.out).mono ?_); (case side1 => repeat (first | exact (Kd.C_below HR0.out HB.out) | (with_reducible refine Kd.C_alloc ?_ _) | (with_reducible refine Kd.C_drewN ?_ _) | (with_reducible refine Kd.C_drew ?_))); (case side2 => exact HC0.out); rintro e w41 ⟨rfl, hb⟩; have n0_ := Aside0.mk (Kd.R_below (by (with_reducible repeat (first | apply Kd.R_alloc | apply Kd.R_drewN | apply Kd.R_drew)); exact HO830.out) hb); have n1_ := Aside0.mk (blk_below (g := gb825) (o := .cells #[.string a1_0, .string a1_1, .int .i64 a1_2, .int .i64 a1_3] 57 (0, 0)) (by (with_reducible repeat (first | refine blk_drewN ?_ _ | refine blk_drew ?_ | refine blk_alloc ?_ _)); exact BK825.out) hb); have n2_ := Aside0.mk (below_step (by repeat (first | (with_reducible first | exact HB.out | apply below_alloc | apply pw_below_drewN | apply below_drew1 | refine below_set ?_ GE825.out) | exact HB.out)) hb); clear HO830; clear BK825; clear HB; have HO830 := n0_; have BK825 := n1_; have HB := n2_; clear n0_ n1_ n2_; (try clear hb); (try clear hb2); (try clear hk); (try clear hi))))
      go_meet
      case rel => exact ⟨_, (true), (by first | rfl | (simp; done) | (simp [*]; done)), H', ⟨by first | omega | exact Nat.le_refl _⟩, ⟨by (with_reducible repeat (first | refine blk_drewN ?_ _ | refine blk_drew ?_ | refine blk_alloc ?_ _)); exact BK825.out⟩, ⟨by repeat (first | (with_reducible first | exact HB.out | apply below_alloc | apply pw_below_drewN | apply below_drew1 | refine below_set ?_ GE825.out) | exact HB.out)⟩⟩
    ·replace c17 := Bool.eq_false_iff.mpr c17
     subst c17
     have H1 : (law08_PairWins.j0 k l0 a2 a3 true true a1_0 a1_1 a1_2 a1_3) = some r := by rw [if_neg (show ¬ (false = true) by decide)] at H; exact H
     clear H
     have H := H1
     clear H1
     have H' := Aside0.mk H
     clear H
     go_wp2
     repeat (go_quiet (fail); try go_wp2)
     go_meet
     case rel => exact ⟨_, (true), (by first | rfl | (simp; done) | (simp [*]; done)), H', ⟨by first | omega | exact Nat.le_refl _⟩, ⟨by (with_reducible repeat (first | refine blk_drewN ?_ _ | refine blk_drew ?_ | refine blk_alloc ?_ _)); exact BK825.out⟩, ⟨by repeat (first | (with_reducible first | exact HB.out | apply below_alloc | apply pw_below_drewN | apply below_drew1 | refine below_set ?_ GE825.out) | exact HB.out)⟩⟩
   ·replace c16 := Bool.eq_false_iff.mpr c16
    subst c16
    have H1 : (law08_PairWins.j0 k l0 a2 a3 true true a1_0 a1_1 a1_2 a1_3) = some r := by rw [if_neg (show ¬ (false = true) by decide)] at H; exact H
    clear H
    have H := H1
    clear H1
    have H' := Aside0.mk H
    clear H
    go_wp2
    repeat (go_quiet (fail); try go_wp2)
    go_meet
    case rel => exact ⟨_, (true), (by first | rfl | (simp; done) | (simp [*]; done)), H', ⟨by first | omega | exact Nat.le_refl _⟩, ⟨by (with_reducible repeat (first | refine blk_drewN ?_ _ | refine blk_drew ?_ | refine blk_alloc ?_ _)); exact BK825.out⟩, ⟨by repeat (first | (with_reducible first | exact HB.out | apply below_alloc | apply pw_below_drewN | apply below_drew1 | refine below_set ?_ GE825.out) | exact HB.out)⟩⟩
  ·replace c15 := Bool.eq_false_iff.mpr c15
   subst c15
   have H1 : (law08_PairWins.j0 k l0 a2 a3 false true a1_0 a1_1 a1_2 a1_3) = some r := by rw [if_neg (show ¬ (false = true) by decide)] at H; exact H
   clear H
   have H := H1
   clear H1
   have H' := Aside0.mk H
   clear H
   go_wp2
   repeat (go_quiet (fail); try go_wp2)
   go_meet
   case rel => exact ⟨_, (true), (by first | rfl | (simp; done) | (simp [*]; done)), H', ⟨by first | omega | exact Nat.le_refl _⟩, ⟨by (with_reducible repeat (first | refine blk_drewN ?_ _ | refine blk_drew ?_ | refine blk_alloc ?_ _)); exact BK825.out⟩, ⟨by repeat (first | (with_reducible first | exact HB.out | apply below_alloc | apply pw_below_drewN | apply below_drew1 | refine below_set ?_ GE825.out) | exact HB.out)⟩⟩
 case rest =>
  clear HC8
  try clear c1
  try clear c2
  try clear p2
  try clear c4
  try clear c15
  try clear c16
  try clear c17
  try clear c19
  try clear c21
  try clear c22
  try clear c22b0
  try clear c22b1
  try clear hcz11_0
  try clear hcz11_1
  try clear hcz11_2
  try clear hcz11_3
  try clear hcz24_0
  try clear hcz24_1
  try clear hcz24_2
  try clear hcz24_3
  try clear hcz30_0
  try clear hcz30_1
  try clear hcz30_2
  try clear hcz30_3
  try clear hcz36_0
  try clear hcz36_1
  try clear hcz36_2
  try clear hcz36_3
  try clear hfz11_0
  try clear hfz11_1
  try clear hfz11_2
  try clear hfz11_3
  try clear hfz24_0
  try clear hfz24_1
  try clear hfz24_2
  try clear hfz24_3
  try clear hfz30_0
  try clear hfz30_1
  try clear hfz30_2
  try clear hfz30_3
  try clear hfz36_0
  try clear hfz36_1
  try clear hfz36_2
  try clear hfz36_3
  obtain ⟨kq, x54_7, rfl, HA, HJ7, BK825, HB⟩ := hcut
  cases kq with
  | zero => exact absurd HA.out (by simp [law08_PairWins.j0])
  | succ kj7 =>
   have H := HA.out
   clear HA
   simp only [law08_PairWins.j0] at H
   by_cases c42 : x54_7 = true
   ·subst c42
    have H1 : (some t826) = some r := by rw [if_pos rfl] at H; exact H
    clear H
    have H := H1
    clear H1
    obtain rfl := Option.some.inj H
    go_wp2
    repeat (go_quiet (fail); try go_wp2)
    go_ret
    exact ⟨by first | rfl | (simp [errW_none, errW_some] <;> rfl) | (simp [*, errW_none, errW_some] <;> rfl), by repeat (first | (with_reducible first | exact HB.out | apply below_alloc | apply pw_below_drewN | apply below_drew1 | refine below_set ?_ GE825.out) | exact HB.out)⟩
   ·replace c42 := Bool.eq_false_iff.mpr c42
    subst c42
    have H1 : (law08_PairWins.l0 kj7 l0 a2 a3 false 0 a1_0 a1_1 a1_2 a1_3) = some r := by rw [if_neg (show ¬ (false = true) by decide)] at H; exact H
    clear H
    have H := H1
    clear H1
    have H' := Aside0.mk H
    clear H
    go_wp2
    repeat (go_quiet (fail); try go_wp2)
    go_loopg [12, 13] kj7 (fun kq v12 v13 w' => ∃ (x12_2 : Bool) (x13_2 : Int), v12 = .bool x12_2 ∧ v13 = .int .i64 x13_2 ∧ Aside0 (law08_PairWins.l0 kq l0 a2 a3 x12_2 x13_2 a1_0 a1_1 a1_2 a1_3 = some r) ∧ Aside0 (kq ≤ kj7) ∧ Aside0 (w'.heap[gb825]? = some (.cells #[.string a1_0, .string a1_1, .int .i64 a1_2, .int .i64 a1_3] 57 (0, 0))) ∧ Aside0 (Below w.heap.size w w'))
    case atStart => exact ⟨(false), (0), (by first | rfl | (simp; done) | (simp [*]; done)), (by first | rfl | (simp; done) | (simp [*]; done)), H', ⟨Nat.le_refl _⟩, ⟨by (with_reducible repeat (first | refine blk_drewN ?_ _ | refine blk_drew ?_ | refine blk_alloc ?_ _)); exact BK825.out⟩, ⟨by repeat (first | (with_reducible first | exact HB.out | apply below_alloc | apply pw_below_drewN | apply below_drew1 | refine below_set ?_ GE825.out) | exact HB.out)⟩⟩
    case round =>
     clear H'
     try clear c1
     try clear c2
     try clear p2
     try clear c4
     try clear c15
     try clear c16
     try clear c17
     try clear c19
     try clear c21
     try clear c22
     try clear c22b0
     try clear c22b1
     try clear c42
     try clear hcz11_0
     try clear hcz11_1
     try clear hcz11_2
     try clear hcz11_3
     try clear hcz24_0
     try clear hcz24_1
     try clear hcz24_2
     try clear hcz24_3
     try clear hcz30_0
     try clear hcz30_1
     try clear hcz30_2
     try clear hcz30_3
     try clear hcz36_0
     try clear hcz36_1
     try clear hcz36_2
     try clear hcz36_3
     try clear hfz11_0
     try clear hfz11_1
     try clear hfz11_2
     try clear hfz11_3
     try clear hfz24_0
     try clear hfz24_1
     try clear hfz24_2
     try clear hfz24_3
     try clear hfz30_0
     try clear hfz30_1
     try clear hfz30_2
     try clear hfz30_3
     try clear hfz36_0
     try clear hfz36_1
     try clear hfz36_2
     try clear hfz36_3
     try clear p2
     obtain ⟨x12_2, x13_2, rfl, rfl, HA, HK2, BK825, HB⟩ := hrel
     cases gk with
     | zero => exact absurd HA.out (by simp [law08_PairWins.l0])
     | succ k2 =>
      have H := HA.out
      clear HA
      simp only [law08_PairWins.l0] at H
      by_cases c43 : x13_2 < (l0.length : Int)
      ·rw [if_pos c43] at H
       have c43b0 : decide (x13_2 < (l0.length : Int)) = true := decide_eq_true c43
       clear c43
       by_cases c44 : x12_2 = true
       ·subst c44
        have H1 : (law08_PairWins.l0 k2 l0 a2 a3 true (wrap64 (x13_2 + 1)) a1_0 a1_1 a1_2 a1_3) = some r := by rw [if_pos rfl] at H; exact H
        clear H
        have H := H1
        clear H1
        have H' := Aside0.mk H
        clear H
        go_wp2
        repeat (go_quiet (fail); try go_wp2)
        go_roundg k2
        case measure => have := HJ7.out; have := HK2.out; omega
        case rel => exact ⟨(true), (wrap64 (x13_2 + 1)), (by first | rfl | (simp; done) | (simp [*]; done)), (by first | rfl | (simp; done) | (simp [*]; done)), H', ⟨by have := HJ7.out; have := HK2.out; omega⟩, ⟨by (with_reducible repeat (first | refine blk_drewN ?_ _ | refine blk_drew ?_ | refine blk_alloc ?_ _)); exact BK825.out⟩, ⟨by repeat (first | (with_reducible first | exact HB.out | apply below_alloc | apply pw_below_drewN | apply below_drew1 | refine below_set ?_ GE825.out) | exact HB.out)⟩⟩
       ·replace c44 := Bool.eq_false_iff.mpr c44
        subst c44
        have H1 : (if 0 ≤ x13_2 then (law08_PairWins.l0 k2 l0 a2 a3 ((((rd_T57 l0 x13_2).f0).toList) == a1_0.toList && ((((rd_T57 l0 x13_2).f1).toList) == a1_1.toList && ((((rd_T57 l0 x13_2).f2.f0) == a1_2 && (((rd_T57 l0 x13_2).f2.f1) == a1_3))))) (wrap64 (x13_2 + 1)) a1_0 a1_1 a1_2 a1_3) else (none)) = some r := by rw [if_neg (show ¬ (false = true) by decide)] at H; exact H
        clear H
        have H := H1
        clear H1
        by_cases c45 : 0 ≤ x13_2
        ·rw [if_pos c45] at H
         have c45b0 : decide (0 ≤ x13_2) = true := decide_eq_true c45
         clear c45
         have H' := Aside0.mk H
         clear H
         have p837 : 0 ≤ (x13_2 : Int) := of_decide_eq_true (by first | (with_reducible assumption) | assumption)
         have q837 : x13_2 < (l0.length : Int) := of_decide_eq_true (by first | (with_reducible assumption) | assumption)
         obtain ⟨ad837, e837, hx837_0, hx837_1, hx837_2, hx837_3⟩ := at_T57 HR0.out x13_2 p837 q837
         cases e837
         replace hx837_0 := (HB.out.cell (World.block_lt_of_cell? w _ hx837_0)).trans hx837_0
         replace hx837_1 := (HB.out.cell (World.block_lt_of_cell? w _ hx837_1)).trans hx837_1
         replace hx837_2 := (HB.out.cell (World.block_lt_of_cell? w _ hx837_2)).trans hx837_2
         replace hx837_3 := (HB.out.cell (World.block_lt_of_cell? w _ hx837_3)).trans hx837_3
         replace p837 := eq_true p837
         replace q837 := eq_true q837
         have hcz46_0 : wr.cell? ⟨gb825, 0, none⟩ = some (.string a1_0) := (blk_cell BK825.out 0).trans rfl
         have hcz46_1 : wr.cell? ⟨gb825, 1, none⟩ = some (.string a1_1) := (blk_cell BK825.out 1).trans rfl
         have hcz46_2 : wr.cell? ⟨gb825, 2, none⟩ = some (.int .i64 a1_2) := (blk_cell BK825.out 2).trans rfl
         have hcz46_3 : wr.cell? ⟨gb825, 3, none⟩ = some (.int .i64 a1_3) := (blk_cell BK825.out 3).trans rfl
         have hfz46_0 := blk_frozen BK825.out 0
         have hfz46_1 := blk_frozen BK825.out 1
         have hfz46_2 := blk_frozen BK825.out 2
         have hfz46_3 := blk_frozen BK825.out 3
         go_wp2
         repeat (go_quiet (fail); try go_wp2)
         go_roundg k2
         case measure => have := HJ7.out; have := HK2.out; omega
         case rel => exact ⟨(((((rd_T57 l0 x13_2).f0).toList) == a1_0.toList && ((((rd_T57 l0 x13_2).f1).toList) == a1_1.toList && ((((rd_T57 l0 x13_2).f2.f0) == a1_2 && (((rd_T57 l0 x13_2).f2.f1) == a1_3)))))), (wrap64 (x13_2 + 1)), (by first | rfl | (simp; done) | (simp [*]; done)), (by first | rfl | (simp; done) | (simp [*]; done)), H', ⟨by have := HJ7.out; have := HK2.out; omega⟩, ⟨by (with_reducible repeat (first | refine blk_drewN ?_ _ | refine blk_drew ?_ | refine blk_alloc ?_ _)); exact BK825.out⟩, ⟨by repeat (first | (with_reducible first | exact HB.out | apply below_alloc | apply pw_below_drewN | apply below_drew1 | refine below_set ?_ GE825.out) | exact HB.out)⟩⟩
        ·rw [if_neg c45] at H
         exact absurd H (by simp)
      ·rw [if_neg c43] at H
       have c43b0 : decide (x13_2 < (l0.length : Int)) = false := decide_eq_false c43
       clear c43
       replace H := Option.bind_eq_some_iff.mp H
       obtain ⟨t838, A470, H⟩ := H
       replace H : ((pair_Del.f l0 a2 a3).bind fun t841 => ((pair_Merge.f l0 t838 t841).bind fun t844 => (law08_PairWins.l1 k2 a2 a3 x12_2 t844 false 0 a1_0 a1_1 a1_2 a1_3))) = some r := H
       have A47 := Aside0.mk A470
       clear A470
       replace H := Option.bind_eq_some_iff.mp H
       obtain ⟨t841, A480, H⟩ := H
       replace H : ((pair_Merge.f l0 t838 t841).bind fun t844 => (law08_PairWins.l1 k2 a2 a3 x12_2 t844 false 0 a1_0 a1_1 a1_2 a1_3)) = some r := H
       have A48 := Aside0.mk A480
       clear A480
       replace H := Option.bind_eq_some_iff.mp H
       obtain ⟨t844, A490, H⟩ := H
       replace H : (law08_PairWins.l1 k2 a2 a3 x12_2 t844 false 0 a1_0 a1_1 a1_2 a1_3) = some r := H
       have A49 := Aside0.mk A490
       clear A490
       have H' := Aside0.mk H
       clear H
       have hcz50_0 : wr.cell? ⟨gb825, 0, none⟩ = some (.string a1_0) := (blk_cell BK825.out 0).trans rfl
       have hcz50_1 : wr.cell? ⟨gb825, 1, none⟩ = some (.string a1_1) := (blk_cell BK825.out 1).trans rfl
       have hcz50_2 : wr.cell? ⟨gb825, 2, none⟩ = some (.int .i64 a1_2) := (blk_cell BK825.out 2).trans rfl
       have hcz50_3 : wr.cell? ⟨gb825, 3, none⟩ = some (.int .i64 a1_3) := (blk_cell BK825.out 3).trans rfl
       have hfz50_0 := blk_frozen BK825.out 0
       have hfz50_1 := blk_frozen BK825.out 1
       have hfz50_2 := blk_frozen BK825.out 2
       have hfz50_3 := blk_frozen BK825.out 3
       go_wp2_with (first | (go_at_call 49; (with_reducible refine (pair_Add.calls _ _ l0 a1_0 a1_1 a1_2 a1_3 t838 _ ?side1 ?side2 A47.out).mono ?_); (case side1 => repeat (first | exact (Kd.C_below HR0.out HB.out) | (with_reducible refine Kd.C_alloc ?_ _) | (with_reducible refine Kd.C_drewN ?_ _) | (with_reducible refine Kd.C_drew ?_))); (case side2 => exact HC0.out); rintro e w51 ⟨v839, rfl, ho0, hb⟩; have n0_ := Aside0.mk (Kd.R_lower (Kd.R_newB ho0 (g := gb825) (o := .cells #[.string a1_0, .string a1_1, .int .i64 a1_2, .int .i64 a1_3] 57 (0, 0)) (by (with_reducible repeat (first | refine blk_drewN ?_ _ | refine blk_drew ?_ | refine blk_alloc ?_ _)); exact BK825.out)) (below_size (by repeat (first | (with_reducible first | exact HB.out | apply below_alloc | apply pw_below_drewN | apply below_drew1 | refine below_set ?_ GE825.out) | exact HB.out)))); have n1_ := Aside0.mk (blk_below (g := gb825) (o := .cells #[.string a1_0, .string a1_1, .int .i64 a1_2, .int .i64 a1_3] 57 (0, 0)) (by (with_reducible repeat (first | refine blk_drewN ?_ _ | refine blk_drew ?_ | refine blk_alloc ?_ _)); exact BK825.out) hb); have n2_ := Aside0.mk (below_step (by repeat (first | (with_reducible first | exact HB.out | apply below_alloc | apply pw_below_drewN | apply below_drew1 | refine below_set ?_ GE825.out) | exact HB.out)) hb); clear BK825; clear HB; have HO840 := n0_; have BK825 := n1_; have HB := n2_; clear n0_ n1_ n2_; (try clear hb); (try clear hb2); (try clear hk); (try clear hi); (try clear ho0)) | (go_at_call 51; (with_reducible refine (pair_Del.calls _ _ l0 a2 a3 t841 _ ?side1 ?side2 A48.out).mono ?_); (case side1 => repeat (first | exact (Kd.C_below HR0.out HB.out) | (with_reducible refine Kd.C_alloc ?_ _) | (with_reducible refine Kd.C_drewN ?_ _) | (with_reducible refine Kd.C_drew ?_))); (case side2 => exact HC0.out); rintro e w52 ⟨v842, rfl, ho0, hb⟩; have n0_ := Aside0.mk (Kd.R_elder' (by (with_reducible repeat (first | apply Kd.R_alloc | apply Kd.R_drewN | apply Kd.R_drew)); exact HO840.out) (Kd.R_base ho0) hb); have n1_ := Aside0.mk (Kd.R_lower (Kd.R_newB (Kd.R_new' ho0 (Kd.R_lt (by (with_reducible repeat (first | apply Kd.R_alloc | apply Kd.R_drewN | apply Kd.R_drew)); exact HO840.out))) (g := gb825) (o := .cells #[.string a1_0, .string a1_1, .int .i64 a1_2, .int .i64 a1_3] 57 (0, 0)) (by (with_reducible repeat (first | refine blk_drewN ?_ _ | refine blk_drew ?_ | refine blk_alloc ?_ _)); exact BK825.out)) (below_size (by repeat (first | (with_reducible first | exact HB.out | apply below_alloc | apply pw_below_drewN | apply below_drew1 | refine below_set ?_ GE825.out) | exact HB.out)))); have n2_ := Aside0.mk (blk_below (g := gb825) (o := .cells #[.string a1_0, .string a1_1, .int .i64 a1_2, .int .i64 a1_3] 57 (0, 0)) (by (with_reducible repeat (first | refine blk_drewN ?_ _ | refine blk_drew ?_ | refine blk_alloc ?_ _)); exact BK825.out) hb); have n3_ := Aside0.mk (below_step (by repeat (first | (with_reducible first | exact HB.out | apply below_alloc | apply pw_below_drewN | apply below_drew1 | refine below_set ?_ GE825.out) | exact HB.out)) hb); clear HO840; clear BK825; clear HB; have HO840 := n0_; have HO843 := n1_; have BK825 := n2_; have HB := n3_; clear n0_ n1_ n2_ n3_; (try clear hb); (try clear hb2); (try clear hk); (try clear hi); (try clear ho0); obtain ⟨Ao53, co53, eo53⟩ := Kd.R_slice HO840.out; subst eo53; obtain ⟨Ao54, co54, eo54⟩ := Kd.R_slice HO843.out; subst eo54) | (go_at_call 53; (with_reducible refine (pair_Merge.calls _ _ l0 _ _ t838 _ _ t841 t844 _ ?side1 ?side2 ?side3 ?side4 ?side5 ?side6 A49.out).mono ?_); (case side1 => repeat (first | exact (Kd.C_below HR0.out HB.out) | (with_reducible refine Kd.C_alloc ?_ _) | (with_reducible refine Kd.C_drewN ?_ _) | (with_reducible refine Kd.C_drew ?_))); (case side2 => exact HC0.out); (case side3 => repeat (first | exact (Kd.R_reads' HO840.out).2.2 | (with_reducible refine Kd.C_alloc ?_ _) | (with_reducible refine Kd.C_drewN ?_ _) | (with_reducible refine Kd.C_drew ?_))); (case side4 => exact (Kd.R_reads' HO840.out).2.1); (case side5 => repeat (first | exact (Kd.R_reads' HO843.out).2.2 | (with_reducible refine Kd.C_alloc ?_ _) | (with_reducible refine Kd.C_drewN ?_ _) | (with_reducible refine Kd.C_drew ?_))); (case side6 => exact (Kd.R_reads' HO843.out).2.1); rintro e w55 ⟨v845, rfl, ho0, hb⟩; have n0_ := Aside0.mk (Kd.R_elder' (by (with_reducible repeat (first | apply Kd.R_alloc | apply Kd.R_drewN | apply Kd.R_drew)); exact HO840.out) (Kd.R_base ho0) hb); have n1_ := Aside0.mk (Kd.R_elder' (by (with_reducible repeat (first | apply Kd.R_alloc | apply Kd.R_drewN | apply Kd.R_drew)); exact HO843.out) (Kd.R_base ho0) hb); have n2_ := Aside0.mk (Kd.R_lower (Kd.R_newB (Kd.R_new' (Kd.R_new' ho0 (Kd.R_lt (by (with_reducible repeat (first | apply Kd.R_alloc | apply Kd.R_drewN | apply Kd.R_drew)); exact HO840.out))) (Kd.R_lt (by (with_reducible repeat (first | apply Kd.R_alloc | apply Kd.R_drewN | apply Kd.R_drew)); exact HO843.out))) (g := gb825) (o := .cells #[.string a1_0, .string a1_1, .int .i64 a1_2, .int .i64 a1_3] 57 (0, 0)) (by (with_reducible repeat (first | refine blk_drewN ?_ _ | refine blk_drew ?_ | refine blk_alloc ?_ _)); exact BK825.out)) (below_size (by repeat (first | (with_reducible first | exact HB.out | apply below_alloc | apply pw_below_drewN | apply below_drew1 | refine below_set ?_ GE825.out) | exact HB.out)))); have n3_ := Aside0.mk (blk_below (g := gb825) (o := .cells #[.string a1_0, .string a1_1, .int .i64 a1_2, .int .i64 a1_3] 57 (0, 0)) (by (with_reducible repeat (first | refine blk_drewN ?_ _ | refine blk_drew ?_ | refine blk_alloc ?_ _)); exact BK825.out) hb); have n4_ := Aside0.mk (below_step (by repeat (first | (with_reducible first | exact HB.out | apply below_alloc | apply pw_below_drewN | apply below_drew1 | refine below_set ?_ GE825.out) | exact HB.out)) hb); clear HO840; clear HO843; clear BK825; clear HB; have HO840 := n0_; have HO843 := n1_; have HO846 := n2_; have BK825 := n3_; have HB := n4_; clear n0_ n1_ n2_ n3_ n4_; (try clear hb); (try clear hb2); (try clear hk); (try clear hi); (try clear ho0)))
       repeat (go_quiet (first | (go_at_call 49; (with_reducible refine (pair_Add.calls _ _ l0 a1_0 a1_1 a1_2 a1_3 t838 _ ?side1 ?side2 A47.out).mono ?_); (case side1 => repeat (first | exact (Kd.C_below HR0.out HB.out) | (with_reducible refine Kd.C_alloc ?_ _) | (with_reducible refine Kd.C_drewN ?_ _) | (with_reducible refine Kd.C_drew ?_))); (case side2 => exact HC0.out); rintro e w51 ⟨v839, rfl, ho0, hb⟩; have n0_ := Aside0.mk (Kd.R_lower (Kd.R_newB ho0 (g := gb825) (o := .cells #[.string a1_0, .string a1_1, .int .i64 a1_2, .int .i64 a1_3] 57 (0, 0)) (by (with_reducible repeat (first | refine blk_drewN ?_ _ | refine blk_drew ?_ | refine blk_alloc ?_ _)); exact BK825.out)) (below_size (by repeat (first | (with_reducible first | exact HB.out | apply below_alloc | apply pw_below_drewN | apply below_drew1 | refine below_set ?_ GE825.out) | exact HB.out)))); have n1_ := Aside0.mk (blk_below (g := gb825) (o := .cells #[.string a1_0, .string a1_1, .int .i64 a1_2, .int .i64 a1_3] 57 (0, 0)) (by (with_reducible repeat (first | refine blk_drewN ?_ _ | refine blk_drew ?_ | refine blk_alloc ?_ _)); exact BK825.out) hb); have n2_ := Aside0.mk (below_step (by repeat (first | (with_reducible first | exact HB.out | apply below_alloc | apply pw_below_drewN | apply below_drew1 | refine below_set ?_ GE825.out) | exact HB.out)) hb); clear BK825; clear HB; have HO840 := n0_; have BK825 := n1_; have HB := n2_; clear n0_ n1_ n2_; (try clear hb); (try clear hb2); (try clear hk); (try clear hi); (try clear ho0)) | (go_at_call 51; (with_reducible refine (pair_Del.calls _ _ l0 a2 a3 t841 _ ?side1 ?side2 A48.out).mono ?_); (case side1 => repeat (first | exact (Kd.C_below HR0.out HB.out) | (with_reducible refine Kd.C_alloc ?_ _) | (with_reducible refine Kd.C_drewN ?_ _) | (with_reducible refine Kd.C_drew ?_))); (case side2 => exact HC0.out); rintro e w52 ⟨v842, rfl, ho0, hb⟩; have n0_ := Aside0.mk (Kd.R_elder' (by (with_reducible repeat (first | apply Kd.R_alloc | apply Kd.R_drewN | apply Kd.R_drew)); exact HO840.out) (Kd.R_base ho0) hb); have n1_ := Aside0.mk (Kd.R_lower (Kd.R_newB (Kd.R_new' ho0 (Kd.R_lt (by (with_reducible repeat (first | apply Kd.R_alloc | apply Kd.R_drewN | apply Kd.R_drew)); exact HO840.out))) (g := gb825) (o := .cells #[.string a1_0, .string a1_1, .int .i64 a1_2, .int .i64 a1_3] 57 (0, 0)) (by (with_reducible repeat (first | refine blk_drewN ?_ _ | refine blk_drew ?_ | refine blk_alloc ?_ _)); exact BK825.out)) (below_size (by repeat (first | (with_reducible first | exact HB.out | apply below_alloc | apply pw_below_drewN | apply below_drew1 | refine below_set ?_ GE825.out) | exact HB.out)))); have n2_ := Aside0.mk (blk_below (g := gb825) (o := .cells #[.string a1_0, .string a1_1, .int .i64 a1_2, .int .i64 a1_3] 57 (0, 0)) (by (with_reducible repeat (first | refine blk_drewN ?_ _ | refine blk_drew ?_ | refine blk_alloc ?_ _)); exact BK825.out) hb); have n3_ := Aside0.mk (below_step (by repeat (first | (with_reducible first | exact HB.out | apply below_alloc | apply pw_below_drewN | apply below_drew1 | refine below_set ?_ GE825.out) | exact HB.out)) hb); clear HO840; clear BK825; clear HB; have HO840 := n0_; have HO843 := n1_; have BK825 := n2_; have HB := n3_; clear n0_ n1_ n2_ n3_; (try clear hb); (try clear hb2); (try clear hk); (try clear hi); (try clear ho0); obtain ⟨Ao53, co53, eo53⟩ := Kd.R_slice HO840.out; subst eo53; obtain ⟨Ao54, co54, eo54⟩ := Kd.R_slice HO843.out; subst eo54) | (go_at_call 53; (with_reducible refine (pair_Merge.calls _ _ l0 _ _ t838 _ _ t841 t844 _ ?side1 ?side2 ?side3 ?side4 ?side5 ?side6 A49.out).mono ?_); (case side1 => repeat (first | exact (Kd.C_below HR0.out HB.out) | (with_reducible refine Kd.C_alloc ?_ _) | (with_reducible refine Kd.C_drewN ?_ _) | (with_reducible refine Kd.C_drew ?_))); (case side2 => exact HC0.out); (case side3 => repeat (first | exact (Kd.R_reads' HO840.out).2.2 | (with_reducible refine Kd.C_alloc ?_ _) | (with_reducible refine Kd.C_drewN ?_ _) | (with_reducible refine Kd.C_drew ?_))); (case side4 => exact (Kd.R_reads' HO840.out).2.1); (case side5 => repeat (first | exact (Kd.R_reads' HO843.out).2.2 | (with_reducible refine Kd.C_alloc ?_ _) | (with_reducible refine Kd.C_drewN ?_ _) | (with_reducible refine Kd.C_drew ?_))); (case side6 => exact (Kd.R_reads' HO843.out).2.1); rintro e w55 ⟨v845, rfl, ho0, hb⟩; have n0_ := Aside0.mk (Kd.R_elder' (by (with_reducible repeat (first | apply Kd.R_alloc | apply Kd.R_drewN | apply Kd.R_drew)); exact HO840.out) (Kd.R_base ho0) hb); have n1_ := Aside0.mk (Kd.R_elder' (by (with_reducible repeat (first | apply Kd.R_alloc | apply Kd.R_drewN | apply Kd.R_drew)); exact HO843.out) (Kd.R_base ho0) hb); have n2_ := Aside0.mk (Kd.R_lower (Kd.R_newB (Kd.R_new' (Kd.R_new' ho0 (Kd.R_lt (by (with_reducible repeat (first | apply Kd.R_alloc | apply Kd.R_drewN | apply Kd.R_drew)); exact HO840.out))) (Kd.R_lt (by (with_reducible repeat (first | apply Kd.R_alloc | apply Kd.R_drewN | apply Kd.R_drew)); exact HO843.out))) (g := gb825) (o := .cells #[.string a1_0, .string a1_1, .int .i64 a1_2, .int .i64 a1_3] 57 (0, 0)) (by (with_reducible repeat (first | refine blk_drewN ?_ _ | refine blk_drew ?_ | refine blk_alloc ?_ _)); exact BK825.out)) (below_size (by repeat (first | (with_reducible first | exact HB.out | apply below_alloc | apply pw_below_drewN | apply below_drew1 | refine below_set ?_ GE825.out) | exact HB.out)))); have n3_ := Aside0.mk (blk_below (g := gb825) (o := .cells #[.string a1_0, .string a1_1, .int .i64 a1_2, .int .i64 a1_3] 57 (0, 0)) (by (with_reducible repeat (first | refine blk_drewN ?_ _ | refine blk_drew ?_ | refine blk_alloc ?_ _)); exact BK825.out) hb); have n4_ := Aside0.mk (below_step (by repeat (first | (with_reducible first | exact HB.out | apply below_alloc | apply pw_below_drewN | apply below_drew1 | refine below_set ?_ GE825.out) | exact HB.out)) hb); clear HO840; clear HO843; clear BK825; clear HB; have HO840 := n0_; have HO843 := n1_; have HO846 := n2_; have BK825 := n3_; have HB := n4_; clear n0_ n1_ n2_ n3_ n4_; (try clear hb); (try clear hb2); (try clear hk); (try clear hi); (try clear ho0))); try go_wp2_with (first | (go_at_call 49; (with_reducible refine (pair_Add.calls _ _ l0 a1_0 a1_1 a1_2 a1_3 t838 _ ?side1 ?side2 A47.out).mono ?_); (case side1 => repeat (first | exact (Kd.C_below HR0.out HB.out) | (with_reducible refine Kd.C_alloc ?_ _) | (with_reducible refine Kd.C_drewN ?_ _) | (with_reducible refine Kd.C_drew ?_))); (case side2 => exact HC0.out); rintro e w51 ⟨v839, rfl, ho0, hb⟩; have n0_ := Aside0.mk (Kd.R_lower (Kd.R_newB ho0 (g := gb825) (o := .cells #[.string a1_0, .string a1_1, .int .i64 a1_2, .int .i64 a1_3] 57 (0, 0)) (by (with_reducible repeat (first | refine blk_drewN ?_ _ | refine blk_drew ?_ | refine blk_alloc ?_ _)); exact BK825.out)) (below_size (by repeat (first | (with_reducible first | exact HB.out | apply below_alloc | apply pw_below_drewN | apply below_drew1 | refine below_set ?_ GE825.out) | exact HB.out)))); have n1_ := Aside0.mk (blk_below (g := gb825) (o := .cells #[.string a1_0, .string a1_1, .int .i64 a1_2, .int .i64 a1_3] 57 (0, 0)) (by (with_reducible repeat (first | refine blk_drewN ?_ _ | refine blk_drew ?_ | refine blk_alloc ?_ _)); exact BK825.out) hb); have n2_ := Aside0.mk (below_step (by repeat (first | (with_reducible first | exact HB.out | apply below_alloc | apply pw_below_drewN | apply below_drew1 | refine below_set ?_ GE825.out) | exact HB.out)) hb); clear BK825; clear HB; have HO840 := n0_; have BK825 := n1_; have HB := n2_; clear n0_ n1_ n2_; (try clear hb); (try clear hb2); (try clear hk); (try clear hi); (try clear ho0)) | (go_at_call 51; (with_reducible refine (pair_Del.calls _ _ l0 a2 a3 t841 _ ?side1 ?side2 A48.out).mono ?_); (case side1 => repeat (first | exact (Kd.C_below HR0.out HB.out) | (with_reducible refine Kd.C_alloc ?_ _) | (with_reducible refine Kd.C_drewN ?_ _) | (with_reducible refine Kd.C_drew ?_))); (case side2 => exact HC0.out); rintro e w52 ⟨v842, rfl, ho0, hb⟩; have n0_ := Aside0.mk (Kd.R_elder' (by (with_reducible repeat (first | apply Kd.R_alloc | apply Kd.R_drewN | apply Kd.R_drew)); exact HO840.out) (Kd.R_base ho0) hb); have n1_ := Aside0.mk (Kd.R_lower (Kd.R_newB (Kd.R_new' ho0 (Kd.R_lt (by (with_reducible repeat (first | apply Kd.R_alloc | apply Kd.R_drewN | apply Kd.R_drew)); exact HO840.out))) (g := gb825) (o := .cells #[.string a1_0, .string a1_1, .int .i64 a1_2, .int .i64 a1_3] 57 (0, 0)) (by (with_reducible repeat (first | refine blk_drewN ?_ _ | refine blk_drew ?_ | refine blk_alloc ?_ _)); exact BK825.out)) (below_size (by repeat (first | (with_reducible first | exact HB.out | apply below_alloc | apply pw_below_drewN | apply below_drew1 | refine below_set ?_ GE825.out) | exact HB.out)))); have n2_ := Aside0.mk (blk_below (g := gb825) (o := .cells #[.string a1_0, .string a1_1, .int .i64 a1_2, .int .i64 a1_3] 57 (0, 0)) (by (with_reducible repeat (first | refine blk_drewN ?_ _ | refine blk_drew ?_ | refine blk_alloc ?_ _)); exact BK825.out) hb); have n3_ := Aside0.mk (below_step (by repeat (first | (with_reducible first | exact HB.out | apply below_alloc | apply pw_below_drewN | apply below_drew1 | refine below_set ?_ GE825.out) | exact HB.out)) hb); clear HO840; clear BK825; clear HB; have HO840 := n0_; have HO843 := n1_; have BK825 := n2_; have HB := n3_; clear n0_ n1_ n2_ n3_; (try clear hb); (try clear hb2); (try clear hk); (try clear hi); (try clear ho0); obtain ⟨Ao53, co53, eo53⟩ := Kd.R_slice HO840.out; subst eo53; obtain ⟨Ao54, co54, eo54⟩ := Kd.R_slice HO843.out; subst eo54) | (go_at_call 53; (with_reducible refine (pair_Merge.calls _ _ l0 _ _ t838 _ _ t841 t844 _ ?side1 ?side2 ?side3 ?side4 ?side5 ?side6 A49.out).mono ?_); (case side1 => repeat (first | exact (Kd.C_below HR0.out HB.out) | (with_reducible refine Kd.C_alloc ?_ _) | (with_reducible refine Kd.C_drewN ?_ _) | (with_reducible refine Kd.C_drew ?_))); (case side2 => exact HC0.out); (case side3 => repeat (first | exact (Kd.R_reads' HO840.out).2.2 | (with_reducible refine Kd.C_alloc ?_ _) | (with_reducible refine Kd.C_drewN ?_ _) | (with_reducible refine Kd.C_drew ?_))); (case side4 => exact (Kd.R_reads' HO840.out).2.1); (case side5 => repeat (first | exact (Kd.R_reads' HO843.out).2.2 | (with_reducible refine Kd.C_alloc ?_ _) | (with_reducible refine Kd.C_drewN ?_ _) | (with_reducible refine Kd.C_drew ?_))); (case side6 => exact (Kd.R_reads' HO843.out).2.1); rintro e w55 ⟨v845, rfl, ho0, hb⟩; have n0_ := Aside0.mk (Kd.R_elder' (by (with_reducible repeat (first | apply Kd.R_alloc | apply Kd.R_drewN | apply Kd.R_drew)); exact HO840.out) (Kd.R_base ho0) hb); have n1_ := Aside0.mk (Kd.R_elder' (by (with_reducible repeat (first | apply Kd.R_alloc | apply Kd.R_drewN | apply Kd.R_drew)); exact HO843.out) (Kd.R_base ho0) hb); have n2_ := Aside0.mk (Kd.R_lower (Kd.R_newB (Kd.R_new' (Kd.R_new' ho0 (Kd.R_lt (by (with_reducible repeat (first | apply Kd.R_alloc | apply Kd.R_drewN | apply Kd.R_drew)); exact HO840.out))) (Kd.R_lt (by (with_reducible repeat (first | apply Kd.R_alloc | apply Kd.R_drewN | apply Kd.R_drew)); exact HO843.out))) (g := gb825) (o := .cells #[.string a1_0, .string a1_1, .int .i64 a1_2, .int .i64 a1_3] 57 (0, 0)) (by (with_reducible repeat (first | refine blk_drewN ?_ _ | refine blk_drew ?_ | refine blk_alloc ?_ _)); exact BK825.out)) (below_size (by repeat (first | (with_reducible first | exact HB.out | apply below_alloc | apply pw_below_drewN | apply below_drew1 | refine below_set ?_ GE825.out) | exact HB.out)))); have n3_ := Aside0.mk (blk_below (g := gb825) (o := .cells #[.string a1_0, .string a1_1, .int .i64 a1_2, .int .i64 a1_3] 57 (0, 0)) (by (with_reducible repeat (first | refine blk_drewN ?_ _ | refine blk_drew ?_ | refine blk_alloc ?_ _)); exact BK825.out) hb); have n4_ := Aside0.mk (below_step (by repeat (first | (with_reducible first | exact HB.out | apply below_alloc | apply pw_below_drewN | apply below_drew1 | refine below_set ?_ GE825.out) | exact HB.out)) hb); clear HO840; clear HO843; clear BK825; clear HB; have HO840 := n0_; have HO843 := n1_; have HO846 := n2_; have BK825 := n3_; have HB := n4_; clear n0_ n1_ n2_ n3_ n4_; (try clear hb); (try clear hb2); (try clear hk); (try clear hi); (try clear ho0))))
       go_loopg [15, 16] k2 (fun kq v15 v16 w' => ∃ (x15_3 : Bool) (x16_3 : Int), v15 = .bool x15_3 ∧ v16 = .int .i64 x16_3 ∧ Aside0 (law08_PairWins.l1 kq a2 a3 x12_2 t844 x15_3 x16_3 a1_0 a1_1 a1_2 a1_3 = some r) ∧ Aside0 (kq ≤ k2) ∧ Aside0 (Kd.R k57 57 w' w.heap.size (fun k_ => k_ ≠ gb825) v845 t844) ∧ Aside0 (w'.heap[gb825]? = some (.cells #[.string a1_0, .string a1_1, .int .i64 a1_2, .int .i64 a1_3] 57 (0, 0))) ∧ Aside0 (Below w.heap.size w w'))
       case atStart => exact ⟨(false), (0), (by first | rfl | (simp; done) | (simp [*]; done)), (by first | rfl | (simp; done) | (simp [*]; done)), H', ⟨Nat.le_refl _⟩, ⟨by (with_reducible repeat (first | apply Kd.R_alloc | apply Kd.R_drewN | apply Kd.R_drew)); exact Kd.R_mono HO846.out (fun _ hk => hk.2)⟩, ⟨by (with_reducible repeat (first | refine blk_drewN ?_ _ | refine blk_drew ?_ | refine blk_alloc ?_ _)); exact BK825.out⟩, ⟨by repeat (first | (with_reducible first | exact HB.out | apply below_alloc | apply pw_below_drewN | apply below_drew1 | refine below_set ?_ GE825.out) | exact HB.out)⟩⟩
       case round =>
        clear H'
        try clear c1
        try clear c2
        try clear p2
        try clear c4
        try clear p6
        try clear p8
        try clear q8
        try clear hx8
        try clear c15
        try clear c16
        try clear c17
        try clear c19
        try clear c21
        try clear c22
        try clear c22b0
        try clear c22b1
        try clear c42
        try clear c43
        try clear c43b0
        try clear c44
        try clear c45
        try clear c45b0
        try clear hcz11_0
        try clear hcz11_1
        try clear hcz11_2
        try clear hcz11_3
        try clear hcz24_0
        try clear hcz24_1
        try clear hcz24_2
        try clear hcz24_3
        try clear hcz30_0
        try clear hcz30_1
        try clear hcz30_2
        try clear hcz30_3
        try clear hcz36_0
        try clear hcz36_1
        try clear hcz36_2
        try clear hcz36_3
        try clear hcz46_0
        try clear hcz46_1
        try clear hcz46_2
        try clear hcz46_3
        try clear hcz50_0
        try clear hcz50_1
        try clear hcz50_2
        try clear hcz50_3
        try clear hfz11_0
        try clear hfz11_1
        try clear hfz11_2
        try clear hfz11_3
        try clear hfz24_0
        try clear hfz24_1
        try clear hfz24_2
        try clear hfz24_3
        try clear hfz30_0
        try clear hfz30_1
        try clear hfz30_2
        try clear hfz30_3
        try clear hfz36_0
        try clear hfz36_1
        try clear hfz36_2
        try clear hfz36_3
        try clear hfz46_0
        try clear hfz46_1
        try clear hfz46_2
        try clear hfz46_3
        try clear hfz50_0
        try clear hfz50_1
        try clear hfz50_2
        try clear hfz50_3
        try clear hx837_0
        try clear hx837_1
        try clear hx837_2
        try clear hx837_3
        try clear p2
        try clear p837
        try clear q837
        obtain ⟨x15_3, x16_3, rfl, rfl, HA, HK3, HO_14, BK825, HB⟩ := hrel
        cases gk with
        | zero => exact absurd HA.out (by simp [law08_PairWins.l1])
        | succ k3 =>
         have H := HA.out
         clear HA
         simp only [law08_PairWins.l1] at H
         by_cases c56 : x16_3 < (t844.length : Int)
         ·rw [if_pos c56] at H
          have c56b0 : decide (x16_3 < (t844.length : Int)) = true := decide_eq_true c56
          clear c56
          by_cases c57 : x15_3 = true
          ·subst c57
           have H1 : (if 0 ≤ x16_3 then (if (!((((rd_T57 t844 x16_3).f0).toList) == a1_0.toList) || (!((((rd_T57 t844 x16_3).f1).toList) == a1_1.toList) || ((!(((rd_T57 t844 x16_3).f2.f0) == a1_2) || (!(((rd_T57 t844 x16_3).f2.f1) == a1_3)))))) = true then (if ((rd_T57 t844 x16_3).f0).toList = a2.toList then (if ((rd_T57 t844 x16_3).f1).toList = a3.toList then (some false) else (law08_PairWins.l1 k3 a2 a3 x12_2 t844 true (wrap64 (x16_3 + 1)) a1_0 a1_1 a1_2 a1_3)) else (law08_PairWins.l1 k3 a2 a3 x12_2 t844 true (wrap64 (x16_3 + 1)) a1_0 a1_1 a1_2 a1_3)) else (law08_PairWins.l1 k3 a2 a3 x12_2 t844 true (wrap64 (x16_3 + 1)) a1_0 a1_1 a1_2 a1_3)) else (none)) = some r := by rw [if_pos rfl] at H; exact H
           clear H
           have H := H1
           clear H1
           by_cases c58 : 0 ≤ x16_3
           ·rw [if_pos c58] at H
            have c58b0 : decide (0 ≤ x16_3) = true := decide_eq_true c58
            clear c58
            by_cases c59 : (!((((rd_T57 t844 x16_3).f0).toList) == a1_0.toList) || (!((((rd_T57 t844 x16_3).f1).toList) == a1_1.toList) || ((!(((rd_T57 t844 x16_3).f2.f0) == a1_2) || (!(((rd_T57 t844 x16_3).f2.f1) == a1_3)))))) = true
            ·rw [if_pos c59] at H
             have c59b0 : (!((((rd_T57 t844 x16_3).f0).toList) == a1_0.toList) || (!((((rd_T57 t844 x16_3).f1).toList) == a1_1.toList) || ((!(((rd_T57 t844 x16_3).f2.f0) == a1_2) || (!(((rd_T57 t844 x16_3).f2.f1) == a1_3)))))) = true := c59
             clear c59
             by_cases c60 : ((rd_T57 t844 x16_3).f0).toList = a2.toList
             ·rw [if_pos c60] at H
              have c60b0 : (((rd_T57 t844 x16_3).f0).toList == a2.toList) = true := beq_iff_eq.mpr c60
              have c60b1 : (((rd_T57 t844 x16_3).f0).toList != a2.toList) = false := bne_eq_false_iff_eq.mpr c60
              clear c60
              by_cases c61 : ((rd_T57 t844 x16_3).f1).toList = a3.toList
              ·rw [if_pos c61] at H
               have c61b0 : (((rd_T57 t844 x16_3).f1).toList == a3.toList) = true := beq_iff_eq.mpr c61
               have c61b1 : (((rd_T57 t844 x16_3).f1).toList != a3.toList) = false := bne_eq_false_iff_eq.mpr c61
               clear c61
               obtain rfl := Option.some.inj H
               obtain ⟨Ao62, co62, eo62⟩ := Kd.R_slice HO_14.out
               subst eo62
               have p847 : 0 ≤ (x16_3 : Int) := of_decide_eq_true (by first | (with_reducible assumption) | assumption)
               have q847 : x16_3 < (t844.length : Int) := of_decide_eq_true (by first | (with_reducible assumption) | assumption)
               obtain ⟨ad847, e847, hx847_0, hx847_1, hx847_2, hx847_3⟩ := at_T57 (Kd.R_reads' HO_14.out).2.2 x16_3 p847 q847
               cases e847
               replace p847 := eq_true p847
               replace q847 := eq_true q847
               have hcz63_0 : wr.cell? ⟨gb825, 0, none⟩ = some (.string a1_0) := (blk_cell BK825.out 0).trans rfl
               have hcz63_1 : wr.cell? ⟨gb825, 1, none⟩ = some (.string a1_1) := (blk_cell BK825.out 1).trans rfl
               have hcz63_2 : wr.cell? ⟨gb825, 2, none⟩ = some (.int .i64 a1_2) := (blk_cell BK825.out 2).trans rfl
               have hcz63_3 : wr.cell? ⟨gb825, 3, none⟩ = some (.int .i64 a1_3) := (blk_cell BK825.out 3).trans rfl
               have hfz63_0 := blk_frozen BK825.out 0
               have hfz63_1 := blk_frozen BK825.out 1
               have hfz63_2 := blk_frozen BK825.out 2
               have hfz63_3 := blk_frozen BK825.out 3
               have p848 : 0 ≤ (x16_3 : Int) := of_decide_eq_true (by first | (with_reducible assumption) | assumption)
               have q848 : x16_3 < (t844.length : Int) := of_decide_eq_true (by first | (with_reducible assumption) | assumption)
               obtain ⟨ad848, e848, hx848_0, hx848_1, hx848_2, hx848_3⟩ := at_T57 (Kd.R_reads' HO_14.out).2.2 x16_3 p848 q848
               obtain rfl : ad847 = ad848 := (by injection e848)
               replace p848 := eq_true p848
               replace q848 := eq_true q848
               have p849 : 0 ≤ (x16_3 : Int) := of_decide_eq_true (by first | (with_reducible assumption) | assumption)
               have q849 : x16_3 < (t844.length : Int) := of_decide_eq_true (by first | (with_reducible assumption) | assumption)
               obtain ⟨ad849, e849, hx849_0, hx849_1, hx849_2, hx849_3⟩ := at_T57 (Kd.R_reads' HO_14.out).2.2 x16_3 p849 q849
               obtain rfl : ad847 = ad849 := (by injection e849)
               replace p849 := eq_true p849
               replace q849 := eq_true q849
               go_wp2
               repeat (go_quiet (fail); try go_wp2)
               go_ret
               exact ⟨by first | rfl | (simp [errW_none, errW_some] <;> rfl) | (simp [*, errW_none, errW_some] <;> rfl), by repeat (first | (with_reducible first | exact HB.out | apply below_alloc | apply pw_below_drewN | apply below_drew1 | refine below_set ?_ GE825.out) | exact HB.out)⟩
              ·rw [if_neg c61] at H
               have c61b0 : (((rd_T57 t844 x16_3).f1).toList == a3.toList) = false := beq_eq_false_iff_ne.mpr c61
               have c61b1 : (((rd_T57 t844 x16_3).f1).toList != a3.toList) = true := bne_iff_ne.mpr c61
               have H' := Aside0.mk H
               clear H
               obtain ⟨Ao64, co64, eo64⟩ := Kd.R_slice HO_14.out
               subst eo64
               have p847 : 0 ≤ (x16_3 : Int) := of_decide_eq_true (by first | (with_reducible assumption) | assumption)
               have q847 : x16_3 < (t844.length : Int) := of_decide_eq_true (by first | (with_reducible assumption) | assumption)
               obtain ⟨ad847, e847, hx847_0, hx847_1, hx847_2, hx847_3⟩ := at_T57 (Kd.R_reads' HO_14.out).2.2 x16_3 p847 q847
               cases e847
               replace p847 := eq_true p847
               replace q847 := eq_true q847
               have hcz65_0 : wr.cell? ⟨gb825, 0, none⟩ = some (.string a1_0) := (blk_cell BK825.out 0).trans rfl
               have hcz65_1 : wr.cell? ⟨gb825, 1, none⟩ = some (.string a1_1) := (blk_cell BK825.out 1).trans rfl
               have hcz65_2 : wr.cell? ⟨gb825, 2, none⟩ = some (.int .i64 a1_2) := (blk_cell BK825.out 2).trans rfl
               have hcz65_3 : wr.cell? ⟨gb825, 3, none⟩ = some (.int .i64 a1_3) := (blk_cell BK825.out 3).trans rfl
               have hfz65_0 := blk_frozen BK825.out 0
               have hfz65_1 := blk_frozen BK825.out 1
               have hfz65_2 := blk_frozen BK825.out 2
               have hfz65_3 := blk_frozen BK825.out 3
               have p848 : 0 ≤ (x16_3 : Int) := of_decide_eq_true (by first | (with_reducible assumption) | assumption)
               have q848 : x16_3 < (t844.length : Int) := of_decide_eq_true (by first | (with_reducible assumption) | assumption)
               obtain ⟨ad848, e848, hx848_0, hx848_1, hx848_2, hx848_3⟩ := at_T57 (Kd.R_reads' HO_14.out).2.2 x16_3 p848 q848
               obtain rfl : ad847 = ad848 := (by injection e848)
               replace p848 := eq_true p848
               replace q848 := eq_true q848
               have p849 : 0 ≤ (x16_3 : Int) := of_decide_eq_true (by first | (with_reducible assumption) | assumption)
               have q849 : x16_3 < (t844.length : Int) := of_decide_eq_true (by first | (with_reducible assumption) | assumption)
               obtain ⟨ad849, e849, hx849_0, hx849_1, hx849_2, hx849_3⟩ := at_T57 (Kd.R_reads' HO_14.out).2.2 x16_3 p849 q849
               obtain rfl : ad847 = ad849 := (by injection e849)
               replace p849 := eq_true p849
               replace q849 := eq_true q849
               go_wp2
               repeat (go_quiet (fail); try go_wp2)
               go_roundg k3
               case measure => have := HJ7.out; have := HK2.out; have := HK3.out; omega
               case rel => exact ⟨(true), (wrap64 (x16_3 + 1)), (by first | rfl | (simp; done) | (simp [*]; done)), (by first | rfl | (simp; done) | (simp [*]; done)), H', ⟨by have := HJ7.out; have := HK2.out; have := HK3.out; omega⟩, ⟨by (with_reducible repeat (first | apply Kd.R_alloc | apply Kd.R_drewN | apply Kd.R_drew)); exact HO_14.out⟩, ⟨by (with_reducible repeat (first | refine blk_drewN ?_ _ | refine blk_drew ?_ | refine blk_alloc ?_ _)); exact BK825.out⟩, ⟨by repeat (first | (with_reducible first | exact HB.out | apply below_alloc | apply pw_below_drewN | apply below_drew1 | refine below_set ?_ GE825.out) | exact HB.out)⟩⟩
             ·rw [if_neg c60] at H
              have c60b0 : (((rd_T57 t844 x16_3).f0).toList == a2.toList) = false := beq_eq_false_iff_ne.mpr c60
              have c60b1 : (((rd_T57 t844 x16_3).f0).toList != a2.toList) = true := bne_iff_ne.mpr c60
              have H' := Aside0.mk H
              clear H
              obtain ⟨Ao66, co66, eo66⟩ := Kd.R_slice HO_14.out
              subst eo66
              have p847 : 0 ≤ (x16_3 : Int) := of_decide_eq_true (by first | (with_reducible assumption) | assumption)
              have q847 : x16_3 < (t844.length : Int) := of_decide_eq_true (by first | (with_reducible assumption) | assumption)
              obtain ⟨ad847, e847, hx847_0, hx847_1, hx847_2, hx847_3⟩ := at_T57 (Kd.R_reads' HO_14.out).2.2 x16_3 p847 q847
              cases e847
              replace p847 := eq_true p847
              replace q847 := eq_true q847
              have hcz67_0 : wr.cell? ⟨gb825, 0, none⟩ = some (.string a1_0) := (blk_cell BK825.out 0).trans rfl
              have hcz67_1 : wr.cell? ⟨gb825, 1, none⟩ = some (.string a1_1) := (blk_cell BK825.out 1).trans rfl
              have hcz67_2 : wr.cell? ⟨gb825, 2, none⟩ = some (.int .i64 a1_2) := (blk_cell BK825.out 2).trans rfl
              have hcz67_3 : wr.cell? ⟨gb825, 3, none⟩ = some (.int .i64 a1_3) := (blk_cell BK825.out 3).trans rfl
              have hfz67_0 := blk_frozen BK825.out 0
              have hfz67_1 := blk_frozen BK825.out 1
              have hfz67_2 := blk_frozen BK825.out 2
              have hfz67_3 := blk_frozen BK825.out 3
              have p848 : 0 ≤ (x16_3 : Int) := of_decide_eq_true (by first | (with_reducible assumption) | assumption)
              have q848 : x16_3 < (t844.length : Int) := of_decide_eq_true (by first | (with_reducible assumption) | assumption)
              obtain ⟨ad848, e848, hx848_0, hx848_1, hx848_2, hx848_3⟩ := at_T57 (Kd.R_reads' HO_14.out).2.2 x16_3 p848 q848
              obtain rfl : ad847 = ad848 := (by injection e848)
              replace p848 := eq_true p848
              replace q848 := eq_true q848
              go_wp2
              repeat (go_quiet (fail); try go_wp2)
              go_roundg k3
              case measure => have := HJ7.out; have := HK2.out; have := HK3.out; omega
              case rel => exact ⟨(true), (wrap64 (x16_3 + 1)), (by first | rfl | (simp; done) | (simp [*]; done)), (by first | rfl | (simp; done) | (simp [*]; done)), H', ⟨by have := HJ7.out; have := HK2.out; have := HK3.out; omega⟩, ⟨by (with_reducible repeat (first | apply Kd.R_alloc | apply Kd.R_drewN | apply Kd.R_drew)); exact HO_14.out⟩, ⟨by (with_reducible repeat (first | refine blk_drewN ?_ _ | refine blk_drew ?_ | refine blk_alloc ?_ _)); exact BK825.out⟩, ⟨by repeat (first | (with_reducible first | exact HB.out | apply below_alloc | apply pw_below_drewN | apply below_drew1 | refine below_set ?_ GE825.out) | exact HB.out)⟩⟩
            ·rw [if_neg c59] at H
             have c59b0 : (!((((rd_T57 t844 x16_3).f0).toList) == a1_0.toList) || (!((((rd_T57 t844 x16_3).f1).toList) == a1_1.toList) || ((!(((rd_T57 t844 x16_3).f2.f0) == a1_2) || (!(((rd_T57 t844 x16_3).f2.f1) == a1_3)))))) = false := by simpa using c59
             clear c59
             have H' := Aside0.mk H
             clear H
             obtain ⟨Ao68, co68, eo68⟩ := Kd.R_slice HO_14.out
             subst eo68
             have p847 : 0 ≤ (x16_3 : Int) := of_decide_eq_true (by first | (with_reducible assumption) | assumption)
             have q847 : x16_3 < (t844.length : Int) := of_decide_eq_true (by first | (with_reducible assumption) | assumption)
             obtain ⟨ad847, e847, hx847_0, hx847_1, hx847_2, hx847_3⟩ := at_T57 (Kd.R_reads' HO_14.out).2.2 x16_3 p847 q847
             cases e847
             replace p847 := eq_true p847
             replace q847 := eq_true q847
             have hcz69_0 : wr.cell? ⟨gb825, 0, none⟩ = some (.string a1_0) := (blk_cell BK825.out 0).trans rfl
             have hcz69_1 : wr.cell? ⟨gb825, 1, none⟩ = some (.string a1_1) := (blk_cell BK825.out 1).trans rfl
             have hcz69_2 : wr.cell? ⟨gb825, 2, none⟩ = some (.int .i64 a1_2) := (blk_cell BK825.out 2).trans rfl
             have hcz69_3 : wr.cell? ⟨gb825, 3, none⟩ = some (.int .i64 a1_3) := (blk_cell BK825.out 3).trans rfl
             have hfz69_0 := blk_frozen BK825.out 0
             have hfz69_1 := blk_frozen BK825.out 1
             have hfz69_2 := blk_frozen BK825.out 2
             have hfz69_3 := blk_frozen BK825.out 3
             go_wp2
             repeat (go_quiet (fail); try go_wp2)
             go_roundg k3
             case measure => have := HJ7.out; have := HK2.out; have := HK3.out; omega
             case rel => exact ⟨(true), (wrap64 (x16_3 + 1)), (by first | rfl | (simp; done) | (simp [*]; done)), (by first | rfl | (simp; done) | (simp [*]; done)), H', ⟨by have := HJ7.out; have := HK2.out; have := HK3.out; omega⟩, ⟨by (with_reducible repeat (first | apply Kd.R_alloc | apply Kd.R_drewN | apply Kd.R_drew)); exact HO_14.out⟩, ⟨by (with_reducible repeat (first | refine blk_drewN ?_ _ | refine blk_drew ?_ | refine blk_alloc ?_ _)); exact BK825.out⟩, ⟨by repeat (first | (with_reducible first | exact HB.out | apply below_alloc | apply pw_below_drewN | apply below_drew1 | refine below_set ?_ GE825.out) | exact HB.out)⟩⟩
           ·rw [if_neg c58] at H
            exact absurd H (by simp)
          ·replace c57 := Bool.eq_false_iff.mpr c57
           subst c57
           have H1 : (if 0 ≤ x16_3 then (if (!((((rd_T57 t844 x16_3).f0).toList) == a1_0.toList) || (!((((rd_T57 t844 x16_3).f1).toList) == a1_1.toList) || ((!(((rd_T57 t844 x16_3).f2.f0) == a1_2) || (!(((rd_T57 t844 x16_3).f2.f1) == a1_3)))))) = true then (if ((rd_T57 t844 x16_3).f0).toList = a2.toList then (if ((rd_T57 t844 x16_3).f1).toList = a3.toList then (some false) else (law08_PairWins.l1 k3 a2 a3 x12_2 t844 ((((rd_T57 t844 x16_3).f0).toList) == a1_0.toList && ((((rd_T57 t844 x16_3).f1).toList) == a1_1.toList && ((((rd_T57 t844 x16_3).f2.f0) == a1_2 && (((rd_T57 t844 x16_3).f2.f1) == a1_3))))) (wrap64 (x16_3 + 1)) a1_0 a1_1 a1_2 a1_3)) else (law08_PairWins.l1 k3 a2 a3 x12_2 t844 ((((rd_T57 t844 x16_3).f0).toList) == a1_0.toList && ((((rd_T57 t844 x16_3).f1).toList) == a1_1.toList && ((((rd_T57 t844 x16_3).f2.f0) == a1_2 && (((rd_T57 t844 x16_3).f2.f1) == a1_3))))) (wrap64 (x16_3 + 1)) a1_0 a1_1 a1_2 a1_3)) else (law08_PairWins.l1 k3 a2 a3 x12_2 t844 ((((rd_T57 t844 x16_3).f0).toList) == a1_0.toList && ((((rd_T57 t844 x16_3).f1).toList) == a1_1.toList && ((((rd_T57 t844 x16_3).f2.f0) == a1_2 && (((rd_T57 t844 x16_3).f2.f1) == a1_3))))) (wrap64 (x16_3 + 1)) a1_0 a1_1 a1_2 a1_3)) else (none)) = some r := by rw [if_neg (show ¬ (false = true) by decide)] at H; exact H
           clear H
           have H := H1
           clear H1
           by_cases c70 : 0 ≤ x16_3
           ·rw [if_pos c70] at H
            have c70b0 : decide (0 ≤ x16_3) = true := decide_eq_true c70
            clear c70
            by_cases c71 : (!((((rd_T57 t844 x16_3).f0).toList) == a1_0.toList) || (!((((rd_T57 t844 x16_3).f1).toList) == a1_1.toList) || ((!(((rd_T57 t844 x16_3).f2.f0) == a1_2) || (!(((rd_T57 t844 x16_3).f2.f1) == a1_3)))))) = true
            ·rw [if_pos c71] at H
             have c71b0 : (!((((rd_T57 t844 x16_3).f0).toList) == a1_0.toList) || (!((((rd_T57 t844 x16_3).f1).toList) == a1_1.toList) || ((!(((rd_T57 t844 x16_3).f2.f0) == a1_2) || (!(((rd_T57 t844 x16_3).f2.f1) == a1_3)))))) = true := c71
             clear c71
             by_cases c72 : ((rd_T57 t844 x16_3).f0).toList = a2.toList
             ·rw [if_pos c72] at H
              have c72b0 : (((rd_T57 t844 x16_3).f0).toList == a2.toList) = true := beq_iff_eq.mpr c72
              have c72b1 : (((rd_T57 t844 x16_3).f0).toList != a2.toList) = false := bne_eq_false_iff_eq.mpr c72
              clear c72
              by_cases c73 : ((rd_T57 t844 x16_3).f1).toList = a3.toList
              ·rw [if_pos c73] at H
               have c73b0 : (((rd_T57 t844 x16_3).f1).toList == a3.toList) = true := beq_iff_eq.mpr c73
               have c73b1 : (((rd_T57 t844 x16_3).f1).toList != a3.toList) = false := bne_eq_false_iff_eq.mpr c73
               clear c73
               obtain rfl := Option.some.inj H
               obtain ⟨Ao74, co74, eo74⟩ := Kd.R_slice HO_14.out
               subst eo74
               have p850 : 0 ≤ (x16_3 : Int) := of_decide_eq_true (by first | (with_reducible assumption) | assumption)
               have q850 : x16_3 < (t844.length : Int) := of_decide_eq_true (by first | (with_reducible assumption) | assumption)
               obtain ⟨ad850, e850, hx850_0, hx850_1, hx850_2, hx850_3⟩ := at_T57 (Kd.R_reads' HO_14.out).2.2 x16_3 p850 q850
               cases e850
               replace p850 := eq_true p850
               replace q850 := eq_true q850
               have hcz75_0 : wr.cell? ⟨gb825, 0, none⟩ = some (.string a1_0) := (blk_cell BK825.out 0).trans rfl
               have hcz75_1 : wr.cell? ⟨gb825, 1, none⟩ = some (.string a1_1) := (blk_cell BK825.out 1).trans rfl
               have hcz75_2 : wr.cell? ⟨gb825, 2, none⟩ = some (.int .i64 a1_2) := (blk_cell BK825.out 2).trans rfl
               have hcz75_3 : wr.cell? ⟨gb825, 3, none⟩ = some (.int .i64 a1_3) := (blk_cell BK825.out 3).trans rfl
               have hfz75_0 := blk_frozen BK825.out 0
               have hfz75_1 := blk_frozen BK825.out 1
               have hfz75_2 := blk_frozen BK825.out 2
               have hfz75_3 := blk_frozen BK825.out 3
               have p851 : 0 ≤ (x16_3 : Int) := of_decide_eq_true (by first | (with_reducible assumption) | assumption)
               have q851 : x16_3 < (t844.length : Int) := of_decide_eq_true (by first | (with_reducible assumption) | assumption)
               obtain ⟨ad851, e851, hx851_0, hx851_1, hx851_2, hx851_3⟩ := at_T57 (Kd.R_reads' HO_14.out).2.2 x16_3 p851 q851
               obtain rfl : ad850 = ad851 := (by injection e851)
               replace p851 := eq_true p851
               replace q851 := eq_true q851
               have p852 : 0 ≤ (x16_3 : Int) := of_decide_eq_true (by first | (with_reducible assumption) | assumption)
               have q852 : x16_3 < (t844.length : Int) := of_decide_eq_true (by first | (with_reducible assumption) | assumption)
               obtain ⟨ad852, e852, hx852_0, hx852_1, hx852_2, hx852_3⟩ := at_T57 (Kd.R_reads' HO_14.out).2.2 x16_3 p852 q852
               obtain rfl : ad850 = ad852 := (by injection e852)
               replace p852 := eq_true p852
               replace q852 := eq_true q852
               have p853 : 0 ≤ (x16_3 : Int) := of_decide_eq_true (by first | (with_reducible assumption) | assumption)
               have q853 : x16_3 < (t844.length : Int) := of_decide_eq_true (by first | (with_reducible assumption) | assumption)
               obtain ⟨ad853, e853, hx853_0, hx853_1, hx853_2, hx853_3⟩ := at_T57 (Kd.R_reads' HO_14.out).2.2 x16_3 p853 q853
               obtain rfl : ad850 = ad853 := (by injection e853)
               replace p853 := eq_true p853
               replace q853 := eq_true q853
               go_wp2
               repeat (go_quiet (fail); try go_wp2)
               go_ret
               exact ⟨by first | rfl | (simp [errW_none, errW_some] <;> rfl) | (simp [*, errW_none, errW_some] <;> rfl), by repeat (first | (with_reducible first | exact HB.out | apply below_alloc | apply pw_below_drewN | apply below_drew1 | refine below_set ?_ GE825.out) | exact HB.out)⟩
              ·rw [if_neg c73] at H
               have c73b0 : (((rd_T57 t844 x16_3).f1).toList == a3.toList) = false := beq_eq_false_iff_ne.mpr c73
               have c73b1 : (((rd_T57 t844 x16_3).f1).toList != a3.toList) = true := bne_iff_ne.mpr c73
               have H' := Aside0.mk H
               clear H
               obtain ⟨Ao76, co76, eo76⟩ := Kd.R_slice HO_14.out
               subst eo76
               have p850 : 0 ≤ (x16_3 : Int) := of_decide_eq_true (by first | (with_reducible assumption) | assumption)
               have q850 : x16_3 < (t844.length : Int) := of_decide_eq_true (by first | (with_reducible assumption) | assumption)
               obtain ⟨ad850, e850, hx850_0, hx850_1, hx850_2, hx850_3⟩ := at_T57 (Kd.R_reads' HO_14.out).2.2 x16_3 p850 q850
               cases e850
               replace p850 := eq_true p850
               replace q850 := eq_true q850
               have hcz77_0 : wr.cell? ⟨gb825, 0, none⟩ = some (.string a1_0) := (blk_cell BK825.out 0).trans rfl
               have hcz77_1 : wr.cell? ⟨gb825, 1, none⟩ = some (.string a1_1) := (blk_cell BK825.out 1).trans rfl
               have hcz77_2 : wr.cell? ⟨gb825, 2, none⟩ = some (.int .i64 a1_2) := (blk_cell BK825.out 2).trans rfl
               have hcz77_3 : wr.cell? ⟨gb825, 3, none⟩ = some (.int .i64 a1_3) := (blk_cell BK825.out 3).trans rfl
               have hfz77_0 := blk_frozen BK825.out 0
               have hfz77_1 := blk_frozen BK825.out 1
               have hfz77_2 := blk_frozen BK825.out 2
               have hfz77_3 := blk_frozen BK825.out 3
               have p851 : 0 ≤ (x16_3 : Int) := of_decide_eq_true (by first | (with_reducible assumption) | assumption)
               have q851 : x16_3 < (t844.length : Int) := of_decide_eq_true (by first | (with_reducible assumption) | assumption)
               obtain ⟨ad851, e851, hx851_0, hx851_1, hx851_2, hx851_3⟩ := at_T57 (Kd.R_reads' HO_14.out).2.2 x16_3 p851 q851
               obtain rfl : ad850 = ad851 := (by injection e851)
               replace p851 := eq_true p851
               replace q851 := eq_true q851
               have p852 : 0 ≤ (x16_3 : Int) := of_decide_eq_true (by first | (with_reducible assumption) | assumption)
               have q852 : x16_3 < (t844.length : Int) := of_decide_eq_true (by first | (with_reducible assumption) | assumption)
               obtain ⟨ad852, e852, hx852_0, hx852_1, hx852_2, hx852_3⟩ := at_T57 (Kd.R_reads' HO_14.out).2.2 x16_3 p852 q852
               obtain rfl : ad850 = ad852 := (by injection e852)
               replace p852 := eq_true p852
               replace q852 := eq_true q852
               have p853 : 0 ≤ (x16_3 : Int) := of_decide_eq_true (by first | (with_reducible assumption) | assumption)
               have q853 : x16_3 < (t844.length : Int) := of_decide_eq_true (by first | (with_reducible assumption) | assumption)
               obtain ⟨ad853, e853, hx853_0, hx853_1, hx853_2, hx853_3⟩ := at_T57 (Kd.R_reads' HO_14.out).2.2 x16_3 p853 q853
               obtain rfl : ad850 = ad853 := (by injection e853)
               replace p853 := eq_true p853
               replace q853 := eq_true q853
               go_wp2
               repeat (go_quiet (fail); try go_wp2)
               go_roundg k3
               case measure => have := HJ7.out; have := HK2.out; have := HK3.out; omega
               case rel => exact ⟨(((((rd_T57 t844 x16_3).f0).toList) == a1_0.toList && ((((rd_T57 t844 x16_3).f1).toList) == a1_1.toList && ((((rd_T57 t844 x16_3).f2.f0) == a1_2 && (((rd_T57 t844 x16_3).f2.f1) == a1_3)))))), (wrap64 (x16_3 + 1)), (by first | rfl | (simp; done) | (simp [*]; done)), (by first | rfl | (simp; done) | (simp [*]; done)), H', ⟨by have := HJ7.out; have := HK2.out; have := HK3.out; omega⟩, ⟨by (with_reducible repeat (first | apply Kd.R_alloc | apply Kd.R_drewN | apply Kd.R_drew)); exact HO_14.out⟩, ⟨by (with_reducible repeat (first | refine blk_drewN ?_ _ | refine blk_drew ?_ | refine blk_alloc ?_ _)); exact BK825.out⟩, ⟨by repeat (first | (with_reducible first | exact HB.out | apply below_alloc | apply pw_below_drewN | apply below_drew1 | refine below_set ?_ GE825.out) | exact HB.out)⟩⟩
             ·rw [if_neg c72] at H
              have c72b0 : (((rd_T57 t844 x16_3).f0).toList == a2.toList) = false := beq_eq_false_iff_ne.mpr c72
              have c72b1 : (((rd_T57 t844 x16_3).f0).toList != a2.toList) = true := bne_iff_ne.mpr c72
              have H' := Aside0.mk H
              clear H
              obtain ⟨Ao78, co78, eo78⟩ := Kd.R_slice HO_14.out
              subst eo78
              have p850 : 0 ≤ (x16_3 : Int) := of_decide_eq_true (by first | (with_reducible assumption) | assumption)
              have q850 : x16_3 < (t844.length : Int) := of_decide_eq_true (by first | (with_reducible assumption) | assumption)
              obtain ⟨ad850, e850, hx850_0, hx850_1, hx850_2, hx850_3⟩ := at_T57 (Kd.R_reads' HO_14.out).2.2 x16_3 p850 q850
              cases e850
              replace p850 := eq_true p850
              replace q850 := eq_true q850
              have hcz79_0 : wr.cell? ⟨gb825, 0, none⟩ = some (.string a1_0) := (blk_cell BK825.out 0).trans rfl
              have hcz79_1 : wr.cell? ⟨gb825, 1, none⟩ = some (.string a1_1) := (blk_cell BK825.out 1).trans rfl
              have hcz79_2 : wr.cell? ⟨gb825, 2, none⟩ = some (.int .i64 a1_2) := (blk_cell BK825.out 2).trans rfl
              have hcz79_3 : wr.cell? ⟨gb825, 3, none⟩ = some (.int .i64 a1_3) := (blk_cell BK825.out 3).trans rfl
              have hfz79_0 := blk_frozen BK825.out 0
              have hfz79_1 := blk_frozen BK825.out 1
              have hfz79_2 := blk_frozen BK825.out 2
              have hfz79_3 := blk_frozen BK825.out 3
              have p851 : 0 ≤ (x16_3 : Int) := of_decide_eq_true (by first | (with_reducible assumption) | assumption)
              have q851 : x16_3 < (t844.length : Int) := of_decide_eq_true (by first | (with_reducible assumption) | assumption)
              obtain ⟨ad851, e851, hx851_0, hx851_1, hx851_2, hx851_3⟩ := at_T57 (Kd.R_reads' HO_14.out).2.2 x16_3 p851 q851
              obtain rfl : ad850 = ad851 := (by injection e851)
              replace p851 := eq_true p851
              replace q851 := eq_true q851
              have p852 : 0 ≤ (x16_3 : Int) := of_decide_eq_true (by first | (with_reducible assumption) | assumption)
              have q852 : x16_3 < (t844.length : Int) := of_decide_eq_true (by first | (with_reducible assumption) | assumption)
              obtain ⟨ad852, e852, hx852_0, hx852_1, hx852_2, hx852_3⟩ := at_T57 (Kd.R_reads' HO_14.out).2.2 x16_3 p852 q852
              obtain rfl : ad850 = ad852 := (by injection e852)
              replace p852 := eq_true p852
              replace q852 := eq_true q852
              go_wp2
              repeat (go_quiet (fail); try go_wp2)
              go_roundg k3
              case measure => have := HJ7.out; have := HK2.out; have := HK3.out; omega
              case rel => exact ⟨(((((rd_T57 t844 x16_3).f0).toList) == a1_0.toList && ((((rd_T57 t844 x16_3).f1).toList) == a1_1.toList && ((((rd_T57 t844 x16_3).f2.f0) == a1_2 && (((rd_T57 t844 x16_3).f2.f1) == a1_3)))))), (wrap64 (x16_3 + 1)), (by first | rfl | (simp; done) | (simp [*]; done)), (by first | rfl | (simp; done) | (simp [*]; done)), H', ⟨by have := HJ7.out; have := HK2.out; have := HK3.out; omega⟩, ⟨by (with_reducible repeat (first | apply Kd.R_alloc | apply Kd.R_drewN | apply Kd.R_drew)); exact HO_14.out⟩, ⟨by (with_reducible repeat (first | refine blk_drewN ?_ _ | refine blk_drew ?_ | refine blk_alloc ?_ _)); exact BK825.out⟩, ⟨by repeat (first | (with_reducible first | exact HB.out | apply below_alloc | apply pw_below_drewN | apply below_drew1 | refine below_set ?_ GE825.out) | exact HB.out)⟩⟩
            ·rw [if_neg c71] at H
             have c71b0 : (!((((rd_T57 t844 x16_3).f0).toList) == a1_0.toList) || (!((((rd_T57 t844 x16_3).f1).toList) == a1_1.toList) || ((!(((rd_T57 t844 x16_3).f2.f0) == a1_2) || (!(((rd_T57 t844 x16_3).f2.f1) == a1_3)))))) = false := by simpa using c71
             clear c71
             have H' := Aside0.mk H
             clear H
             obtain ⟨Ao80, co80, eo80⟩ := Kd.R_slice HO_14.out
             subst eo80
             have p850 : 0 ≤ (x16_3 : Int) := of_decide_eq_true (by first | (with_reducible assumption) | assumption)
             have q850 : x16_3 < (t844.length : Int) := of_decide_eq_true (by first | (with_reducible assumption) | assumption)
             obtain ⟨ad850, e850, hx850_0, hx850_1, hx850_2, hx850_3⟩ := at_T57 (Kd.R_reads' HO_14.out).2.2 x16_3 p850 q850
             cases e850
             replace p850 := eq_true p850
             replace q850 := eq_true q850
             have hcz81_0 : wr.cell? ⟨gb825, 0, none⟩ = some (.string a1_0) := (blk_cell BK825.out 0).trans rfl
             have hcz81_1 : wr.cell? ⟨gb825, 1, none⟩ = some (.string a1_1) := (blk_cell BK825.out 1).trans rfl
             have hcz81_2 : wr.cell? ⟨gb825, 2, none⟩ = some (.int .i64 a1_2) := (blk_cell BK825.out 2).trans rfl
             have hcz81_3 : wr.cell? ⟨gb825, 3, none⟩ = some (.int .i64 a1_3) := (blk_cell BK825.out 3).trans rfl
             have hfz81_0 := blk_frozen BK825.out 0
             have hfz81_1 := blk_frozen BK825.out 1
             have hfz81_2 := blk_frozen BK825.out 2
             have hfz81_3 := blk_frozen BK825.out 3
             have p851 : 0 ≤ (x16_3 : Int) := of_decide_eq_true (by first | (with_reducible assumption) | assumption)
             have q851 : x16_3 < (t844.length : Int) := of_decide_eq_true (by first | (with_reducible assumption) | assumption)
             obtain ⟨ad851, e851, hx851_0, hx851_1, hx851_2, hx851_3⟩ := at_T57 (Kd.R_reads' HO_14.out).2.2 x16_3 p851 q851
             obtain rfl : ad850 = ad851 := (by injection e851)
             replace p851 := eq_true p851
             replace q851 := eq_true q851
             go_wp2
             repeat (go_quiet (fail); try go_wp2)
             go_roundg k3
             case measure => have := HJ7.out; have := HK2.out; have := HK3.out; omega
             case rel => exact ⟨(((((rd_T57 t844 x16_3).f0).toList) == a1_0.toList && ((((rd_T57 t844 x16_3).f1).toList) == a1_1.toList && ((((rd_T57 t844 x16_3).f2.f0) == a1_2 && (((rd_T57 t844 x16_3).f2.f1) == a1_3)))))), (wrap64 (x16_3 + 1)), (by first | rfl | (simp; done) | (simp [*]; done)), (by first | rfl | (simp; done) | (simp [*]; done)), H', ⟨by have := HJ7.out; have := HK2.out; have := HK3.out; omega⟩, ⟨by (with_reducible repeat (first | apply Kd.R_alloc | apply Kd.R_drewN | apply Kd.R_drew)); exact HO_14.out⟩, ⟨by (with_reducible repeat (first | refine blk_drewN ?_ _ | refine blk_drew ?_ | refine blk_alloc ?_ _)); exact BK825.out⟩, ⟨by repeat (first | (with_reducible first | exact HB.out | apply below_alloc | apply pw_below_drewN | apply below_drew1 | refine below_set ?_ GE825.out) | exact HB.out)⟩⟩
           ·rw [if_neg c70] at H
            exact absurd H (by simp)
         ·rw [if_neg c56] at H
          have c56b0 : decide (x16_3 < (t844.length : Int)) = false := decide_eq_false c56
          clear c56
          by_cases c82 : a1_0.toList = a2.toList
          ·rw [if_pos c82] at H
           have c82b0 : (a1_0.toList == a2.toList) = true := beq_iff_eq.mpr c82
           have c82b1 : (a1_0.toList != a2.toList) = false := bne_eq_false_iff_eq.mpr c82
           clear c82
           replace H := Option.bind_eq_some_iff.mp H
           obtain ⟨t854, A830, H⟩ := H
           replace H : (if t854 = true then (if x12_2 = true then (some (x15_3 == (!(a1_1.toList == a3.toList)))) else (some (x15_3 == true))) else (some false)) = some r := H
           have A83 := Aside0.mk A830
           clear A830
           by_cases c84 : t854 = true
           ·subst c84
            have H1 : (if x12_2 = true then (some (x15_3 == (!(a1_1.toList == a3.toList)))) else (some (x15_3 == true))) = some r := by rw [if_pos rfl] at H; exact H
            clear H
            have H := H1
            clear H1
            by_cases c85 : x12_2 = true
            ·subst c85
             have H1 : (some (x15_3 == (!(a1_1.toList == a3.toList)))) = some r := by rw [if_pos rfl] at H; exact H
             clear H
             have H := H1
             clear H1
             obtain rfl := Option.some.inj H
             obtain ⟨Ao86, co86, eo86⟩ := Kd.R_slice HO_14.out
             subst eo86
             have hcz87_0 : wr.cell? ⟨gb825, 0, none⟩ = some (.string a1_0) := (blk_cell BK825.out 0).trans rfl
             have hcz87_1 : wr.cell? ⟨gb825, 1, none⟩ = some (.string a1_1) := (blk_cell BK825.out 1).trans rfl
             have hcz87_2 : wr.cell? ⟨gb825, 2, none⟩ = some (.int .i64 a1_2) := (blk_cell BK825.out 2).trans rfl
             have hcz87_3 : wr.cell? ⟨gb825, 3, none⟩ = some (.int .i64 a1_3) := (blk_cell BK825.out 3).trans rfl
             have hfz87_0 := blk_frozen BK825.out 0
             have hfz87_1 := blk_frozen BK825.out 1
             have hfz87_2 := blk_frozen BK825.out 2
             have hfz87_3 := blk_frozen BK825.out 3
             go_wp2_with (first | (go_at_call 60; (with_reducible refine (pair_May.calls k3 _ _ t844 true _ ?side1 ?side2 A83.out).mono ?_); (case side1 => repeat (first | exact (Kd.R_reads' HO_14.out).2.2 | (with_reducible refine Kd.C_alloc ?_ _) | (with_reducible refine Kd.C_drewN ?_ _) | (with_reducible refine Kd.C_drew ?_))); (case side2 => exact (Kd.R_reads' HO_14.out).2.1); rintro e w88 ⟨rfl, hb⟩; have n0_ := Aside0.mk (Kd.R_below (by (with_reducible repeat (first | apply Kd.R_alloc | apply Kd.R_drewN | apply Kd.R_drew)); exact HO_14.out) hb); have n1_ := Aside0.mk (blk_below (g := gb825) (o := .cells #[.string a1_0, .string a1_1, .int .i64 a1_2, .int .i64 a1_3] 57 (0, 0)) (by (with_reducible repeat (first | refine blk_drewN ?_ _ | refine blk_drew ?_ | refine blk_alloc ?_ _)); exact BK825.out) hb); have n2_ := Aside0.mk (below_step (by repeat (first | (with_reducible first | exact HB.out | apply below_alloc | apply pw_below_drewN | apply below_drew1 | refine below_set ?_ GE825.out) | exact HB.out)) hb); clear HO_14; clear BK825; clear HB; have HO_14 := n0_; have BK825 := n1_; have HB := n2_; clear n0_ n1_ n2_; (try clear hb); (try clear hb2); (try clear hk); (try clear hi)))
             repeat (go_quiet (first | (go_at_call 60; (with_reducible refine (pair_May.calls k3 _ _ t844 true _ ?side1 ?side2 A83.out).mono ?_); (case side1 => repeat (first | exact (Kd.R_reads' HO_14.out).2.2 | (with_reducible refine Kd.C_alloc ?_ _) | (with_reducible refine Kd.C_drewN ?_ _) | (with_reducible refine Kd.C_drew ?_))); (case side2 => exact (Kd.R_reads' HO_14.out).2.1); rintro e w88 ⟨rfl, hb⟩; have n0_ := Aside0.mk (Kd.R_below (by (with_reducible repeat (first | apply Kd.R_alloc | apply Kd.R_drewN | apply Kd.R_drew)); exact HO_14.out) hb); have n1_ := Aside0.mk (blk_below (g := gb825) (o := .cells #[.string a1_0, .string a1_1, .int .i64 a1_2, .int .i64 a1_3] 57 (0, 0)) (by (with_reducible repeat (first | refine blk_drewN ?_ _ | refine blk_drew ?_ | refine blk_alloc ?_ _)); exact BK825.out) hb); have n2_ := Aside0.mk (below_step (by repeat (first | (with_reducible first | exact HB.out | apply below_alloc | apply pw_below_drewN | apply below_drew1 | refine below_set ?_ GE825.out) | exact HB.out)) hb); clear HO_14; clear BK825; clear HB; have HO_14 := n0_; have BK825 := n1_; have HB := n2_; clear n0_ n1_ n2_; (try clear hb); (try clear hb2); (try clear hk); (try clear hi))); try go_wp2_with (first | (go_at_call 60; (with_reducible refine (pair_May.calls k3 _ _ t844 true _ ?side1 ?side2 A83.out).mono ?_); (case side1 => repeat (first | exact (Kd.R_reads' HO_14.out).2.2 | (with_reducible refine Kd.C_alloc ?_ _) | (with_reducible refine Kd.C_drewN ?_ _) | (with_reducible refine Kd.C_drew ?_))); (case side2 => exact (Kd.R_reads' HO_14.out).2.1); rintro e w88 ⟨rfl, hb⟩; have n0_ := Aside0.mk (Kd.R_below (by (with_reducible repeat (first | apply Kd.R_alloc | apply Kd.R_drewN | apply Kd.R_drew)); exact HO_14.out) hb); have n1_ := Aside0.mk (blk_below (g := gb825) (o := .cells #[.string a1_0, .string a1_1, .int .i64 a1_2, .int .i64 a1_3] 57 (0, 0)) (by (with_reducible repeat (first | refine blk_drewN ?_ _ | refine blk_drew ?_ | refine blk_alloc ?_ _)); exact BK825.out) hb); have n2_ := Aside0.mk (below_step (by repeat (first | (with_reducible first | exact HB.out | apply below_alloc | apply pw_below_drewN | apply below_drew1 | refine below_set ?_ GE825.out) | exact HB.out)) hb); clear HO_14; clear BK825; clear HB; have HO_14 := n0_; have BK825 := n1_; have HB := n2_; clear n0_ n1_ n2_; (try clear hb); (try clear hb2); (try clear hk); (try clear hi))))
             go_ret
             exact ⟨by first | rfl | (simp [errW_none, errW_some] <;> rfl) | (simp [*, errW_none, errW_some] <;> rfl), by repeat (first | (with_reducible first | exact HB.out | apply below_alloc | apply pw_below_drewN | apply below_drew1 | refine below_set ?_ GE825.out) | exact HB.out)⟩
            ·replace c85 := Bool.eq_false_iff.mpr c85
             subst c85
             have H1 : (some (x15_3 == true)) = some r := by rw [if_neg (show ¬ (false = true) by decide)] at H; exact H
             clear H
             have H := H1
             clear H1
             obtain rfl := Option.some.inj H
             obtain ⟨Ao89, co89, eo89⟩ := Kd.R_slice HO_14.out
             subst eo89
             have hcz90_0 : wr.cell? ⟨gb825, 0, none⟩ = some (.string a1_0) := (blk_cell BK825.out 0).trans rfl
             have hcz90_1 : wr.cell? ⟨gb825, 1, none⟩ = some (.string a1_1) := (blk_cell BK825.out 1).trans rfl
             have hcz90_2 : wr.cell? ⟨gb825, 2, none⟩ = some (.int .i64 a1_2) := (blk_cell BK825.out 2).trans rfl
             have hcz90_3 : wr.cell? ⟨gb825, 3, none⟩ = some (.int .i64 a1_3) := (blk_cell BK825.out 3).trans rfl
             have hfz90_0 := blk_frozen BK825.out 0
             have hfz90_1 := blk_frozen BK825.out 1
             have hfz90_2 := blk_frozen BK825.out 2
             have hfz90_3 := blk_frozen BK825.out 3
             go_wp2_with (first | (go_at_call 60; (with_reducible refine (pair_May.calls k3 _ _ t844 true _ ?side1 ?side2 A83.out).mono ?_); (case side1 => repeat (first | exact (Kd.R_reads' HO_14.out).2.2 | (with_reducible refine Kd.C_alloc ?_ _) | (with_reducible refine Kd.C_drewN ?_ _) | (with_reducible refine Kd.C_drew ?_))); (case side2 => exact (Kd.R_reads' HO_14.out).2.1); rintro e w91 ⟨rfl, hb⟩; have n0_ := Aside0.mk (Kd.R_below (by (with_reducible repeat (first | apply Kd.R_alloc | apply Kd.R_drewN | apply Kd.R_drew)); exact HO_14.out) hb); have n1_ := Aside0.mk (blk_below (g := gb825) (o := .cells #[.string a1_0, .string a1_1, .int .i64 a1_2, .int .i64 a1_3] 57 (0, 0)) (by (with_reducible repeat (first | refine blk_drewN ?_ _ | refine blk_drew ?_ | refine blk_alloc ?_ _)); exact BK825.out) hb); have n2_ := Aside0.mk (below_step (by repeat (first | (with_reducible first | exact HB.out | apply below_alloc | apply pw_below_drewN | apply below_drew1 | refine below_set ?_ GE825.out) | exact HB.out)) hb); clear HO_14; clear BK825; clear HB; have HO_14 := n0_; have BK825 := n1_; have HB := n2_; clear n0_ n1_ n2_; (try clear hb); (try clear hb2); (try clear hk); (try clear hi)))
             repeat (go_quiet (first | (go_at_call 60; (with_reducible refine (pair_May.calls k3 _ _ t844 true _ ?side1 ?side2 A83.out).mono ?_); (case side1 => repeat (first | exact (Kd.R_reads' HO_14.out).2.2 | (with_reducible refine Kd.C_alloc ?_ _) | (with_reducible refine Kd.C_drewN ?_ _) | (with_reducible refine Kd.C_drew ?_))); (case side2 => exact (Kd.R_reads' HO_14.out).2.1); rintro e w91 ⟨rfl, hb⟩; have n0_ := Aside0.mk (Kd.R_below (by (with_reducible repeat (first | apply Kd.R_alloc | apply Kd.R_drewN | apply Kd.R_drew)); exact HO_14.out) hb); have n1_ := Aside0.mk (blk_below (g := gb825) (o := .cells #[.string a1_0, .string a1_1, .int .i64 a1_2, .int .i64 a1_3] 57 (0, 0)) (by (with_reducible repeat (first | refine blk_drewN ?_ _ | refine blk_drew ?_ | refine blk_alloc ?_ _)); exact BK825.out) hb); have n2_ := Aside0.mk (below_step (by repeat (first | (with_reducible first | exact HB.out | apply below_alloc | apply pw_below_drewN | apply below_drew1 | refine below_set ?_ GE825.out) | exact HB.out)) hb); clear HO_14; clear BK825; clear HB; have HO_14 := n0_; have BK825 := n1_; have HB := n2_; clear n0_ n1_ n2_; (try clear hb); (try clear hb2); (try clear hk); (try clear hi))); try go_wp2_with (first | (go_at_call 60; (with_reducible refine (pair_May.calls k3 _ _ t844 true _ ?side1 ?side2 A83.out).mono ?_); (case side1 => repeat (first | exact (Kd.R_reads' HO_14.out).2.2 | (with_reducible refine Kd.C_alloc ?_ _) | (with_reducible refine Kd.C_drewN ?_ _) | (with_reducible refine Kd.C_drew ?_))); (case side2 => exact (Kd.R_reads' HO_14.out).2.1); rintro e w91 ⟨rfl, hb⟩; have n0_ := Aside0.mk (Kd.R_below (by (with_reducible repeat (first | apply Kd.R_alloc | apply Kd.R_drewN | apply Kd.R_drew)); exact HO_14.out) hb); have n1_ := Aside0.mk (blk_below (g := gb825) (o := .cells #[.string a1_0, .string a1_1, .int .i64 a1_2, .int .i64 a1_3] 57 (0, 0)) (by (with_reducible repeat (first | refine blk_drewN ?_ _ | refine blk_drew ?_ | refine blk_alloc ?_ _)); exact BK825.out) hb); have n2_ := Aside0.mk (below_step (by repeat (first | (with_reducible first | exact HB.out | apply below_alloc | apply pw_below_drewN | apply below_drew1 | refine below_set ?_ GE825.out) | exact HB.out)) hb); clear HO_14; clear BK825; clear HB; have HO_14 := n0_; have BK825 := n1_; have HB := n2_; clear n0_ n1_ n2_; (try clear hb); (try clear hb2); (try clear hk); (try clear hi))))
             go_ret
             exact ⟨by first | rfl | (simp [errW_none, errW_some] <;> rfl) | (simp [*, errW_none, errW_some] <;> rfl), by repeat (first | (with_reducible first | exact HB.out | apply below_alloc | apply pw_below_drewN | apply below_drew1 | refine below_set ?_ GE825.out) | exact HB.out)⟩
           ·replace c84 := Bool.eq_false_iff.mpr c84
            subst c84
            have H1 : (some false) = some r := by rw [if_neg (show ¬ (false = true) by decide)] at H; exact H
            clear H
            have H := H1
            clear H1
            obtain rfl := Option.some.inj H
            obtain ⟨Ao92, co92, eo92⟩ := Kd.R_slice HO_14.out
            subst eo92
            have hcz93_0 : wr.cell? ⟨gb825, 0, none⟩ = some (.string a1_0) := (blk_cell BK825.out 0).trans rfl
            have hcz93_1 : wr.cell? ⟨gb825, 1, none⟩ = some (.string a1_1) := (blk_cell BK825.out 1).trans rfl
            have hcz93_2 : wr.cell? ⟨gb825, 2, none⟩ = some (.int .i64 a1_2) := (blk_cell BK825.out 2).trans rfl
            have hcz93_3 : wr.cell? ⟨gb825, 3, none⟩ = some (.int .i64 a1_3) := (blk_cell BK825.out 3).trans rfl
            have hfz93_0 := blk_frozen BK825.out 0
            have hfz93_1 := blk_frozen BK825.out 1
            have hfz93_2 := blk_frozen BK825.out 2
            have hfz93_3 := blk_frozen BK825.out 3
            go_wp2_with (first | (go_at_call 60; (with_reducible refine (pair_May.calls k3 _ _ t844 false _ ?side1 ?side2 A83.out).mono ?_); (case side1 => repeat (first | exact (Kd.R_reads' HO_14.out).2.2 | (with_reducible refine Kd.C_alloc ?_ _) | (with_reducible refine Kd.C_drewN ?_ _) | (with_reducible refine Kd.C_drew ?_))); (case side2 => exact (Kd.R_reads' HO_14.out).2.1); rintro e w94 ⟨rfl, hb⟩; have n0_ := Aside0.mk (Kd.R_below (by (with_reducible repeat (first | apply Kd.R_alloc | apply Kd.R_drewN | apply Kd.R_drew)); exact HO_14.out) hb); have n1_ := Aside0.mk (blk_below (g := gb825) (o := .cells #[.string a1_0, .string a1_1, .int .i64 a1_2, .int .i64 a1_3] 57 (0, 0)) (by (with_reducible repeat (first | refine blk_drewN ?_ _ | refine blk_drew ?_ | refine blk_alloc ?_ _)); exact BK825.out) hb); have n2_ := Aside0.mk (below_step (by repeat (first | (with_reducible first | exact HB.out | apply below_alloc | apply pw_below_drewN | apply below_drew1 | refine below_set ?_ GE825.out) | exact HB.out)) hb); clear HO_14; clear BK825; clear HB; have HO_14 := n0_; have BK825 := n1_; have HB := n2_; clear n0_ n1_ n2_; (try clear hb); (try clear hb2); (try clear hk); (try clear hi)))
            repeat (go_quiet (first | (go_at_call 60; (with_reducible refine (pair_May.calls k3 _ _ t844 false _ ?side1 ?side2 A83.out).mono ?_); (case side1 => repeat (first | exact (Kd.R_reads' HO_14.out).2.2 | (with_reducible refine Kd.C_alloc ?_ _) | (with_reducible refine Kd.C_drewN ?_ _) | (with_reducible refine Kd.C_drew ?_))); (case side2 => exact (Kd.R_reads' HO_14.out).2.1); rintro e w94 ⟨rfl, hb⟩; have n0_ := Aside0.mk (Kd.R_below (by (with_reducible repeat (first | apply Kd.R_alloc | apply Kd.R_drewN | apply Kd.R_drew)); exact HO_14.out) hb); have n1_ := Aside0.mk (blk_below (g := gb825) (o := .cells #[.string a1_0, .string a1_1, .int .i64 a1_2, .int .i64 a1_3] 57 (0, 0)) (by (with_reducible repeat (first | refine blk_drewN ?_ _ | refine blk_drew ?_ | refine blk_alloc ?_ _)); exact BK825.out) hb); have n2_ := Aside0.mk (below_step (by repeat (first | (with_reducible first | exact HB.out | apply below_alloc | apply pw_below_drewN | apply below_drew1 | refine below_set ?_ GE825.out) | exact HB.out)) hb); clear HO_14; clear BK825; clear HB; have HO_14 := n0_; have BK825 := n1_; have HB := n2_; clear n0_ n1_ n2_; (try clear hb); (try clear hb2); (try clear hk); (try clear hi))); try go_wp2_with (first | (go_at_call 60; (with_reducible refine (pair_May.calls k3 _ _ t844 false _ ?side1 ?side2 A83.out).mono ?_); (case side1 => repeat (first | exact (Kd.R_reads' HO_14.out).2.2 | (with_reducible refine Kd.C_alloc ?_ _) | (with_reducible refine Kd.C_drewN ?_ _) | (with_reducible refine Kd.C_drew ?_))); (case side2 => exact (Kd.R_reads' HO_14.out).2.1); rintro e w94 ⟨rfl, hb⟩; have n0_ := Aside0.mk (Kd.R_below (by (with_reducible repeat (first | apply Kd.R_alloc | apply Kd.R_drewN | apply Kd.R_drew)); exact HO_14.out) hb); have n1_ := Aside0.mk (blk_below (g := gb825) (o := .cells #[.string a1_0, .string a1_1, .int .i64 a1_2, .int .i64 a1_3] 57 (0, 0)) (by (with_reducible repeat (first | refine blk_drewN ?_ _ | refine blk_drew ?_ | refine blk_alloc ?_ _)); exact BK825.out) hb); have n2_ := Aside0.mk (below_step (by repeat (first | (with_reducible first | exact HB.out | apply below_alloc | apply pw_below_drewN | apply below_drew1 | refine below_set ?_ GE825.out) | exact HB.out)) hb); clear HO_14; clear BK825; clear HB; have HO_14 := n0_; have BK825 := n1_; have HB := n2_; clear n0_ n1_ n2_; (try clear hb); (try clear hb2); (try clear hk); (try clear hi))))
            go_ret
            exact ⟨by first | rfl | (simp [errW_none, errW_some] <;> rfl) | (simp [*, errW_none, errW_some] <;> rfl), by repeat (first | (with_reducible first | exact HB.out | apply below_alloc | apply pw_below_drewN | apply below_drew1 | refine below_set ?_ GE825.out) | exact HB.out)⟩
          ·rw [if_neg c82] at H
           have c82b0 : (a1_0.toList == a2.toList) = false := beq_eq_false_iff_ne.mpr c82
           have c82b1 : (a1_0.toList != a2.toList) = true := bne_iff_ne.mpr c82
           replace H := Option.bind_eq_some_iff.mp H
           obtain ⟨t855, A950, H⟩ := H
           replace H : (if t855 = true then (if x12_2 = true then (some (x15_3 == (!false))) else (some (x15_3 == true))) else (some false)) = some r := H
           have A95 := Aside0.mk A950
           clear A950
           by_cases c96 : t855 = true
           ·subst c96
            have H1 : (if x12_2 = true then (some (x15_3 == (!false))) else (some (x15_3 == true))) = some r := by rw [if_pos rfl] at H; exact H
            clear H
            have H := H1
            clear H1
            by_cases c97 : x12_2 = true
            ·subst c97
             have H1 : (some (x15_3 == (!false))) = some r := by rw [if_pos rfl] at H; exact H
             clear H
             have H := H1
             clear H1
             obtain rfl := Option.some.inj H
             obtain ⟨Ao98, co98, eo98⟩ := Kd.R_slice HO_14.out
             subst eo98
             have hcz99_0 : wr.cell? ⟨gb825, 0, none⟩ = some (.string a1_0) := (blk_cell BK825.out 0).trans rfl
             have hcz99_1 : wr.cell? ⟨gb825, 1, none⟩ = some (.string a1_1) := (blk_cell BK825.out 1).trans rfl
             have hcz99_2 : wr.cell? ⟨gb825, 2, none⟩ = some (.int .i64 a1_2) := (blk_cell BK825.out 2).trans rfl
             have hcz99_3 : wr.cell? ⟨gb825, 3, none⟩ = some (.int .i64 a1_3) := (blk_cell BK825.out 3).trans rfl
             have hfz99_0 := blk_frozen BK825.out 0
             have hfz99_1 := blk_frozen BK825.out 1
             have hfz99_2 := blk_frozen BK825.out 2
             have hfz99_3 := blk_frozen BK825.out 3
             go_wp2_with (first | (go_at_call 60; (with_reducible refine (pair_May.calls k3 _ _ t844 true _ ?side1 ?side2 A95.out).mono ?_); (case side1 => repeat (first | exact (Kd.R_reads' HO_14.out).2.2 | (with_reducible refine Kd.C_alloc ?_ _) | (with_reducible refine Kd.C_drewN ?_ _) | (with_reducible refine Kd.C_drew ?_))); (case side2 => exact (Kd.R_reads' HO_14.out).2.1); rintro e w100 ⟨rfl, hb⟩; have n0_ := Aside0.mk (Kd.R_below (by (with_reducible repeat (first | apply Kd.R_alloc | apply Kd.R_drewN | apply Kd.R_drew)); exact HO_14.out) hb); have n1_ := Aside0.mk (blk_below (g := gb825) (o := .cells #[.string a1_0, .string a1_1, .int .i64 a1_2, .int .i64 a1_3] 57 (0, 0)) (by (with_reducible repeat (first | refine blk_drewN ?_ _ | refine blk_drew ?_ | refine blk_alloc ?_ _)); exact BK825.out) hb); have n2_ := Aside0.mk (below_step (by repeat (first | (with_reducible first | exact HB.out | apply below_alloc | apply pw_below_drewN | apply below_drew1 | refine below_set ?_ GE825.out) | exact HB.out)) hb); clear HO_14; clear BK825; clear HB; have HO_14 := n0_; have BK825 := n1_; have HB := n2_; clear n0_ n1_ n2_; (try clear hb); (try clear hb2); (try clear hk); (try clear hi)))
             repeat (go_quiet (first | (go_at_call 60; (with_reducible refine (pair_May.calls k3 _ _ t844 true _ ?side1 ?side2 A95.out).mono ?_); (case side1 => repeat (first | exact (Kd.R_reads' HO_14.out).2.2 | (with_reducible refine Kd.C_alloc ?_ _) | (with_reducible refine Kd.C_drewN ?_ _) | (with_reducible refine Kd.C_drew ?_))); (case side2 => exact (Kd.R_reads' HO_14.out).2.1); rintro e w100 ⟨rfl, hb⟩; have n0_ := Aside0.mk (Kd.R_below (by (with_reducible repeat (first | apply Kd.R_alloc | apply Kd.R_drewN | apply Kd.R_drew)); exact HO_14.out) hb); have n1_ := Aside0.mk (blk_below (g := gb825) (o := .cells #[.string a1_0, .string a1_1, .int .i64 a1_2, .int .i64 a1_3] 57 (0, 0)) (by (with_reducible repeat (first | refine blk_drewN ?_ _ | refine blk_drew ?_ | refine blk_alloc ?_ _)); exact BK825.out) hb); have n2_ := Aside0.mk (below_step (by repeat (first | (with_reducible first | exact HB.out | apply below_alloc | apply pw_below_drewN | apply below_drew1 | refine below_set ?_ GE825.out) | exact HB.out)) hb); clear HO_14; clear BK825; clear HB; have HO_14 := n0_; have BK825 := n1_; have HB := n2_; clear n0_ n1_ n2_; (try clear hb); (try clear hb2); (try clear hk); (try clear hi))); try go_wp2_with (first | (go_at_call 60; (with_reducible refine (pair_May.calls k3 _ _ t844 true _ ?side1 ?side2 A95.out).mono ?_); (case side1 => repeat (first | exact (Kd.R_reads' HO_14.out).2.2 | (with_reducible refine Kd.C_alloc ?_ _) | (with_reducible refine Kd.C_drewN ?_ _) | (with_reducible refine Kd.C_drew ?_))); (case side2 => exact (Kd.R_reads' HO_14.out).2.1); rintro e w100 ⟨rfl, hb⟩; have n0_ := Aside0.mk (Kd.R_below (by (with_reducible repeat (first | apply Kd.R_alloc | apply Kd.R_drewN | apply Kd.R_drew)); exact HO_14.out) hb); have n1_ := Aside0.mk (blk_below (g := gb825) (o := .cells #[.string a1_0, .string a1_1, .int .i64 a1_2, .int .i64 a1_3] 57 (0, 0)) (by (with_reducible repeat (first | refine blk_drewN ?_ _ | refine blk_drew ?_ | refine blk_alloc ?_ _)); exact BK825.out) hb); have n2_ := Aside0.mk (below_step (by repeat (first | (with_reducible first | exact HB.out | apply below_alloc | apply pw_below_drewN | apply below_drew1 | refine below_set ?_ GE825.out) | exact HB.out)) hb); clear HO_14; clear BK825; clear HB; have HO_14 := n0_; have BK825 := n1_; have HB := n2_; clear n0_ n1_ n2_; (try clear hb); (try clear hb2); (try clear hk); (try clear hi))))
             go_ret
             exact ⟨by first | rfl | (simp [errW_none, errW_some] <;> rfl) | (simp [*, errW_none, errW_some] <;> rfl), by repeat (first | (with_reducible first | exact HB.out | apply below_alloc | apply pw_below_drewN | apply below_drew1 | refine below_set ?_ GE825.out) | exact HB.out)⟩
            ·replace c97 := Bool.eq_false_iff.mpr c97
             subst c97
             have H1 : (some (x15_3 == true)) = some r := by rw [if_neg (show ¬ (false = true) by decide)] at H; exact H
             clear H
             have H := H1
             clear H1
             obtain rfl := Option.some.inj H
             obtain ⟨Ao101, co101, eo101⟩ := Kd.R_slice HO_14.out
             subst eo101
             have hcz102_0 : wr.cell? ⟨gb825, 0, none⟩ = some (.string a1_0) := (blk_cell BK825.out 0).trans rfl
             have hcz102_1 : wr.cell? ⟨gb825, 1, none⟩ = some (.string a1_1) := (blk_cell BK825.out 1).trans rfl
             have hcz102_2 : wr.cell? ⟨gb825, 2, none⟩ = some (.int .i64 a1_2) := (blk_cell BK825.out 2).trans rfl
             have hcz102_3 : wr.cell? ⟨gb825, 3, none⟩ = some (.int .i64 a1_3) := (blk_cell BK825.out 3).trans rfl
             have hfz102_0 := blk_frozen BK825.out 0
             have hfz102_1 := blk_frozen BK825.out 1
             have hfz102_2 := blk_frozen BK825.out 2
             have hfz102_3 := blk_frozen BK825.out 3
             go_wp2_with (first | (go_at_call 60; (with_reducible refine (pair_May.calls k3 _ _ t844 true _ ?side1 ?side2 A95.out).mono ?_); (case side1 => repeat (first | exact (Kd.R_reads' HO_14.out).2.2 | (with_reducible refine Kd.C_alloc ?_ _) | (with_reducible refine Kd.C_drewN ?_ _) | (with_reducible refine Kd.C_drew ?_))); (case side2 => exact (Kd.R_reads' HO_14.out).2.1); rintro e w103 ⟨rfl, hb⟩; have n0_ := Aside0.mk (Kd.R_below (by (with_reducible repeat (first | apply Kd.R_alloc | apply Kd.R_drewN | apply Kd.R_drew)); exact HO_14.out) hb); have n1_ := Aside0.mk (blk_below (g := gb825) (o := .cells #[.string a1_0, .string a1_1, .int .i64 a1_2, .int .i64 a1_3] 57 (0, 0)) (by (with_reducible repeat (first | refine blk_drewN ?_ _ | refine blk_drew ?_ | refine blk_alloc ?_ _)); exact BK825.out) hb); have n2_ := Aside0.mk (below_step (by repeat (first | (with_reducible first | exact HB.out | apply below_alloc | apply pw_below_drewN | apply below_drew1 | refine below_set ?_ GE825.out) | exact HB.out)) hb); clear HO_14; clear BK825; clear HB; have HO_14 := n0_; have BK825 := n1_; have HB := n2_; clear n0_ n1_ n2_; (try clear hb); (try clear hb2); (try clear hk); (try clear hi)))
             repeat (go_quiet (first | (go_at_call 60; (with_reducible refine (pair_May.calls k3 _ _ t844 true _ ?side1 ?side2 A95.out).mono ?_); (case side1 => repeat (first | exact (Kd.R_reads' HO_14.out).2.2 | (with_reducible refine Kd.C_alloc ?_ _) | (with_reducible refine Kd.C_drewN ?_ _) | (with_reducible refine Kd.C_drew ?_))); (case side2 => exact (Kd.R_reads' HO_14.out).2.1); rintro e w103 ⟨rfl, hb⟩; have n0_ := Aside0.mk (Kd.R_below (by (with_reducible repeat (first | apply Kd.R_alloc | apply Kd.R_drewN | apply Kd.R_drew)); exact HO_14.out) hb); have n1_ := Aside0.mk (blk_below (g := gb825) (o := .cells #[.string a1_0, .string a1_1, .int .i64 a1_2, .int .i64 a1_3] 57 (0, 0)) (by (with_reducible repeat (first | refine blk_drewN ?_ _ | refine blk_drew ?_ | refine blk_alloc ?_ _)); exact BK825.out) hb); have n2_ := Aside0.mk (below_step (by repeat (first | (with_reducible first | exact HB.out | apply below_alloc | apply pw_below_drewN | apply below_drew1 | refine below_set ?_ GE825.out) | exact HB.out)) hb); clear HO_14; clear BK825; clear HB; have HO_14 := n0_; have BK825 := n1_; have HB := n2_; clear n0_ n1_ n2_; (try clear hb); (try clear hb2); (try clear hk); (try clear hi))); try go_wp2_with (first | (go_at_call 60; (with_reducible refine (pair_May.calls k3 _ _ t844 true _ ?side1 ?side2 A95.out).mono ?_); (case side1 => repeat (first | exact (Kd.R_reads' HO_14.out).2.2 | (with_reducible refine Kd.C_alloc ?_ _) | (with_reducible refine Kd.C_drewN ?_ _) | (with_reducible refine Kd.C_drew ?_))); (case side2 => exact (Kd.R_reads' HO_14.out).2.1); rintro e w103 ⟨rfl, hb⟩; have n0_ := Aside0.mk (Kd.R_below (by (with_reducible repeat (first | apply Kd.R_alloc | apply Kd.R_drewN | apply Kd.R_drew)); exact HO_14.out) hb); have n1_ := Aside0.mk (blk_below (g := gb825) (o := .cells #[.string a1_0, .string a1_1, .int .i64 a1_2, .int .i64 a1_3] 57 (0, 0)) (by (with_reducible repeat (first | refine blk_drewN ?_ _ | refine blk_drew ?_ | refine blk_alloc ?_ _)); exact BK825.out) hb); have n2_ := Aside0.mk (below_step (by repeat (first | (with_reducible first | exact HB.out | apply below_alloc | apply pw_below_drewN | apply below_drew1 | refine below_set ?_ GE825.out) | exact HB.out)) hb); clear HO_14; clear BK825; clear HB; have HO_14 := n0_; have BK825 := n1_; have HB := n2_; clear n0_ n1_ n2_; (try clear hb); (try clear hb2); (try clear hk); (try clear hi))))
             go_ret
             exact ⟨by first | rfl | (simp [errW_none, errW_some] <;> rfl) | (simp [*, errW_none, errW_some] <;> rfl), by repeat (first | (with_reducible first | exact HB.out | apply below_alloc | apply pw_below_drewN | apply below_drew1 | refine below_set ?_ GE825.out) | exact HB.out)⟩
           ·replace c96 := Bool.eq_false_iff.mpr c96
            subst c96
            have H1 : (some false) = some r := by rw [if_neg (show ¬ (false = true) by decide)] at H; exact H
            clear H
            have H := H1
            clear H1
            obtain rfl := Option.some.inj H
            obtain ⟨Ao104, co104, eo104⟩ := Kd.R_slice HO_14.out
            subst eo104
            have hcz105_0 : wr.cell? ⟨gb825, 0, none⟩ = some (.string a1_0) := (blk_cell BK825.out 0).trans rfl
            have hcz105_1 : wr.cell? ⟨gb825, 1, none⟩ = some (.string a1_1) := (blk_cell BK825.out 1).trans rfl
            have hcz105_2 : wr.cell? ⟨gb825, 2, none⟩ = some (.int .i64 a1_2) := (blk_cell BK825.out 2).trans rfl
            have hcz105_3 : wr.cell? ⟨gb825, 3, none⟩ = some (.int .i64 a1_3) := (blk_cell BK825.out 3).trans rfl
            have hfz105_0 := blk_frozen BK825.out 0
            have hfz105_1 := blk_frozen BK825.out 1
            have hfz105_2 := blk_frozen BK825.out 2
            have hfz105_3 := blk_frozen BK825.out 3
            go_wp2_with (first | (go_at_call 60; (with_reducible refine (pair_May.calls k3 _ _ t844 false _ ?side1 ?side2 A95.out).mono ?_); (case side1 => repeat (first | exact (Kd.R_reads' HO_14.out).2.2 | (with_reducible refine Kd.C_alloc ?_ _) | (with_reducible refine Kd.C_drewN ?_ _) | (with_reducible refine Kd.C_drew ?_))); (case side2 => exact (Kd.R_reads' HO_14.out).2.1); rintro e w106 ⟨rfl, hb⟩; have n0_ := Aside0.mk (Kd.R_below (by (with_reducible repeat (first | apply Kd.R_alloc | apply Kd.R_drewN | apply Kd.R_drew)); exact HO_14.out) hb); have n1_ := Aside0.mk (blk_below (g := gb825) (o := .cells #[.string a1_0, .string a1_1, .int .i64 a1_2, .int .i64 a1_3] 57 (0, 0)) (by (with_reducible repeat (first | refine blk_drewN ?_ _ | refine blk_drew ?_ | refine blk_alloc ?_ _)); exact BK825.out) hb); have n2_ := Aside0.mk (below_step (by repeat (first | (with_reducible first | exact HB.out | apply below_alloc | apply pw_below_drewN | apply below_drew1 | refine below_set ?_ GE825.out) | exact HB.out)) hb); clear HO_14; clear BK825; clear HB; have HO_14 := n0_; have BK825 := n1_; have HB := n2_; clear n0_ n1_ n2_; (try clear hb); (try clear hb2); (try clear hk); (try clear hi)))
            repeat (go_quiet (first | (go_at_call 60; (with_reducible refine (pair_May.calls k3 _ _ t844 false _ ?side1 ?side2 A95.out).mono ?_); (case side1 => repeat (first | exact (Kd.R_reads' HO_14.out).2.2 | (with_reducible refine Kd.C_alloc ?_ _) | (with_reducible refine Kd.C_drewN ?_ _) | (with_reducible refine Kd.C_drew ?_))); (case side2 => exact (Kd.R_reads' HO_14.out).2.1); rintro e w106 ⟨rfl, hb⟩; have n0_ := Aside0.mk (Kd.R_below (by (with_reducible repeat (first | apply Kd.R_alloc | apply Kd.R_drewN | apply Kd.R_drew)); exact HO_14.out) hb); have n1_ := Aside0.mk (blk_below (g := gb825) (o := .cells #[.string a1_0, .string a1_1, .int .i64 a1_2, .int .i64 a1_3] 57 (0, 0)) (by (with_reducible repeat (first | refine blk_drewN ?_ _ | refine blk_drew ?_ | refine blk_alloc ?_ _)); exact BK825.out) hb); have n2_ := Aside0.mk (below_step (by repeat (first | (with_reducible first | exact HB.out | apply below_alloc | apply pw_below_drewN | apply below_drew1 | refine below_set ?_ GE825.out) | exact HB.out)) hb); clear HO_14; clear BK825; clear HB; have HO_14 := n0_; have BK825 := n1_; have HB := n2_; clear n0_ n1_ n2_; (try clear hb); (try clear hb2); (try clear hk); (try clear hi))); try go_wp2_with (first | (go_at_call 60; (with_reducible refine (pair_May.calls k3 _ _ t844 false _ ?side1 ?side2 A95.out).mono ?_); (case side1 => repeat (first | exact (Kd.R_reads' HO_14.out).2.2 | (with_reducible refine Kd.C_alloc ?_ _) | (with_reducible refine Kd.C_drewN ?_ _) | (with_reducible refine Kd.C_drew ?_))); (case side2 => exact (Kd.R_reads' HO_14.out).2.1); rintro e w106 ⟨rfl, hb⟩; have n0_ := Aside0.mk (Kd.R_below (by (with_reducible repeat (first | apply Kd.R_alloc | apply Kd.R_drewN | apply Kd.R_drew)); exact HO_14.out) hb); have n1_ := Aside0.mk (blk_below (g := gb825) (o := .cells #[.string a1_0, .string a1_1, .int .i64 a1_2, .int .i64 a1_3] 57 (0, 0)) (by (with_reducible repeat (first | refine blk_drewN ?_ _ | refine blk_drew ?_ | refine blk_alloc ?_ _)); exact BK825.out) hb); have n2_ := Aside0.mk (below_step (by repeat (first | (with_reducible first | exact HB.out | apply below_alloc | apply pw_below_drewN | apply below_drew1 | refine below_set ?_ GE825.out) | exact HB.out)) hb); clear HO_14; clear BK825; clear HB; have HO_14 := n0_; have BK825 := n1_; have HB := n2_; clear n0_ n1_ n2_; (try clear hb); (try clear hb2); (try clear hk); (try clear hi))))
            go_ret
            exact ⟨by first | rfl | (simp [errW_none, errW_some] <;> rfl) | (simp [*, errW_none, errW_some] <;> rfl), by repeat (first | (with_reducible first | exact HB.out | apply below_alloc | apply pw_below_drewN | apply below_drew1 | refine below_set ?_ GE825.out) | exact HB.out)⟩

end Go.Proofs.Ytannmdngejdjkaa.L
