-- PRINTED by print.py (a twelfth state) out of the translation. Not trusted: Lean checks it.
import Derived.Test.YtannmdngejdjkaaLSq
import Derived.Test.YtannmdngejdjkaaLx0
import Derived.Test.YtannmdngejdjkaaLx3
import Derived.Test.YtannmdngejdjkaaLx32
import Derived.Test.YtannmdngejdjkaaLx33
import Derived.Test.YtannmdngejdjkaaLHPairAll
namespace Go.Proofs.Ytannmdngejdjkaa.L
open Go.RowKit Go.Proofs.YtannmdngejdjkaaW.PrintWords Go.Proofs.YtannmdngejdjkaaW.PrintLast Go.Proofs.YtannmdngejdjkaaW.PrintMore
attribute [local go_sem] max2_int min2_int max_two min_two max_three min_three max_four min_four   -- for this text's walks alone
set_option linter.unusedVariables false
set_option linter.unusedSimpArgs false

attribute [local go_sem high] eqA57
/-! ### law08_awake: function 45 -/
def law08_awake.f (k : Nat)  : Option (Bool) := (some (([(⟨(⟨#[97]⟩ : ByteArray), (⟨#[120]⟩ : ByteArray), (⟨0, 1⟩ : S24)⟩ : S57)] : List (S57)) : List (S57))).bind fun y650 => ((pair_Del.f y650 (⟨#[97]⟩ : ByteArray) (⟨#[120]⟩ : ByteArray)).bind fun t653 => ((pair_Add.f y650 (⟨#[97]⟩ : ByteArray) (⟨#[120]⟩ : ByteArray) 0 2).bind fun t656 => ((pair_Merge.f y650 t653 t656).bind fun t659 => (if (t659.length : Int) = 1 then (if 0 < (t659.length : Int) then (if ((((rd_T57 t659 0).f0).toList) == ([97] : List UInt8) && ((((rd_T57 t659 0).f1).toList) == ([120] : List UInt8) && ((((rd_T57 t659 0).f2.f0) == 0 && (((rd_T57 t659 0).f2.f1) == 2))))) = true then ((pair_May.f k t659).bind fun t663 => (if t663 = true then ((pair_Less.f k (⟨#[97]⟩ : ByteArray) (⟨#[120]⟩ : ByteArray) 0 1 (⟨#[97]⟩ : ByteArray) (⟨#[120]⟩ : ByteArray) 0 2).bind fun t664 => (if t664 = true then ((pair_Elems.f (([(⟨(⟨#[97]⟩ : ByteArray), (⟨#[120]⟩ : ByteArray), (⟨0, 1⟩ : S24)⟩ : S57), (⟨(⟨#[97]⟩ : ByteArray), (⟨#[120]⟩ : ByteArray), (⟨0, 2⟩ : S24)⟩ : S57)] : List (S57))) (⟨#[97]⟩ : ByteArray)).bind fun t668 => (some ((t668.length : Int) == 1))) else (some false))) else (some false))) else (some false)) else (none)) else (some false)))))
theorem law08_awake.mono : ∀ k, LeO (law08_awake.f k ) (law08_awake.f (k + 1) ) := by
 intro  k
 unfold law08_awake.f
 repeat' first
   | (with_reducible exact pair_Less.mono _ _ _ _ _ _ _ _ _)
   | (with_reducible exact pair_May.mono _ _)
   | (with_reducible exact LeO.refl _)
   | (with_reducible exact LeO.none _)
   | (with_reducible refine LeO.ite ?_ ?_)
   | (with_reducible refine LeO.bind ?_ (fun _ => ?_))
   | exact pair_Less.mono _ _ _ _ _ _ _ _ _
   | exact pair_May.mono _ _
   | exact LeO.none _
   | refine LeO.ite ?_ ?_
   | refine LeO.bind ?_ (fun _ => ?_)
def law08_awake.T4 : Bool × List (List Nat × List Nat) := (true, [([], []), ([], []), ([1], [1]), ([], []), ([], []), ([3, 4, 2], [3, 4]), ([0, 2, 5, 5], [0, 2, 5]), ([6, 6, 0, 1, 2, 3, 4, 5, 6], [6])])
def law08_awake.B4 : List Nat := [0, 0, 2, 0, 0, 30, 63, 127]
theorem law08_awake.tab4 : rtab .any (opsOf Try.f45 4) = law08_awake.T4 := by kernel_rfl
theorem law08_awake.bits4 : waitsOk law08_awake.T4.2 law08_awake.B4 = true := by kernel_rfl
def law08_awake.T5 : Bool × List (List Nat × List Nat) := (true, [([], []), ([0], [0]), ([1], [1]), ([2], [2]), ([3], [3]), ([4, 3], [3, 4]), ([5, 3], [3, 5]), ([3], [3]), ([6, 7, 3], [3, 6, 7]), ([3, 8], [3, 8]), ([9, 3], [9]), ([10], [10]), ([11, 10, 10], [10, 11]), ([10, 12], [10, 12]), ([13, 12], [13]), ([14], [14]), ([14], [14]), ([15, 16, 14, 14], [14, 15, 16]), ([14, 17], [14, 17]), ([18, 17], [18]), ([19], [19]), ([19], [19]), ([20, 21, 19], [19, 20, 21]), ([22, 19, 19], [19, 22]), ([23, 19], [19, 23]), ([24, 19], [19, 24]), ([19, 25], [19, 25]), ([26, 23, 0, 1, 2, 3, 4, 5, 6, 7, 8, 9, 10, 11, 12, 13, 14, 15, 16, 17, 18, 19, 20, 21, 22, 23, 24, 25, 26], [26])])
def law08_awake.B5 : List Nat := [0, 1, 3, 7, 15, 31, 63, 15, 255, 511, 1023, 2047, 4095, 8191, 16383, 32767, 32767, 131071, 262143, 524287, 1048575, 1048575, 4194303, 8388607, 16777215, 33554431, 67108863, 134217727]
theorem law08_awake.tab5 : rtab .any (opsOf Try.f45 5) = law08_awake.T5 := by kernel_rfl
theorem law08_awake.bits5 : waitsOk law08_awake.T5.2 law08_awake.B5 = true := by kernel_rfl
set_option maxHeartbeats 8000000 in
set_option maxRecDepth 100000 in
theorem law08_awake.calls (k : Nat)  (r : Bool) (w : World) (h : law08_awake.f k  = some r) :
  Calls Try.prog 45 #[] w fun e w' => e = .returned (.bool r) ∧ Below w.heap.size w w' := by
 have hu24 := Try.underlying24
 have hu57 := Try.underlying57
 have HB := Aside0.mk (Below.refl w.heap.size w)
 have H : ((some (([(⟨(⟨#[97]⟩ : ByteArray), (⟨#[120]⟩ : ByteArray), (⟨0, 1⟩ : S24)⟩ : S57)] : List (S57)) : List (S57))).bind fun y650 => ((pair_Del.f y650 (⟨#[97]⟩ : ByteArray) (⟨#[120]⟩ : ByteArray)).bind fun t653 => ((pair_Add.f y650 (⟨#[97]⟩ : ByteArray) (⟨#[120]⟩ : ByteArray) 0 2).bind fun t656 => ((pair_Merge.f y650 t653 t656).bind fun t659 => (if (t659.length : Int) = 1 then (if 0 < (t659.length : Int) then (if ((((rd_T57 t659 0).f0).toList) == ([97] : List UInt8) && ((((rd_T57 t659 0).f1).toList) == ([120] : List UInt8) && ((((rd_T57 t659 0).f2.f0) == 0 && (((rd_T57 t659 0).f2.f1) == 2))))) = true then ((pair_May.f k t659).bind fun t663 => (if t663 = true then ((pair_Less.f k (⟨#[97]⟩ : ByteArray) (⟨#[120]⟩ : ByteArray) 0 1 (⟨#[97]⟩ : ByteArray) (⟨#[120]⟩ : ByteArray) 0 2).bind fun t664 => (if t664 = true then ((pair_Elems.f (([(⟨(⟨#[97]⟩ : ByteArray), (⟨#[120]⟩ : ByteArray), (⟨0, 1⟩ : S24)⟩ : S57), (⟨(⟨#[97]⟩ : ByteArray), (⟨#[120]⟩ : ByteArray), (⟨0, 2⟩ : S24)⟩ : S57)] : List (S57))) (⟨#[97]⟩ : ByteArray)).bind fun t668 => (some ((t668.length : Int) == 1))) else (some false))) else (some false))) else (some false)) else (none)) else (some false)))))) = some r := h
 clear h
 obtain ⟨y650, hy650⟩ : ∃ y_ : List (S57), y_ = (([(⟨(⟨#[97]⟩ : ByteArray), (⟨#[120]⟩ : ByteArray), (⟨0, 1⟩ : S24)⟩ : S57)] : List (S57))) := ⟨_, rfl⟩
 replace H : ((pair_Del.f y650 (⟨#[97]⟩ : ByteArray) (⟨#[120]⟩ : ByteArray)).bind fun t653 => ((pair_Add.f y650 (⟨#[97]⟩ : ByteArray) (⟨#[120]⟩ : ByteArray) 0 2).bind fun t656 => ((pair_Merge.f y650 t653 t656).bind fun t659 => (if (t659.length : Int) = 1 then (if 0 < (t659.length : Int) then (if ((((rd_T57 t659 0).f0).toList) == ([97] : List UInt8) && ((((rd_T57 t659 0).f1).toList) == ([120] : List UInt8) && ((((rd_T57 t659 0).f2.f0) == 0 && (((rd_T57 t659 0).f2.f1) == 2))))) = true then ((pair_May.f k t659).bind fun t663 => (if t663 = true then ((pair_Less.f k (⟨#[97]⟩ : ByteArray) (⟨#[120]⟩ : ByteArray) 0 1 (⟨#[97]⟩ : ByteArray) (⟨#[120]⟩ : ByteArray) 0 2).bind fun t664 => (if t664 = true then ((pair_Elems.f (([(⟨(⟨#[97]⟩ : ByteArray), (⟨#[120]⟩ : ByteArray), (⟨0, 1⟩ : S24)⟩ : S57), (⟨(⟨#[97]⟩ : ByteArray), (⟨#[120]⟩ : ByteArray), (⟨0, 2⟩ : S24)⟩ : S57)] : List (S57))) (⟨#[97]⟩ : ByteArray)).bind fun t668 => (some ((t668.length : Int) == 1))) else (some false))) else (some false))) else (some false)) else (none)) else (some false))))) = some r := by first | (rw [hy650]; with_reducible exact H) | (have H2_ := (Option.bind_some _ _).symm.trans H; rw [hy650]; with_reducible exact H2_) | (have H2_ := (Option.bind_some _ _).symm.trans H; with_reducible exact H2_) | with_reducible exact H | (rw [hy650]; exact H) | exact H
 have Ny650 := Aside0.mk hy650
 clear hy650
 replace H := Option.bind_eq_some_iff.mp H
 obtain ⟨t653, A10, H⟩ := H
 replace H : ((pair_Add.f y650 (⟨#[97]⟩ : ByteArray) (⟨#[120]⟩ : ByteArray) 0 2).bind fun t656 => ((pair_Merge.f y650 t653 t656).bind fun t659 => (if (t659.length : Int) = 1 then (if 0 < (t659.length : Int) then (if ((((rd_T57 t659 0).f0).toList) == ([97] : List UInt8) && ((((rd_T57 t659 0).f1).toList) == ([120] : List UInt8) && ((((rd_T57 t659 0).f2.f0) == 0 && (((rd_T57 t659 0).f2.f1) == 2))))) = true then ((pair_May.f k t659).bind fun t663 => (if t663 = true then ((pair_Less.f k (⟨#[97]⟩ : ByteArray) (⟨#[120]⟩ : ByteArray) 0 1 (⟨#[97]⟩ : ByteArray) (⟨#[120]⟩ : ByteArray) 0 2).bind fun t664 => (if t664 = true then ((pair_Elems.f (([(⟨(⟨#[97]⟩ : ByteArray), (⟨#[120]⟩ : ByteArray), (⟨0, 1⟩ : S24)⟩ : S57), (⟨(⟨#[97]⟩ : ByteArray), (⟨#[120]⟩ : ByteArray), (⟨0, 2⟩ : S24)⟩ : S57)] : List (S57))) (⟨#[97]⟩ : ByteArray)).bind fun t668 => (some ((t668.length : Int) == 1))) else (some false))) else (some false))) else (some false)) else (none)) else (some false)))) = some r := H
 have A1 := Aside0.mk A10
 clear A10
 replace H := Option.bind_eq_some_iff.mp H
 obtain ⟨t656, A20, H⟩ := H
 replace H : ((pair_Merge.f y650 t653 t656).bind fun t659 => (if (t659.length : Int) = 1 then (if 0 < (t659.length : Int) then (if ((((rd_T57 t659 0).f0).toList) == ([97] : List UInt8) && ((((rd_T57 t659 0).f1).toList) == ([120] : List UInt8) && ((((rd_T57 t659 0).f2.f0) == 0 && (((rd_T57 t659 0).f2.f1) == 2))))) = true then ((pair_May.f k t659).bind fun t663 => (if t663 = true then ((pair_Less.f k (⟨#[97]⟩ : ByteArray) (⟨#[120]⟩ : ByteArray) 0 1 (⟨#[97]⟩ : ByteArray) (⟨#[120]⟩ : ByteArray) 0 2).bind fun t664 => (if t664 = true then ((pair_Elems.f (([(⟨(⟨#[97]⟩ : ByteArray), (⟨#[120]⟩ : ByteArray), (⟨0, 1⟩ : S24)⟩ : S57), (⟨(⟨#[97]⟩ : ByteArray), (⟨#[120]⟩ : ByteArray), (⟨0, 2⟩ : S24)⟩ : S57)] : List (S57))) (⟨#[97]⟩ : ByteArray)).bind fun t668 => (some ((t668.length : Int) == 1))) else (some false))) else (some false))) else (some false)) else (none)) else (some false))) = some r := H
 have A2 := Aside0.mk A20
 clear A20
 replace H := Option.bind_eq_some_iff.mp H
 obtain ⟨t659, A30, H⟩ := H
 replace H : (if (t659.length : Int) = 1 then (if 0 < (t659.length : Int) then (if ((((rd_T57 t659 0).f0).toList) == ([97] : List UInt8) && ((((rd_T57 t659 0).f1).toList) == ([120] : List UInt8) && ((((rd_T57 t659 0).f2.f0) == 0 && (((rd_T57 t659 0).f2.f1) == 2))))) = true then ((pair_May.f k t659).bind fun t663 => (if t663 = true then ((pair_Less.f k (⟨#[97]⟩ : ByteArray) (⟨#[120]⟩ : ByteArray) 0 1 (⟨#[97]⟩ : ByteArray) (⟨#[120]⟩ : ByteArray) 0 2).bind fun t664 => (if t664 = true then ((pair_Elems.f (([(⟨(⟨#[97]⟩ : ByteArray), (⟨#[120]⟩ : ByteArray), (⟨0, 1⟩ : S24)⟩ : S57), (⟨(⟨#[97]⟩ : ByteArray), (⟨#[120]⟩ : ByteArray), (⟨0, 2⟩ : S24)⟩ : S57)] : List (S57))) (⟨#[97]⟩ : ByteArray)).bind fun t668 => (some ((t668.length : Int) == 1))) else (some false))) else (some false))) else (some false)) else (none)) else (some false)) = some r := H
 have A3 := Aside0.mk A30
 clear A30
 by_cases c4 : (t659.length : Int) = 1
 ·rw [if_pos c4] at H
  have c4b0 : ((t659.length : Int) == 1) = true := beq_iff_eq.mpr c4
  have c4b1 : ((t659.length : Int) != 1) = false := bne_eq_false_iff_eq.mpr c4
  clear c4
  by_cases c5 : 0 < (t659.length : Int)
  ·rw [if_pos c5] at H
   have c5b0 : decide (0 < (t659.length : Int)) = true := decide_eq_true c5
   have c5b1 : decide (0 < t659.length) = true := decide_eq_true (by omega)
   clear c5
   by_cases c6 : ((((rd_T57 t659 0).f0).toList) == ([97] : List UInt8) && ((((rd_T57 t659 0).f1).toList) == ([120] : List UInt8) && ((((rd_T57 t659 0).f2.f0) == 0 && (((rd_T57 t659 0).f2.f1) == 2))))) = true
   ·rw [if_pos c6] at H
    have c6b0 : ((((rd_T57 t659 0).f0).toList) == ([97] : List UInt8) && ((((rd_T57 t659 0).f1).toList) == ([120] : List UInt8) && ((((rd_T57 t659 0).f2.f0) == 0 && (((rd_T57 t659 0).f2.f1) == 2))))) = true := c6
    (try (have c6b1 : decide ((((rd_T57 t659 0).f0).toList) = ([97] : List UInt8) && ((((rd_T57 t659 0).f1).toList) == ([120] : List UInt8) && ((((rd_T57 t659 0).f2.f0) == 0 && (((rd_T57 t659 0).f2.f1) == 2))))) = true := by simpa using c6))
    (try (have c6b2 : ((((rd_T57 t659 0).f0).toList) == ([97] : List UInt8) && ((((rd_T57 t659 0).f1).toList) == ([120] : List UInt8) && ((((rd_T57 t659 0).f2.f0) == 0 && (((rd_T57 t659 0).f2.f1) == 2))))) = true := by simpa using c6))
    clear c6
    replace H := Option.bind_eq_some_iff.mp H
    obtain ⟨t663, A70, H⟩ := H
    replace H : (if t663 = true then ((pair_Less.f k (⟨#[97]⟩ : ByteArray) (⟨#[120]⟩ : ByteArray) 0 1 (⟨#[97]⟩ : ByteArray) (⟨#[120]⟩ : ByteArray) 0 2).bind fun t664 => (if t664 = true then ((pair_Elems.f (([(⟨(⟨#[97]⟩ : ByteArray), (⟨#[120]⟩ : ByteArray), (⟨0, 1⟩ : S24)⟩ : S57), (⟨(⟨#[97]⟩ : ByteArray), (⟨#[120]⟩ : ByteArray), (⟨0, 2⟩ : S24)⟩ : S57)] : List (S57))) (⟨#[97]⟩ : ByteArray)).bind fun t668 => (some ((t668.length : Int) == 1))) else (some false))) else (some false)) = some r := H
    have A7 := Aside0.mk A70
    clear A70
    by_cases c8 : t663 = true
    ·subst c8
     have H1 : ((pair_Less.f k (⟨#[97]⟩ : ByteArray) (⟨#[120]⟩ : ByteArray) 0 1 (⟨#[97]⟩ : ByteArray) (⟨#[120]⟩ : ByteArray) 0 2).bind fun t664 => (if t664 = true then ((pair_Elems.f (([(⟨(⟨#[97]⟩ : ByteArray), (⟨#[120]⟩ : ByteArray), (⟨0, 1⟩ : S24)⟩ : S57), (⟨(⟨#[97]⟩ : ByteArray), (⟨#[120]⟩ : ByteArray), (⟨0, 2⟩ : S24)⟩ : S57)] : List (S57))) (⟨#[97]⟩ : ByteArray)).bind fun t668 => (some ((t668.length : Int) == 1))) else (some false))) = some r := by rw [if_pos rfl] at H; exact H
     clear H
     have H := H1
     clear H1
     replace H := Option.bind_eq_some_iff.mp H
     obtain ⟨t664, A90, H⟩ := H
     replace H : (if t664 = true then ((pair_Elems.f (([(⟨(⟨#[97]⟩ : ByteArray), (⟨#[120]⟩ : ByteArray), (⟨0, 1⟩ : S24)⟩ : S57), (⟨(⟨#[97]⟩ : ByteArray), (⟨#[120]⟩ : ByteArray), (⟨0, 2⟩ : S24)⟩ : S57)] : List (S57))) (⟨#[97]⟩ : ByteArray)).bind fun t668 => (some ((t668.length : Int) == 1))) else (some false)) = some r := H
     have A9 := Aside0.mk A90
     clear A90
     by_cases c10 : t664 = true
     ·subst c10
      have H1 : ((pair_Elems.f (([(⟨(⟨#[97]⟩ : ByteArray), (⟨#[120]⟩ : ByteArray), (⟨0, 1⟩ : S24)⟩ : S57), (⟨(⟨#[97]⟩ : ByteArray), (⟨#[120]⟩ : ByteArray), (⟨0, 2⟩ : S24)⟩ : S57)] : List (S57))) (⟨#[97]⟩ : ByteArray)).bind fun t668 => (some ((t668.length : Int) == 1))) = some r := by rw [if_pos rfl] at H; exact H
      clear H
      have H := H1
      clear H1
      obtain ⟨y665, hy665⟩ : ∃ y_ : List (S57), y_ = (([(⟨(⟨#[97]⟩ : ByteArray), (⟨#[120]⟩ : ByteArray), (⟨0, 1⟩ : S24)⟩ : S57), (⟨(⟨#[97]⟩ : ByteArray), (⟨#[120]⟩ : ByteArray), (⟨0, 2⟩ : S24)⟩ : S57)] : List (S57))) := ⟨_, rfl⟩
      replace H : ((pair_Elems.f y665 (⟨#[97]⟩ : ByteArray)).bind fun t668 => (some ((t668.length : Int) == 1))) = some r := by first | (rw [hy665]; with_reducible exact H) | (have H2_ := (Option.bind_some _ _).symm.trans H; rw [hy665]; with_reducible exact H2_) | (have H2_ := (Option.bind_some _ _).symm.trans H; with_reducible exact H2_) | with_reducible exact H | (rw [hy665]; exact H) | exact H
      have Ny665 := Aside0.mk hy665
      clear hy665
      replace H := Option.bind_eq_some_iff.mp H
      obtain ⟨t668, A110, H⟩ := H
      replace H : (some ((t668.length : Int) == 1)) = some r := H
      have A11 := Aside0.mk A110
      clear A110
      obtain rfl := Option.some.inj H
      go_enter Try.func45, Try.ntmps45
      try go_wp2_with (first | ((with_reducible refine gate_dst (N := 1) rfl ?_); (try (refine gate_guard (by rfl) ?_; dsimp only)); refine box_event ?hg (N := 1) ?hd (cs := #[.string (⟨#[]⟩ : ByteArray), .string (⟨#[]⟩ : ByteArray), .int .i64 0, .int .i64 0]) (t := 57) ?hr ?_; (case hd => rfl); (case hg => rfl); (case hr => first | (go_simp; done) | (go_simp; rfl)); intro gb648 hg w12 hbox hb; have n0_ := Aside0.mk (below_step (by repeat (first | (with_reducible first | exact HB.out | apply below_alloc | apply pw_below_drewN | apply below_drew1) | exact HB.out)) hb); have n1_ := Aside0.mk (hbox); have n2_ := Aside0.mk ((by rw [hg]; exact (below_size (by repeat (first | (with_reducible first | exact HB.out | apply below_alloc | apply pw_below_drewN | apply below_drew1) | exact HB.out))) : w.heap.size ≤ gb648)); have n3_ := Aside0.mk ((by rw [hg]; exact (below_size (by repeat (first | (with_reducible first | exact HB.out | apply below_alloc | apply pw_below_drewN | apply below_drew1) | exact HB.out))) : w.heap.size ≤ gb648)); clear HB; have HB := n0_; have BK648 := n1_; have GW648 := n2_; have GE648 := n3_; clear n0_ n1_ n2_ n3_; clear hb hbox hg; have hcz13_0 : w12.cell? ⟨gb648, 0, none⟩ = some (.string (⟨#[]⟩ : ByteArray)) := (blk_cell BK648.out 0).trans rfl; have hcz13_1 : w12.cell? ⟨gb648, 1, none⟩ = some (.string (⟨#[]⟩ : ByteArray)) := (blk_cell BK648.out 1).trans rfl; have hcz13_2 : w12.cell? ⟨gb648, 2, none⟩ = some (.int .i64 0) := (blk_cell BK648.out 2).trans rfl; have hcz13_3 : w12.cell? ⟨gb648, 3, none⟩ = some (.int .i64 0) := (blk_cell BK648.out 3).trans rfl; have hfz13_0 := blk_frozen BK648.out 0; have hfz13_1 := blk_frozen BK648.out 1; have hfz13_2 := blk_frozen BK648.out 2; have hfz13_3 := blk_frozen BK648.out 3) | ((with_reducible refine gate_dst (N := 2) rfl ?_); (try (refine gate_guard (by rfl) ?_; dsimp only)); refine box_event ?hg (N := 2) ?hd (cs := #[.string (⟨#[]⟩ : ByteArray), .string (⟨#[]⟩ : ByteArray), .int .i64 0, .int .i64 0]) (t := 57) ?hr ?_; (case hd => rfl); (case hg => rfl); (case hr => first | (go_simp; done) | (go_simp; rfl)); intro gb649 hg w14 hbox hb; have n0_ := Aside0.mk (blk_below (g := gb648) (o := .cells #[.string (⟨#[97]⟩ : ByteArray), .string (⟨#[120]⟩ : ByteArray), .int .i64 0, .int .i64 1] 57 (0, 0)) (by (with_reducible repeat (first | apply blN | apply blD | apply blA)); refine blk_put (cs := #[.string (⟨#[97]⟩ : ByteArray), .string (⟨#[120]⟩ : ByteArray), .int .i64 0, .int .i64 0]) ?_ 3 _ rfl; (with_reducible repeat (first | apply blN | apply blD | apply blA)); refine blk_put (cs := #[.string (⟨#[97]⟩ : ByteArray), .string (⟨#[120]⟩ : ByteArray), .int .i64 0, .int .i64 0]) ?_ 2 _ rfl; (with_reducible repeat (first | apply blN | apply blD | apply blA)); refine blk_put (cs := #[.string (⟨#[97]⟩ : ByteArray), .string (⟨#[]⟩ : ByteArray), .int .i64 0, .int .i64 0]) ?_ 1 _ rfl; (with_reducible repeat (first | apply blN | apply blD | apply blA)); refine blk_put (cs := #[.string (⟨#[]⟩ : ByteArray), .string (⟨#[]⟩ : ByteArray), .int .i64 0, .int .i64 0]) ?_ 0 _ rfl; (with_reducible repeat (first | apply blN | apply blD | apply blA)); exact BK648.out) hb); have n1_ := Aside0.mk (below_step (by repeat (first | (with_reducible first | exact HB.out | apply below_alloc | apply pw_below_drewN | apply below_drew1 | refine below_set ?_ GE648.out) | exact HB.out)) hb); have n2_ := Aside0.mk (hbox); have n3_ := Aside0.mk ((by rw [hg]; exact (below_size (by repeat (first | (with_reducible first | exact HB.out | apply below_alloc | apply pw_below_drewN | apply below_drew1 | refine below_set ?_ GE648.out) | exact HB.out))) : w.heap.size ≤ gb649)); have n4_ := Aside0.mk ((by rw [hg]; exact (below_size (by repeat (first | (with_reducible first | exact HB.out | apply below_alloc | apply pw_below_drewN | apply below_drew1 | refine below_set ?_ GE648.out) | exact HB.out))) : w.heap.size ≤ gb649)); have n5_ := Aside0.mk ((by rw [hg]; exact Nat.ne_of_lt (blk_lt (g := gb648) (o := .cells #[.string (⟨#[97]⟩ : ByteArray), .string (⟨#[120]⟩ : ByteArray), .int .i64 0, .int .i64 1] 57 (0, 0)) (by (with_reducible repeat (first | apply blN | apply blD | apply blA)); refine blk_put (cs := #[.string (⟨#[97]⟩ : ByteArray), .string (⟨#[120]⟩ : ByteArray), .int .i64 0, .int .i64 0]) ?_ 3 _ rfl; (with_reducible repeat (first | apply blN | apply blD | apply blA)); refine blk_put (cs := #[.string (⟨#[97]⟩ : ByteArray), .string (⟨#[120]⟩ : ByteArray), .int .i64 0, .int .i64 0]) ?_ 2 _ rfl; (with_reducible repeat (first | apply blN | apply blD | apply blA)); refine blk_put (cs := #[.string (⟨#[97]⟩ : ByteArray), .string (⟨#[]⟩ : ByteArray), .int .i64 0, .int .i64 0]) ?_ 1 _ rfl; (with_reducible repeat (first | apply blN | apply blD | apply blA)); refine blk_put (cs := #[.string (⟨#[]⟩ : ByteArray), .string (⟨#[]⟩ : ByteArray), .int .i64 0, .int .i64 0]) ?_ 0 _ rfl; (with_reducible repeat (first | apply blN | apply blD | apply blA)); exact BK648.out)) : gb648 ≠ gb649)); have n6_ := Aside0.mk ((by rw [hg]; exact Nat.ne_of_gt (blk_lt (g := gb648) (o := .cells #[.string (⟨#[97]⟩ : ByteArray), .string (⟨#[120]⟩ : ByteArray), .int .i64 0, .int .i64 1] 57 (0, 0)) (by (with_reducible repeat (first | apply blN | apply blD | apply blA)); refine blk_put (cs := #[.string (⟨#[97]⟩ : ByteArray), .string (⟨#[120]⟩ : ByteArray), .int .i64 0, .int .i64 0]) ?_ 3 _ rfl; (with_reducible repeat (first | apply blN | apply blD | apply blA)); refine blk_put (cs := #[.string (⟨#[97]⟩ : ByteArray), .string (⟨#[120]⟩ : ByteArray), .int .i64 0, .int .i64 0]) ?_ 2 _ rfl; (with_reducible repeat (first | apply blN | apply blD | apply blA)); refine blk_put (cs := #[.string (⟨#[97]⟩ : ByteArray), .string (⟨#[]⟩ : ByteArray), .int .i64 0, .int .i64 0]) ?_ 1 _ rfl; (with_reducible repeat (first | apply blN | apply blD | apply blA)); refine blk_put (cs := #[.string (⟨#[]⟩ : ByteArray), .string (⟨#[]⟩ : ByteArray), .int .i64 0, .int .i64 0]) ?_ 0 _ rfl; (with_reducible repeat (first | apply blN | apply blD | apply blA)); exact BK648.out)) : gb649 ≠ gb648)); clear BK648; clear HB; have BK648 := n0_; have HB := n1_; have BK649 := n2_; have GW649 := n3_; have GE649 := n4_; have NB648_649 := n5_; have NB649_648 := n6_; clear n0_ n1_ n2_ n3_ n4_ n5_ n6_; clear hb hbox hg; have hnb15 := NB649_648.out; have hnc15 := NB648_649.out; have hcz16_0 : w14.cell? ⟨gb649, 0, none⟩ = some (.string (⟨#[]⟩ : ByteArray)) := (blk_cell BK649.out 0).trans rfl; have hcz16_1 : w14.cell? ⟨gb649, 1, none⟩ = some (.string (⟨#[]⟩ : ByteArray)) := (blk_cell BK649.out 1).trans rfl; have hcz16_2 : w14.cell? ⟨gb649, 2, none⟩ = some (.int .i64 0) := (blk_cell BK649.out 2).trans rfl; have hcz16_3 : w14.cell? ⟨gb649, 3, none⟩ = some (.int .i64 0) := (blk_cell BK649.out 3).trans rfl; have hfz16_0 := blk_frozen BK649.out 0; have hfz16_1 := blk_frozen BK649.out 1; have hfz16_2 := blk_frozen BK649.out 2; have hfz16_3 := blk_frozen BK649.out 3; have hcz17_0 : w14.cell? ⟨gb648, 0, none⟩ = some (.string (⟨#[97]⟩ : ByteArray)) := (blk_cell BK648.out 0).trans rfl; have hcz17_1 : w14.cell? ⟨gb648, 1, none⟩ = some (.string (⟨#[120]⟩ : ByteArray)) := (blk_cell BK648.out 1).trans rfl; have hcz17_2 : w14.cell? ⟨gb648, 2, none⟩ = some (.int .i64 0) := (blk_cell BK648.out 2).trans rfl; have hcz17_3 : w14.cell? ⟨gb648, 3, none⟩ = some (.int .i64 1) := (blk_cell BK648.out 3).trans rfl; have hfz17_0 := blk_frozen BK648.out 0; have hfz17_1 := blk_frozen BK648.out 1; have hfz17_2 := blk_frozen BK648.out 2; have hfz17_3 := blk_frozen BK648.out 3) | ((with_reducible refine gate_dst (N := 10) rfl ?_); (try (refine gate_guard (by rfl) ?_; dsimp only)); refine Kd.R_lit k57 _ 57 ?hg (N := 10) ?hd (xs := ([(⟨(⟨#[97]⟩ : ByteArray), (⟨#[120]⟩ : ByteArray), (⟨0, 1⟩ : S24)⟩ : S57)] : List (S57))) (inner := [.string (⟨#[97]⟩ : ByteArray), .string (⟨#[120]⟩ : ByteArray), .int .i64 0, .int .i64 1]) (ok := fun _ => True) (okp := fun _ => True) ?hr ?hp (fun _ hk => hk) trivial (Below.refl _ _) (Nat.le_refl _) (by simp) ?_; (case hd => rfl); (case hg => rfl); (case hr => first | (go_simp; done) | (go_simp; rfl)); (case hp => exact (Reps.c4 (show Kd.M k57 _ _ _ (⟨(⟨#[97]⟩ : ByteArray), (⟨#[120]⟩ : ByteArray), (⟨0, 1⟩ : S24)⟩ : S57) [.string (⟨#[97]⟩ : ByteArray), .string (⟨#[120]⟩ : ByteArray), .int .i64 0, .int .i64 1] from (k57_mkM _ _ _ (⟨(⟨#[97]⟩ : ByteArray), (⟨#[120]⟩ : ByteArray), (⟨0, 1⟩ : S24)⟩ : S57) )) (Reps.none _ _))); intro v651 w18 ho19 hb hg_ hnew_; clear hg_ hnew_; (first | rw [← Ny650.out] at ho19 | (simp only [Int.reduceToNat] at ho19; rw [← Ny650.out] at ho19)); have n0_ := Aside0.mk (Kd.R_lower (Kd.R_newB (Kd.R_newB ho19 (g := gb648) (o := .cells #[.string (⟨#[97]⟩ : ByteArray), .string (⟨#[120]⟩ : ByteArray), .int .i64 0, .int .i64 1] 57 (0, 0)) (by (with_reducible repeat (first | apply blN | apply blD | apply blA)); refine blk_far ?_ NB648_649.out _; (with_reducible repeat (first | apply blN | apply blD | apply blA)); refine blk_far ?_ NB648_649.out _; (with_reducible repeat (first | apply blN | apply blD | apply blA)); refine blk_far ?_ NB648_649.out _; (with_reducible repeat (first | apply blN | apply blD | apply blA)); refine blk_far ?_ NB648_649.out _; (with_reducible repeat (first | apply blN | apply blD | apply blA)); exact BK648.out)) (g := gb649) (o := .cells #[.string (⟨#[97]⟩ : ByteArray), .string (⟨#[120]⟩ : ByteArray), .int .i64 0, .int .i64 2] 57 (0, 0)) (by (with_reducible repeat (first | apply blN | apply blD | apply blA)); refine blk_put (cs := #[.string (⟨#[97]⟩ : ByteArray), .string (⟨#[120]⟩ : ByteArray), .int .i64 0, .int .i64 0]) ?_ 3 _ rfl; (with_reducible repeat (first | apply blN | apply blD | apply blA)); refine blk_put (cs := #[.string (⟨#[97]⟩ : ByteArray), .string (⟨#[120]⟩ : ByteArray), .int .i64 0, .int .i64 0]) ?_ 2 _ rfl; (with_reducible repeat (first | apply blN | apply blD | apply blA)); refine blk_put (cs := #[.string (⟨#[97]⟩ : ByteArray), .string (⟨#[]⟩ : ByteArray), .int .i64 0, .int .i64 0]) ?_ 1 _ rfl; (with_reducible repeat (first | apply blN | apply blD | apply blA)); refine blk_put (cs := #[.string (⟨#[]⟩ : ByteArray), .string (⟨#[]⟩ : ByteArray), .int .i64 0, .int .i64 0]) ?_ 0 _ rfl; (with_reducible repeat (first | apply blN | apply blD | apply blA)); exact BK649.out)) (below_size (by repeat (first | (with_reducible first | exact HB.out | apply below_alloc | apply pw_below_drewN | apply below_drew1 | refine below_set ?_ GE648.out | refine below_set ?_ GE649.out) | exact HB.out)))); have n1_ := Aside0.mk (blk_below (g := gb648) (o := .cells #[.string (⟨#[97]⟩ : ByteArray), .string (⟨#[120]⟩ : ByteArray), .int .i64 0, .int .i64 1] 57 (0, 0)) (by (with_reducible repeat (first | apply blN | apply blD | apply blA)); refine blk_far ?_ NB648_649.out _; (with_reducible repeat (first | apply blN | apply blD | apply blA)); refine blk_far ?_ NB648_649.out _; (with_reducible repeat (first | apply blN | apply blD | apply blA)); refine blk_far ?_ NB648_649.out _; (with_reducible repeat (first | apply blN | apply blD | apply blA)); refine blk_far ?_ NB648_649.out _; (with_reducible repeat (first | apply blN | apply blD | apply blA)); exact BK648.out) hb); have n2_ := Aside0.mk (blk_below (g := gb649) (o := .cells #[.string (⟨#[97]⟩ : ByteArray), .string (⟨#[120]⟩ : ByteArray), .int .i64 0, .int .i64 2] 57 (0, 0)) (by (with_reducible repeat (first | apply blN | apply blD | apply blA)); refine blk_put (cs := #[.string (⟨#[97]⟩ : ByteArray), .string (⟨#[120]⟩ : ByteArray), .int .i64 0, .int .i64 0]) ?_ 3 _ rfl; (with_reducible repeat (first | apply blN | apply blD | apply blA)); refine blk_put (cs := #[.string (⟨#[97]⟩ : ByteArray), .string (⟨#[120]⟩ : ByteArray), .int .i64 0, .int .i64 0]) ?_ 2 _ rfl; (with_reducible repeat (first | apply blN | apply blD | apply blA)); refine blk_put (cs := #[.string (⟨#[97]⟩ : ByteArray), .string (⟨#[]⟩ : ByteArray), .int .i64 0, .int .i64 0]) ?_ 1 _ rfl; (with_reducible repeat (first | apply blN | apply blD | apply blA)); refine blk_put (cs := #[.string (⟨#[]⟩ : ByteArray), .string (⟨#[]⟩ : ByteArray), .int .i64 0, .int .i64 0]) ?_ 0 _ rfl; (with_reducible repeat (first | apply blN | apply blD | apply blA)); exact BK649.out) hb); have n3_ := Aside0.mk (below_step (by repeat (first | (with_reducible first | exact HB.out | apply below_alloc | apply pw_below_drewN | apply below_drew1 | refine below_set ?_ GE648.out | refine below_set ?_ GE649.out) | exact HB.out)) hb); clear BK648; clear BK649; clear HB; have HO652 := n0_; have BK648 := n1_; have BK649 := n2_; have HB := n3_; clear n0_ n1_ n2_ n3_; clear hb ho19))
      have n0_ := Aside0.mk (Kd.R_drew HO652.out)
      have n1_ := Aside0.mk (blk_drew BK648.out)
      have n2_ := Aside0.mk (blk_drew BK649.out)
      have n3_ := Aside0.mk (below_drew1 HB.out)
      clear HO652
      clear BK648
      clear BK649
      clear HB
      have HO652 := n0_
      have BK648 := n1_
      have BK649 := n2_
      have HB := n3_
      clear n0_ n1_ n2_ n3_
      obtain ⟨Ao21, co21, eo21⟩ := Kd.R_slice HO652.out
      (first | subst eo21 | (injection eo21 with f1_ f2_ f3_; have f4_ := f1_.symm; have f5_ := f3_.symm; clear f1_ f2_ f3_; subst f4_; subst f5_))
      refine start_ (n := 8) (S := fun w' => w'.cell? ⟨gb649, 0, none⟩ = some (.string (⟨#[97]⟩ : ByteArray)) ∧ w'.cell? ⟨gb649, 1, none⟩ = some (.string (⟨#[120]⟩ : ByteArray)) ∧ w'.cell? ⟨gb649, 2, none⟩ = some (.int .i64 0) ∧ w'.cell? ⟨gb649, 3, none⟩ = some (.int .i64 2)) (ds := []) #[O,O,O,O,O,O,O,O] (by kernel_rfl) rfl rfl ⟨(blk_cell BK649.out 0).trans rfl, (blk_cell BK649.out 1).trans rfl, (blk_cell BK649.out 2).trans rfl, (blk_cell BK649.out 3).trans rfl⟩ (fun hHeld => ?_); refine with_tabW law08_awake.tab4 law08_awake.bits4 (fun HT_ HW_ => ?_)
      generalize w18.drew = w20 at HO652 BK648 BK649 HB hHeld ⊢
      refine sqP (i := 0) (N := some 11) (v := ?_) (a' := ?_) #[I,O,O,O,O,O,O,O] rfl rfl HT_.out (Or.inl ⟨by rfl, ?_⟩) ?_ ?_
      rotate_left
      ·intro w'
       go_simp
       with_reducible rfl
      rotate_left
      ·simp only [Act.put, sqA, sqB, sqC, i64_w, i32_w]
       rfl
      refine sqP (i := 1) (N := some 12) (v := ?_) (a' := ?_) #[I,I,O,O,O,O,O,O] rfl rfl HT_.out (Or.inl ⟨by rfl, ?_⟩) ?_ ?_
      rotate_left
      ·intro w'
       go_simp
       with_reducible rfl
      rotate_left
      ·simp only [Act.put, sqA, sqB, sqC, i64_w, i32_w]
       rfl
      refine sqP (i := 3) (N := some 14) (v := ?_) (a' := ?_) #[I,I,O,I,O,O,O,O] rfl rfl HT_.out (Or.inl ⟨by rfl, ?_⟩) ?_ ?_
      rotate_left
      ·intro w'
       go_simp
       with_reducible rfl
      rotate_left
      ·simp only [Act.put, sqA, sqB, sqC, i64_w, i32_w]
       rfl
      refine take_ (i := 4) (N := some 15) (v := ?_) (a' := ?_) #[I,I,O,I,I,O,O,O] rfl rfl (take_ofW HT_.out HW_.out (by kernel_rfl)) (fun _ _ _ h => h) (Or.inl ⟨by rfl, ?_⟩) hHeld ?_ ?_
      rotate_left
      ·rintro w' ⟨s0, s1, s2, s3⟩
       go_simp
       with_reducible rfl
      rotate_left
      ·simp only [Act.put, sqA, sqB, sqC, i64_w, i32_w]
       rfl
      refine one_ (i := 2) (N := some 13) #[I,I,I,I,I,O,O,O] rfl rfl (one_of HT_.out (by kernel_rfl)) (by decide) (fun K hK => ?_)
      refine goes_ Try.func51 (by kernel_rfl) rfl #[.slice Ao21 y650.length co21, .string (⟨#[97]⟩ : ByteArray), .string (⟨#[120]⟩ : ByteArray)] (by rfl) rfl rfl (by (try simp only [List.map_toArray, List.map_cons, List.map_nil]); first | done | rfl | (simp only [List.length_drop, List.length_take]; rfl)) ?_
      with_reducible refine (pair_Del.calls _ _ y650 (⟨#[97]⟩ : ByteArray) (⟨#[120]⟩ : ByteArray) t653 _ ?side1 ?side2 A1.out).mono ?_
      (case side1 => repeat (first | exact (Kd.R_reads' HO652.out).2.2 | (with_reducible refine Kd.C_alloc ?_ _) | (with_reducible refine Kd.C_drewN ?_ _) | (with_reducible refine Kd.C_drew ?_)))
      (case side2 => exact (Kd.R_reads' HO652.out).2.1)
      rintro e w22 ⟨v654, rfl, ho0, hb⟩
      refine ⟨_, rfl, ?_⟩
      have n0_ := Aside0.mk (Kd.R_elder' (by (with_reducible repeat (first | apply Kd.R_alloc | apply Kd.R_drewN | apply Kd.R_drew)); exact HO652.out) (Kd.R_base ho0) hb)
      have n1_ := Aside0.mk (Kd.R_lower (Kd.R_newB (Kd.R_newB (Kd.R_new' ho0 (Kd.R_lt (by (with_reducible repeat (first | apply Kd.R_alloc | apply Kd.R_drewN | apply Kd.R_drew)); exact HO652.out))) (g := gb648) (o := .cells #[.string (⟨#[97]⟩ : ByteArray), .string (⟨#[120]⟩ : ByteArray), .int .i64 0, .int .i64 1] 57 (0, 0)) (by (with_reducible repeat (first | apply blN | apply blD | apply blA)); exact BK648.out)) (g := gb649) (o := .cells #[.string (⟨#[97]⟩ : ByteArray), .string (⟨#[120]⟩ : ByteArray), .int .i64 0, .int .i64 2] 57 (0, 0)) (by (with_reducible repeat (first | apply blN | apply blD | apply blA)); exact BK649.out)) (below_size (by repeat (first | (with_reducible first | exact HB.out | apply below_alloc | apply pw_below_drewN | apply below_drew1 | refine below_set ?_ GE648.out | refine below_set ?_ GE649.out) | exact HB.out))))
      have n2_ := Aside0.mk (blk_below (g := gb648) (o := .cells #[.string (⟨#[97]⟩ : ByteArray), .string (⟨#[120]⟩ : ByteArray), .int .i64 0, .int .i64 1] 57 (0, 0)) (by (with_reducible repeat (first | apply blN | apply blD | apply blA)); exact BK648.out) hb)
      have n3_ := Aside0.mk (blk_below (g := gb649) (o := .cells #[.string (⟨#[97]⟩ : ByteArray), .string (⟨#[120]⟩ : ByteArray), .int .i64 0, .int .i64 2] 57 (0, 0)) (by (with_reducible repeat (first | apply blN | apply blD | apply blA)); exact BK649.out) hb)
      have n4_ := Aside0.mk (below_step (by repeat (first | (with_reducible first | exact HB.out | apply below_alloc | apply pw_below_drewN | apply below_drew1 | refine below_set ?_ GE648.out | refine below_set ?_ GE649.out) | exact HB.out)) hb)
      clear HO652
      clear BK648
      clear BK649
      clear HB
      have HO652 := n0_
      have HO655 := n1_
      have BK648 := n2_
      have BK649 := n3_
      have HB := n4_
      clear n0_ n1_ n2_ n3_ n4_
      (try clear hb)
      (try clear hb2)
      (try clear hk)
      (try clear hi)
      (try clear ho0)
      refine hK.out _ _ ⟨(blk_cell BK649.out 0).trans rfl, (blk_cell BK649.out 1).trans rfl, (blk_cell BK649.out 2).trans rfl, (blk_cell BK649.out 3).trans rfl⟩ (fun hHeld => ?_)
      clear hK K
      refine norm_ (a' := ?_) ?_ ?_
      rotate_left
      ·show Act.put _ (some 13) _ = _
       simp only [Act.put, sqA, sqB, sqC, i64_w, i32_w]
       rfl
      refine one_ (i := 5) (N := some 16) #[I,I,I,I,I,I,O,O] rfl rfl (one_of HT_.out (by kernel_rfl)) (by decide) (fun K hK => ?_)
      refine goes_ Try.func49 (by kernel_rfl) rfl #[.slice Ao21 y650.length co21, .agg #[.string (⟨#[97]⟩ : ByteArray), .string (⟨#[120]⟩ : ByteArray), .int .i64 0, .int .i64 2]] (by rfl) rfl rfl (by (try simp only [List.map_toArray, List.map_cons, List.map_nil]); first | done | rfl | (simp only [List.length_drop, List.length_take]; rfl)) ?_
      with_reducible refine (pair_Add.calls _ _ y650 (⟨#[97]⟩ : ByteArray) (⟨#[120]⟩ : ByteArray) 0 2 t656 _ ?side1 ?side2 A2.out).mono ?_
      (case side1 => repeat (first | exact (Kd.R_reads' HO652.out).2.2 | (with_reducible refine Kd.C_alloc ?_ _) | (with_reducible refine Kd.C_drewN ?_ _) | (with_reducible refine Kd.C_drew ?_)))
      (case side2 => exact (Kd.R_reads' HO652.out).2.1)
      rintro e w23 ⟨v657, rfl, ho0, hb⟩
      refine ⟨_, rfl, ?_⟩
      have n0_ := Aside0.mk (Kd.R_elder' (by (with_reducible repeat (first | apply Kd.R_alloc | apply Kd.R_drewN | apply Kd.R_drew)); exact HO652.out) (Kd.R_base ho0) hb)
      have n1_ := Aside0.mk (Kd.R_elder' (by (with_reducible repeat (first | apply Kd.R_alloc | apply Kd.R_drewN | apply Kd.R_drew)); exact HO655.out) (Kd.R_base ho0) hb)
      have n2_ := Aside0.mk (Kd.R_lower (Kd.R_newB (Kd.R_newB (Kd.R_new' (Kd.R_new' ho0 (Kd.R_lt (by (with_reducible repeat (first | apply Kd.R_alloc | apply Kd.R_drewN | apply Kd.R_drew)); exact HO652.out))) (Kd.R_lt (by (with_reducible repeat (first | apply Kd.R_alloc | apply Kd.R_drewN | apply Kd.R_drew)); exact HO655.out))) (g := gb648) (o := .cells #[.string (⟨#[97]⟩ : ByteArray), .string (⟨#[120]⟩ : ByteArray), .int .i64 0, .int .i64 1] 57 (0, 0)) (by (with_reducible repeat (first | apply blN | apply blD | apply blA)); exact BK648.out)) (g := gb649) (o := .cells #[.string (⟨#[97]⟩ : ByteArray), .string (⟨#[120]⟩ : ByteArray), .int .i64 0, .int .i64 2] 57 (0, 0)) (by (with_reducible repeat (first | apply blN | apply blD | apply blA)); exact BK649.out)) (below_size (by repeat (first | (with_reducible first | exact HB.out | apply below_alloc | apply pw_below_drewN | apply below_drew1 | refine below_set ?_ GE648.out | refine below_set ?_ GE649.out) | exact HB.out))))
      have n3_ := Aside0.mk (blk_below (g := gb648) (o := .cells #[.string (⟨#[97]⟩ : ByteArray), .string (⟨#[120]⟩ : ByteArray), .int .i64 0, .int .i64 1] 57 (0, 0)) (by (with_reducible repeat (first | apply blN | apply blD | apply blA)); exact BK648.out) hb)
      have n4_ := Aside0.mk (blk_below (g := gb649) (o := .cells #[.string (⟨#[97]⟩ : ByteArray), .string (⟨#[120]⟩ : ByteArray), .int .i64 0, .int .i64 2] 57 (0, 0)) (by (with_reducible repeat (first | apply blN | apply blD | apply blA)); exact BK649.out) hb)
      have n5_ := Aside0.mk (below_step (by repeat (first | (with_reducible first | exact HB.out | apply below_alloc | apply pw_below_drewN | apply below_drew1 | refine below_set ?_ GE648.out | refine below_set ?_ GE649.out) | exact HB.out)) hb)
      clear HO652
      clear HO655
      clear BK648
      clear BK649
      clear HB
      have HO652 := n0_
      have HO655 := n1_
      have HO658 := n2_
      have BK648 := n3_
      have BK649 := n4_
      have HB := n5_
      clear n0_ n1_ n2_ n3_ n4_ n5_
      (try clear hb)
      (try clear hb2)
      (try clear hk)
      (try clear hi)
      (try clear ho0)
      obtain ⟨Ao24, co24, eo24⟩ := Kd.R_slice HO655.out
      (first | subst eo24 | (injection eo24 with f1_ f2_ f3_; have f4_ := f1_.symm; have f5_ := f3_.symm; clear f1_ f2_ f3_; subst f4_; subst f5_))
      obtain ⟨Ao25, co25, eo25⟩ := Kd.R_slice HO658.out
      (first | subst eo25 | (injection eo25 with f1_ f2_ f3_; have f4_ := f1_.symm; have f5_ := f3_.symm; clear f1_ f2_ f3_; subst f4_; subst f5_))
      refine hK.out _ _ ⟨(blk_cell BK649.out 0).trans rfl, (blk_cell BK649.out 1).trans rfl, (blk_cell BK649.out 2).trans rfl, (blk_cell BK649.out 3).trans rfl⟩ (fun hHeld => ?_)
      clear hK K
      refine norm_ (a' := ?_) ?_ ?_
      rotate_left
      ·show Act.put _ (some 16) _ = _
       simp only [Act.put, sqA, sqB, sqC, i64_w, i32_w]
       rfl
      refine one_ (i := 6) (N := some 17) #[I,I,I,I,I,I,I,O] rfl rfl (one_of HT_.out (by kernel_rfl)) (by decide) (fun K hK => ?_)
      refine goes_ Try.func53 (by kernel_rfl) rfl #[.slice Ao21 y650.length co21, .slice Ao24 t653.length co24, .slice Ao25 t656.length co25] (by rfl) rfl rfl (by (try simp only [List.map_toArray, List.map_cons, List.map_nil]); first | done | rfl | (simp only [List.length_drop, List.length_take]; rfl)) ?_
      with_reducible refine (pair_Merge.calls _ _ y650 _ _ t653 _ _ t656 t659 _ ?side1 ?side2 ?side3 ?side4 ?side5 ?side6 A3.out).mono ?_
      (case side1 => repeat (first | exact (Kd.R_reads' HO652.out).2.2 | (with_reducible refine Kd.C_alloc ?_ _) | (with_reducible refine Kd.C_drewN ?_ _) | (with_reducible refine Kd.C_drew ?_)))
      (case side2 => exact (Kd.R_reads' HO652.out).2.1)
      (case side3 => repeat (first | exact (Kd.R_reads' HO655.out).2.2 | (with_reducible refine Kd.C_alloc ?_ _) | (with_reducible refine Kd.C_drewN ?_ _) | (with_reducible refine Kd.C_drew ?_)))
      (case side4 => exact (Kd.R_reads' HO655.out).2.1)
      (case side5 => repeat (first | exact (Kd.R_reads' HO658.out).2.2 | (with_reducible refine Kd.C_alloc ?_ _) | (with_reducible refine Kd.C_drewN ?_ _) | (with_reducible refine Kd.C_drew ?_)))
      (case side6 => exact (Kd.R_reads' HO658.out).2.1)
      rintro e w26 ⟨v660, rfl, ho0, hb⟩
      refine ⟨_, rfl, ?_⟩
      have n0_ := Aside0.mk (Kd.R_elder' (by (with_reducible repeat (first | apply Kd.R_alloc | apply Kd.R_drewN | apply Kd.R_drew)); exact HO652.out) (Kd.R_base ho0) hb)
      have n1_ := Aside0.mk (Kd.R_elder' (by (with_reducible repeat (first | apply Kd.R_alloc | apply Kd.R_drewN | apply Kd.R_drew)); exact HO655.out) (Kd.R_base ho0) hb)
      have n2_ := Aside0.mk (Kd.R_elder' (by (with_reducible repeat (first | apply Kd.R_alloc | apply Kd.R_drewN | apply Kd.R_drew)); exact HO658.out) (Kd.R_base ho0) hb)
      have n3_ := Aside0.mk (Kd.R_lower (Kd.R_newB (Kd.R_newB (Kd.R_new' (Kd.R_new' (Kd.R_new' ho0 (Kd.R_lt (by (with_reducible repeat (first | apply Kd.R_alloc | apply Kd.R_drewN | apply Kd.R_drew)); exact HO652.out))) (Kd.R_lt (by (with_reducible repeat (first | apply Kd.R_alloc | apply Kd.R_drewN | apply Kd.R_drew)); exact HO655.out))) (Kd.R_lt (by (with_reducible repeat (first | apply Kd.R_alloc | apply Kd.R_drewN | apply Kd.R_drew)); exact HO658.out))) (g := gb648) (o := .cells #[.string (⟨#[97]⟩ : ByteArray), .string (⟨#[120]⟩ : ByteArray), .int .i64 0, .int .i64 1] 57 (0, 0)) (by (with_reducible repeat (first | apply blN | apply blD | apply blA)); exact BK648.out)) (g := gb649) (o := .cells #[.string (⟨#[97]⟩ : ByteArray), .string (⟨#[120]⟩ : ByteArray), .int .i64 0, .int .i64 2] 57 (0, 0)) (by (with_reducible repeat (first | apply blN | apply blD | apply blA)); exact BK649.out)) (below_size (by repeat (first | (with_reducible first | exact HB.out | apply below_alloc | apply pw_below_drewN | apply below_drew1 | refine below_set ?_ GE648.out | refine below_set ?_ GE649.out) | exact HB.out))))
      have n4_ := Aside0.mk (blk_below (g := gb648) (o := .cells #[.string (⟨#[97]⟩ : ByteArray), .string (⟨#[120]⟩ : ByteArray), .int .i64 0, .int .i64 1] 57 (0, 0)) (by (with_reducible repeat (first | apply blN | apply blD | apply blA)); exact BK648.out) hb)
      have n5_ := Aside0.mk (blk_below (g := gb649) (o := .cells #[.string (⟨#[97]⟩ : ByteArray), .string (⟨#[120]⟩ : ByteArray), .int .i64 0, .int .i64 2] 57 (0, 0)) (by (with_reducible repeat (first | apply blN | apply blD | apply blA)); exact BK649.out) hb)
      have n6_ := Aside0.mk (below_step (by repeat (first | (with_reducible first | exact HB.out | apply below_alloc | apply pw_below_drewN | apply below_drew1 | refine below_set ?_ GE648.out | refine below_set ?_ GE649.out) | exact HB.out)) hb)
      clear HO652
      clear HO655
      clear HO658
      clear BK648
      clear BK649
      clear HB
      have HO652 := n0_
      have HO655 := n1_
      have HO658 := n2_
      have HO661 := n3_
      have BK648 := n4_
      have BK649 := n5_
      have HB := n6_
      clear n0_ n1_ n2_ n3_ n4_ n5_ n6_
      (try clear hb)
      (try clear hb2)
      (try clear hk)
      (try clear hi)
      (try clear ho0)
      refine hK.out _ _ ⟨(blk_cell BK649.out 0).trans rfl, (blk_cell BK649.out 1).trans rfl, (blk_cell BK649.out 2).trans rfl, (blk_cell BK649.out 3).trans rfl⟩ (fun hHeld => ?_)
      clear hK K
      refine norm_ (a' := ?_) ?_ ?_
      rotate_left
      ·show Act.put _ (some 17) _ = _
       simp only [Act.put, sqA, sqB, sqC, i64_w, i32_w]
       rfl
      refine sqP (i := 7) (N := some 4) (v := ?_) (a' := ?_) #[I,I,I,I,I,I,I,I] rfl rfl HT_.out (Or.inl ⟨by rfl, ?_⟩) ?_ ?_
      rotate_left
      ·intro w'
       go_simp
       with_reducible rfl
      rotate_left
      ·simp only [Act.put, sqA, sqB, sqC, i64_w, i32_w]
       rfl
      refine done_ (done_of HT_.out (by kernel_rfl)) ?_
      try go_wp2
      have n0_ := Aside0.mk (Kd.R_drew HO652.out)
      have n1_ := Aside0.mk (Kd.R_drew HO655.out)
      have n2_ := Aside0.mk (Kd.R_drew HO658.out)
      have n3_ := Aside0.mk (Kd.R_drew HO661.out)
      have n4_ := Aside0.mk (blk_drew BK648.out)
      have n5_ := Aside0.mk (blk_drew BK649.out)
      have n6_ := Aside0.mk (below_drew1 HB.out)
      clear HO652
      clear HO655
      clear HO658
      clear HO661
      clear BK648
      clear BK649
      clear HB
      have HO652 := n0_
      have HO655 := n1_
      have HO658 := n2_
      have HO661 := n3_
      have BK648 := n4_
      have BK649 := n5_
      have HB := n6_
      clear n0_ n1_ n2_ n3_ n4_ n5_ n6_
      obtain ⟨Ao28, co28, eo28⟩ := Kd.R_slice HO661.out
      (first | subst eo28 | (injection eo28 with f1_ f2_ f3_; have f4_ := f1_.symm; have f5_ := f3_.symm; clear f1_ f2_ f3_; subst f4_; subst f5_))
      have p662 : 0 ≤ (0 : Int) := (by omega)
      have q662 : 0 < (t659.length : Int) := of_decide_eq_true (by first | (with_reducible assumption) | assumption)
      obtain ⟨ad662, e662, hx662_0, hx662_1, hx662_2, hx662_3⟩ := at_T57 (Kd.R_reads' HO661.out).2.2 0 p662 q662
      cases e662
      have qi662 : (0 < t659.length) = True := eq_true (by omega)
      (try rw [show ((0 : Int)).toNat = 0 from rfl] at hx662_0)
      (try rw [show 0 * 4 = 0 from rfl] at hx662_0)
      (try rw [Addr.add_zero'] at hx662_0)
      (try rw [show ((0 : Int)).toNat = 0 from rfl] at hx662_1)
      (try rw [show 0 * 4 = 0 from rfl] at hx662_1)
      (try rw [Addr.add_zero'] at hx662_1)
      (try rw [show ((0 : Int)).toNat = 0 from rfl] at hx662_2)
      (try rw [show 0 * 4 = 0 from rfl] at hx662_2)
      (try rw [Addr.add_zero'] at hx662_2)
      (try rw [show ((0 : Int)).toNat = 0 from rfl] at hx662_3)
      (try rw [show 0 * 4 = 0 from rfl] at hx662_3)
      (try rw [Addr.add_zero'] at hx662_3)
      replace p662 := eq_true p662
      replace q662 := eq_true q662
      refine start_ (n := 28) (S := fun w' => w'.cell? ⟨gb649, 0, none⟩ = some (.string (⟨#[97]⟩ : ByteArray)) ∧ w'.cell? ⟨gb649, 1, none⟩ = some (.string (⟨#[120]⟩ : ByteArray)) ∧ w'.cell? ⟨gb649, 2, none⟩ = some (.int .i64 0) ∧ w'.cell? ⟨gb649, 3, none⟩ = some (.int .i64 2) ∧ w'.cell? ⟨gb648, 0, none⟩ = some (.string (⟨#[97]⟩ : ByteArray)) ∧ w'.cell? ⟨gb648, 1, none⟩ = some (.string (⟨#[120]⟩ : ByteArray)) ∧ w'.cell? ⟨gb648, 2, none⟩ = some (.int .i64 0) ∧ w'.cell? ⟨gb648, 3, none⟩ = some (.int .i64 1) ∧ w'.cell? ad662 = some (.string ((rd_T57 t659 0).f0)) ∧ w'.cell? ⟨ad662.block, ad662.off + 1, none⟩ = some (.string ((rd_T57 t659 0).f1)) ∧ w'.cell? ⟨ad662.block, ad662.off + 2, none⟩ = some (.int .i64 ((rd_T57 t659 0).f2.f0)) ∧ w'.cell? ⟨ad662.block, ad662.off + 3, none⟩ = some (.int .i64 ((rd_T57 t659 0).f2.f1))) (ds := []) #[O,O,O,O,O,O,O,O,O,O,O,O,O,O,O,O,O,O,O,O,O,O,O,O,O,O,O,O] (by kernel_rfl) rfl rfl ⟨(blk_cell BK649.out 0).trans rfl, (blk_cell BK649.out 1).trans rfl, (blk_cell BK649.out 2).trans rfl, (blk_cell BK649.out 3).trans rfl, (blk_cell BK648.out 0).trans rfl, (blk_cell BK648.out 1).trans rfl, (blk_cell BK648.out 2).trans rfl, (blk_cell BK648.out 3).trans rfl, hx662_0, hx662_1, hx662_2, hx662_3⟩ (fun hHeld => ?_); refine with_tabW law08_awake.tab5 law08_awake.bits5 (fun HT_ HW_ => ?_)
      generalize w26.drew = w27 at HO652 HO655 HO658 HO661 BK648 BK649 HB hx662_0 hx662_1 hx662_2 hx662_3 hHeld ⊢
      refine sqP (i := 0) (N := some 18) (v := ?_) (a' := ?_) #[I,O,O,O,O,O,O,O,O,O,O,O,O,O,O,O,O,O,O,O,O,O,O,O,O,O,O,O] rfl rfl HT_.out (Or.inl ⟨by rfl, ?_⟩) ?_ ?_
      rotate_left
      ·intro w'
       go_simp
       with_reducible rfl
      rotate_left
      ·simp only [Act.put, sqA, sqB, sqC, i64_w, i32_w]
       rfl
      refine sqP (i := 1) (N := some 19) (v := ?_) (a' := ?_) #[I,I,O,O,O,O,O,O,O,O,O,O,O,O,O,O,O,O,O,O,O,O,O,O,O,O,O,O] rfl rfl HT_.out (Or.inl ⟨by rfl, ?_⟩) ?_ ?_
      rotate_left
      ·intro w'
       go_simp
       with_reducible rfl
      rotate_left
      ·simp only [Act.put, sqA, sqB, sqC, i64_w, i32_w]
       rfl
      refine sqP (i := 2) (N := some 20) (v := ?_) (a' := ?_) #[I,I,I,O,O,O,O,O,O,O,O,O,O,O,O,O,O,O,O,O,O,O,O,O,O,O,O,O] rfl rfl HT_.out (Or.inl ⟨by rfl, ?_⟩) ?_ ?_
      rotate_left
      ·intro w'
       go_simp
       with_reducible rfl
      rotate_left
      ·simp only [Act.put, sqA, sqB, sqC, i64_w, i32_w]
       rfl
      refine sqP (i := 3) (N := some 21) (v := ?_) (a' := ?_) #[I,I,I,I,O,O,O,O,O,O,O,O,O,O,O,O,O,O,O,O,O,O,O,O,O,O,O,O] rfl rfl HT_.out (Or.inl ⟨by rfl, ?_⟩) ?_ ?_
      rotate_left
      ·intro w'
       go_simp
       with_reducible rfl
      rotate_left
      ·simp only [Act.put, sqA, sqB, sqC, i64_w, i32_w]
       rfl
      refine sqP (i := 4) (N := some 22) (v := ?_) (a' := ?_) #[I,I,I,I,I,O,O,O,O,O,O,O,O,O,O,O,O,O,O,O,O,O,O,O,O,O,O,O] rfl rfl HT_.out (Or.inl ⟨by rfl, ?_⟩) ?_ ?_
      rotate_left
      ·intro w'
       go_simp
       with_reducible rfl
      rotate_left
      ·simp only [Act.put, sqA, sqB, sqC, i64_w, i32_w]
       rfl
      refine sqP (i := 5) (N := some 23) (v := ?_) (a' := ?_) #[I,I,I,I,I,I,O,O,O,O,O,O,O,O,O,O,O,O,O,O,O,O,O,O,O,O,O,O] rfl rfl HT_.out (Or.inl ⟨by rfl, ?_⟩) ?_ ?_
      rotate_left
      ·intro w'
       go_simp
       with_reducible rfl
      rotate_left
      ·simp only [Act.put, sqA, sqB, sqC, i64_w, i32_w]
       rfl
      refine take_ (i := 6) (N := some 24) (v := ?_) (a' := ?_) #[I,I,I,I,I,I,I,O,O,O,O,O,O,O,O,O,O,O,O,O,O,O,O,O,O,O,O,O] rfl rfl (take_ofW HT_.out HW_.out (by kernel_rfl)) (fun _ _ _ h => h) (Or.inl ⟨by rfl, ?_⟩) hHeld ?_ ?_
      rotate_left
      ·rintro w' ⟨s0, s1, s2, s3, s4, s5, s6, s7, s8, s9, s10, s11⟩
       go_simp
       with_reducible rfl
      rotate_left
      ·simp only [Act.put, sqA, sqB, sqC, i64_w, i32_w]
       rfl
      refine take_ (i := 7) (N := some 25) (v := ?_) (a' := ?_) #[I,I,I,I,I,I,I,I,O,O,O,O,O,O,O,O,O,O,O,O,O,O,O,O,O,O,O,O] rfl rfl (take_ofW HT_.out HW_.out (by kernel_rfl)) (fun _ _ _ h => h) (Or.inl ⟨by rfl, ?_⟩) hHeld ?_ ?_
      rotate_left
      ·rintro w' ⟨s0, s1, s2, s3, s4, s5, s6, s7, s8, s9, s10, s11⟩
       go_simp
       with_reducible rfl
      rotate_left
      ·simp only [Act.put, sqA, sqB, sqC, i64_w, i32_w]
       rfl
      refine sqP (i := 8) (N := some 26) (v := ?_) (a' := ?_) #[I,I,I,I,I,I,I,I,I,O,O,O,O,O,O,O,O,O,O,O,O,O,O,O,O,O,O,O] rfl rfl HT_.out (Or.inl ⟨by rfl, ?_⟩) ?_ ?_
      rotate_left
      ·intro w'
       go_simp
       with_reducible rfl
      rotate_left
      ·simp only [Act.put, sqA, sqB, sqC, i64_w, i32_w]
       rfl
      refine sqP (i := 9) (N := some 27) (v := ?_) (a' := ?_) #[I,I,I,I,I,I,I,I,I,I,O,O,O,O,O,O,O,O,O,O,O,O,O,O,O,O,O,O] rfl rfl HT_.out (Or.inl ⟨by rfl, ?_⟩) ?_ ?_
      rotate_left
      ·intro w'
       go_simp
       with_reducible rfl
      rotate_left
      ·simp only [Act.put, sqA, sqB, sqC, i64_w, i32_w]
       rfl
      refine sqP (i := 10) (N := some 28) (v := ?_) (a' := ?_) #[I,I,I,I,I,I,I,I,I,I,I,O,O,O,O,O,O,O,O,O,O,O,O,O,O,O,O,O] rfl rfl HT_.out (Or.inl ⟨by rfl, ?_⟩) ?_ ?_
      rotate_left
      ·intro w'
       go_simp
       with_reducible rfl
      rotate_left
      ·simp only [Act.put, sqA, sqB, sqC, i64_w, i32_w]
       rfl
      refine sqP (i := 11) (N := some 29) (v := ?_) (a' := ?_) #[I,I,I,I,I,I,I,I,I,I,I,I,O,O,O,O,O,O,O,O,O,O,O,O,O,O,O,O] rfl rfl HT_.out (Or.inl ⟨by rfl, ?_⟩) ?_ ?_
      rotate_left
      ·intro w'
       go_simp
       with_reducible rfl
      rotate_left
      ·simp only [Act.put, sqA, sqB, sqC, i64_w, i32_w]
       rfl
      refine one_ (i := 12) (N := some 30) #[I,I,I,I,I,I,I,I,I,I,I,I,I,O,O,O,O,O,O,O,O,O,O,O,O,O,O,O] rfl rfl (one_of HT_.out (by kernel_rfl)) (by decide) (fun K hK => ?_)
      refine goes_ Try.func60 (by kernel_rfl) rfl #[.slice (some ad662) t659.length co28] (by rfl) rfl rfl (by (try simp only [List.map_toArray, List.map_cons, List.map_nil]); first | done | rfl | (simp only [List.length_drop, List.length_take]; rfl)) ?_
      with_reducible refine (pair_May.calls k _ _ t659 true _ ?side1 ?side2 A7.out).mono ?_
      (case side1 => repeat (first | exact (Kd.R_reads' HO661.out).2.2 | (with_reducible refine Kd.C_alloc ?_ _) | (with_reducible refine Kd.C_drewN ?_ _) | (with_reducible refine Kd.C_drew ?_)))
      (case side2 => exact (Kd.R_reads' HO661.out).2.1)
      rintro e w29 ⟨rfl, hb⟩
      have HS8_ := (hb.cell (World.block_lt_of_cell? _ _ (hHeld.2.2.2.2.2.2.2.2.1))).trans (hHeld.2.2.2.2.2.2.2.2.1)
      have HS9_ := (hb.cell (World.block_lt_of_cell? _ _ (hHeld.2.2.2.2.2.2.2.2.2.1))).trans (hHeld.2.2.2.2.2.2.2.2.2.1)
      have HS10_ := (hb.cell (World.block_lt_of_cell? _ _ (hHeld.2.2.2.2.2.2.2.2.2.2.1))).trans (hHeld.2.2.2.2.2.2.2.2.2.2.1)
      have HS11_ := (hb.cell (World.block_lt_of_cell? _ _ (hHeld.2.2.2.2.2.2.2.2.2.2.2))).trans (hHeld.2.2.2.2.2.2.2.2.2.2.2)
      refine ⟨_, rfl, ?_⟩
      have n0_ := Aside0.mk (Kd.R_below (by (with_reducible repeat (first | apply Kd.R_alloc | apply Kd.R_drewN | apply Kd.R_drew)); exact HO652.out) hb)
      have n1_ := Aside0.mk (Kd.R_below (by (with_reducible repeat (first | apply Kd.R_alloc | apply Kd.R_drewN | apply Kd.R_drew)); exact HO655.out) hb)
      have n2_ := Aside0.mk (Kd.R_below (by (with_reducible repeat (first | apply Kd.R_alloc | apply Kd.R_drewN | apply Kd.R_drew)); exact HO658.out) hb)
      have n3_ := Aside0.mk (Kd.R_below (by (with_reducible repeat (first | apply Kd.R_alloc | apply Kd.R_drewN | apply Kd.R_drew)); exact HO661.out) hb)
      have n4_ := Aside0.mk (blk_below (g := gb648) (o := .cells #[.string (⟨#[97]⟩ : ByteArray), .string (⟨#[120]⟩ : ByteArray), .int .i64 0, .int .i64 1] 57 (0, 0)) (by (with_reducible repeat (first | apply blN | apply blD | apply blA)); exact BK648.out) hb)
      have n5_ := Aside0.mk (blk_below (g := gb649) (o := .cells #[.string (⟨#[97]⟩ : ByteArray), .string (⟨#[120]⟩ : ByteArray), .int .i64 0, .int .i64 2] 57 (0, 0)) (by (with_reducible repeat (first | apply blN | apply blD | apply blA)); exact BK649.out) hb)
      have n6_ := Aside0.mk (below_step (by repeat (first | (with_reducible first | exact HB.out | apply below_alloc | apply pw_below_drewN | apply below_drew1 | refine below_set ?_ GE648.out | refine below_set ?_ GE649.out) | exact HB.out)) hb)
      clear HO652
      clear HO655
      clear HO658
      clear HO661
      clear BK648
      clear BK649
      clear HB
      have HO652 := n0_
      have HO655 := n1_
      have HO658 := n2_
      have HO661 := n3_
      have BK648 := n4_
      have BK649 := n5_
      have HB := n6_
      clear n0_ n1_ n2_ n3_ n4_ n5_ n6_
      (try clear hb)
      (try clear hb2)
      (try clear hk)
      (try clear hi)
      refine hK.out _ _ ⟨(blk_cell BK649.out 0).trans rfl, (blk_cell BK649.out 1).trans rfl, (blk_cell BK649.out 2).trans rfl, (blk_cell BK649.out 3).trans rfl, (blk_cell BK648.out 0).trans rfl, (blk_cell BK648.out 1).trans rfl, (blk_cell BK648.out 2).trans rfl, (blk_cell BK648.out 3).trans rfl, HS8_, HS9_, HS10_, HS11_⟩ (fun hHeld => ?_)
      clear hK K
      refine norm_ (a' := ?_) ?_ ?_
      rotate_left
      ·show Act.put _ (some 30) _ = _
       simp only [Act.put, sqA, sqB, sqC, i64_w, i32_w]
       rfl
      refine sqP (i := 13) (N := some 31) (v := ?_) (a' := ?_) #[I,I,I,I,I,I,I,I,I,I,I,I,I,I,O,O,O,O,O,O,O,O,O,O,O,O,O,O] rfl rfl HT_.out (Or.inl ⟨by rfl, ?_⟩) ?_ ?_
      rotate_left
      ·intro w'
       go_simp
       with_reducible rfl
      rotate_left
      ·simp only [Act.put, sqA, sqB, sqC, i64_w, i32_w]
       rfl
      refine sqP (i := 14) (N := some 32) (v := ?_) (a' := ?_) #[I,I,I,I,I,I,I,I,I,I,I,I,I,I,I,O,O,O,O,O,O,O,O,O,O,O,O,O] rfl rfl HT_.out (Or.inl ⟨by rfl, ?_⟩) ?_ ?_
      rotate_left
      ·intro w'
       go_simp
       with_reducible rfl
      rotate_left
      ·simp only [Act.put, sqA, sqB, sqC, i64_w, i32_w]
       rfl
      refine take_ (i := 15) (N := some 33) (v := ?_) (a' := ?_) #[I,I,I,I,I,I,I,I,I,I,I,I,I,I,I,I,O,O,O,O,O,O,O,O,O,O,O,O] rfl rfl (take_ofW HT_.out HW_.out (by kernel_rfl)) (fun _ _ _ h => h) (Or.inl ⟨by rfl, ?_⟩) hHeld ?_ ?_
      rotate_left
      ·rintro w' ⟨s0, s1, s2, s3, s4, s5, s6, s7, s8, s9, s10, s11⟩
       go_simp
       with_reducible rfl
      rotate_left
      ·simp only [Act.put, sqA, sqB, sqC, i64_w, i32_w]
       rfl
      refine take_ (i := 16) (N := some 34) (v := ?_) (a' := ?_) #[I,I,I,I,I,I,I,I,I,I,I,I,I,I,I,I,I,O,O,O,O,O,O,O,O,O,O,O] rfl rfl (take_ofW HT_.out HW_.out (by kernel_rfl)) (fun _ _ _ h => h) (Or.inl ⟨by rfl, ?_⟩) hHeld ?_ ?_
      rotate_left
      ·rintro w' ⟨s0, s1, s2, s3, s4, s5, s6, s7, s8, s9, s10, s11⟩
       go_simp
       with_reducible rfl
      rotate_left
      ·simp only [Act.put, sqA, sqB, sqC, i64_w, i32_w]
       rfl
      refine one_ (i := 17) (N := some 35) #[I,I,I,I,I,I,I,I,I,I,I,I,I,I,I,I,I,I,O,O,O,O,O,O,O,O,O,O] rfl rfl (one_of HT_.out (by kernel_rfl)) (by decide) (fun K hK => ?_)
      refine goes_ Try.func59 (by kernel_rfl) rfl #[.agg #[.string (⟨#[97]⟩ : ByteArray), .string (⟨#[120]⟩ : ByteArray), .int .i64 0, .int .i64 1], .agg #[.string (⟨#[97]⟩ : ByteArray), .string (⟨#[120]⟩ : ByteArray), .int .i64 0, .int .i64 2]] (by rfl) rfl rfl (by (try simp only [List.map_toArray, List.map_cons, List.map_nil]); first | done | rfl | (simp only [List.length_drop, List.length_take]; rfl)) ?_
      with_reducible refine (pair_Less.calls k (⟨#[97]⟩ : ByteArray) (⟨#[120]⟩ : ByteArray) 0 1 (⟨#[97]⟩ : ByteArray) (⟨#[120]⟩ : ByteArray) 0 2 true _ A9.out).mono ?_
      rintro e w30 ⟨rfl, hb⟩
      have HS8_ := (hb.cell (World.block_lt_of_cell? _ _ (hHeld.2.2.2.2.2.2.2.2.1))).trans (hHeld.2.2.2.2.2.2.2.2.1)
      have HS9_ := (hb.cell (World.block_lt_of_cell? _ _ (hHeld.2.2.2.2.2.2.2.2.2.1))).trans (hHeld.2.2.2.2.2.2.2.2.2.1)
      have HS10_ := (hb.cell (World.block_lt_of_cell? _ _ (hHeld.2.2.2.2.2.2.2.2.2.2.1))).trans (hHeld.2.2.2.2.2.2.2.2.2.2.1)
      have HS11_ := (hb.cell (World.block_lt_of_cell? _ _ (hHeld.2.2.2.2.2.2.2.2.2.2.2))).trans (hHeld.2.2.2.2.2.2.2.2.2.2.2)
      refine ⟨_, rfl, ?_⟩
      have n0_ := Aside0.mk (Kd.R_below (by (with_reducible repeat (first | apply Kd.R_alloc | apply Kd.R_drewN | apply Kd.R_drew)); exact HO652.out) hb)
      have n1_ := Aside0.mk (Kd.R_below (by (with_reducible repeat (first | apply Kd.R_alloc | apply Kd.R_drewN | apply Kd.R_drew)); exact HO655.out) hb)
      have n2_ := Aside0.mk (Kd.R_below (by (with_reducible repeat (first | apply Kd.R_alloc | apply Kd.R_drewN | apply Kd.R_drew)); exact HO658.out) hb)
      have n3_ := Aside0.mk (Kd.R_below (by (with_reducible repeat (first | apply Kd.R_alloc | apply Kd.R_drewN | apply Kd.R_drew)); exact HO661.out) hb)
      have n4_ := Aside0.mk (blk_below (g := gb648) (o := .cells #[.string (⟨#[97]⟩ : ByteArray), .string (⟨#[120]⟩ : ByteArray), .int .i64 0, .int .i64 1] 57 (0, 0)) (by (with_reducible repeat (first | apply blN | apply blD | apply blA)); exact BK648.out) hb)
      have n5_ := Aside0.mk (blk_below (g := gb649) (o := .cells #[.string (⟨#[97]⟩ : ByteArray), .string (⟨#[120]⟩ : ByteArray), .int .i64 0, .int .i64 2] 57 (0, 0)) (by (with_reducible repeat (first | apply blN | apply blD | apply blA)); exact BK649.out) hb)
      have n6_ := Aside0.mk (below_step (by repeat (first | (with_reducible first | exact HB.out | apply below_alloc | apply pw_below_drewN | apply below_drew1 | refine below_set ?_ GE648.out | refine below_set ?_ GE649.out) | exact HB.out)) hb)
      clear HO652
      clear HO655
      clear HO658
      clear HO661
      clear BK648
      clear BK649
      clear HB
      have HO652 := n0_
      have HO655 := n1_
      have HO658 := n2_
      have HO661 := n3_
      have BK648 := n4_
      have BK649 := n5_
      have HB := n6_
      clear n0_ n1_ n2_ n3_ n4_ n5_ n6_
      (try clear hb)
      (try clear hb2)
      (try clear hk)
      (try clear hi)
      refine hK.out _ _ ⟨(blk_cell BK649.out 0).trans rfl, (blk_cell BK649.out 1).trans rfl, (blk_cell BK649.out 2).trans rfl, (blk_cell BK649.out 3).trans rfl, (blk_cell BK648.out 0).trans rfl, (blk_cell BK648.out 1).trans rfl, (blk_cell BK648.out 2).trans rfl, (blk_cell BK648.out 3).trans rfl, HS8_, HS9_, HS10_, HS11_⟩ (fun hHeld => ?_)
      clear hK K
      refine norm_ (a' := ?_) ?_ ?_
      rotate_left
      ·show Act.put _ (some 35) _ = _
       simp only [Act.put, sqA, sqB, sqC, i64_w, i32_w]
       rfl
      refine sqP (i := 18) (N := some 36) (v := ?_) (a' := ?_) #[I,I,I,I,I,I,I,I,I,I,I,I,I,I,I,I,I,I,I,O,O,O,O,O,O,O,O,O] rfl rfl HT_.out (Or.inl ⟨by rfl, ?_⟩) ?_ ?_
      rotate_left
      ·intro w'
       go_simp
       with_reducible rfl
      rotate_left
      ·simp only [Act.put, sqA, sqB, sqC, i64_w, i32_w]
       rfl
      refine sqP (i := 19) (N := some 37) (v := ?_) (a' := ?_) #[I,I,I,I,I,I,I,I,I,I,I,I,I,I,I,I,I,I,I,I,O,O,O,O,O,O,O,O] rfl rfl HT_.out (Or.inl ⟨by rfl, ?_⟩) ?_ ?_
      rotate_left
      ·intro w'
       go_simp
       with_reducible rfl
      rotate_left
      ·simp only [Act.put, sqA, sqB, sqC, i64_w, i32_w]
       rfl
      refine take_ (i := 20) (N := some 38) (v := ?_) (a' := ?_) #[I,I,I,I,I,I,I,I,I,I,I,I,I,I,I,I,I,I,I,I,I,O,O,O,O,O,O,O] rfl rfl (take_ofW HT_.out HW_.out (by kernel_rfl)) (fun _ _ _ h => h) (Or.inl ⟨by rfl, ?_⟩) hHeld ?_ ?_
      rotate_left
      ·rintro w' ⟨s0, s1, s2, s3, s4, s5, s6, s7, s8, s9, s10, s11⟩
       go_simp
       with_reducible rfl
      rotate_left
      ·simp only [Act.put, sqA, sqB, sqC, i64_w, i32_w]
       rfl
      refine take_ (i := 21) (N := some 39) (v := ?_) (a' := ?_) #[I,I,I,I,I,I,I,I,I,I,I,I,I,I,I,I,I,I,I,I,I,I,O,O,O,O,O,O] rfl rfl (take_ofW HT_.out HW_.out (by kernel_rfl)) (fun _ _ _ h => h) (Or.inl ⟨by rfl, ?_⟩) hHeld ?_ ?_
      rotate_left
      ·rintro w' ⟨s0, s1, s2, s3, s4, s5, s6, s7, s8, s9, s10, s11⟩
       go_simp
       with_reducible rfl
      rotate_left
      ·simp only [Act.put, sqA, sqB, sqC, i64_w, i32_w]
       rfl
      refine one_ (i := 22) (N := some 40) #[I,I,I,I,I,I,I,I,I,I,I,I,I,I,I,I,I,I,I,I,I,I,I,O,O,O,O,O] rfl rfl (one_of HT_.out (by kernel_rfl)) (by decide) (fun K hK => ?_)
      refine Kd.R_lit_step k57 _ 57 ?hg (N := 40) ?hd (xs := ([(⟨(⟨#[97]⟩ : ByteArray), (⟨#[120]⟩ : ByteArray), (⟨0, 1⟩ : S24)⟩ : S57), (⟨(⟨#[97]⟩ : ByteArray), (⟨#[120]⟩ : ByteArray), (⟨0, 2⟩ : S24)⟩ : S57)] : List (S57))) (inner := [.string (⟨#[97]⟩ : ByteArray), .string (⟨#[120]⟩ : ByteArray), .int .i64 0, .int .i64 1, .string (⟨#[97]⟩ : ByteArray), .string (⟨#[120]⟩ : ByteArray), .int .i64 0, .int .i64 2]) (ok := fun _ => True) (okp := fun _ => True) ?hr ?hp (fun _ hk => hk) trivial (Below.refl _ _) (Nat.le_refl _) (by simp) ?_; (case hd => rfl); (case hg => rfl); (case hr => first | (go_simp; done) | (go_simp; rfl)); (case hp => exact (Reps.c4 (show Kd.M k57 _ _ _ (⟨(⟨#[97]⟩ : ByteArray), (⟨#[120]⟩ : ByteArray), (⟨0, 1⟩ : S24)⟩ : S57) [.string (⟨#[97]⟩ : ByteArray), .string (⟨#[120]⟩ : ByteArray), .int .i64 0, .int .i64 1] from (k57_mkM _ _ _ (⟨(⟨#[97]⟩ : ByteArray), (⟨#[120]⟩ : ByteArray), (⟨0, 1⟩ : S24)⟩ : S57) )) (Reps.c4 (show Kd.M k57 _ _ _ (⟨(⟨#[97]⟩ : ByteArray), (⟨#[120]⟩ : ByteArray), (⟨0, 2⟩ : S24)⟩ : S57) [.string (⟨#[97]⟩ : ByteArray), .string (⟨#[120]⟩ : ByteArray), .int .i64 0, .int .i64 2] from (k57_mkM _ _ _ (⟨(⟨#[97]⟩ : ByteArray), (⟨#[120]⟩ : ByteArray), (⟨0, 2⟩ : S24)⟩ : S57) )) (Reps.none _ _))))
      intro v666 w31 ho32 hb hg_ hnew_
      have HS8_ := (hb.cell (World.block_lt_of_cell? _ _ (hHeld.2.2.2.2.2.2.2.2.1))).trans (hHeld.2.2.2.2.2.2.2.2.1)
      have HS9_ := (hb.cell (World.block_lt_of_cell? _ _ (hHeld.2.2.2.2.2.2.2.2.2.1))).trans (hHeld.2.2.2.2.2.2.2.2.2.1)
      have HS10_ := (hb.cell (World.block_lt_of_cell? _ _ (hHeld.2.2.2.2.2.2.2.2.2.2.1))).trans (hHeld.2.2.2.2.2.2.2.2.2.2.1)
      have HS11_ := (hb.cell (World.block_lt_of_cell? _ _ (hHeld.2.2.2.2.2.2.2.2.2.2.2))).trans (hHeld.2.2.2.2.2.2.2.2.2.2.2)
      clear hg_ hnew_
      (first | rw [← Ny665.out] at ho32 | (simp only [Int.reduceToNat] at ho32; rw [← Ny665.out] at ho32))
      have n0_ := Aside0.mk (Kd.R_elder' (by (with_reducible repeat (first | apply Kd.R_alloc | apply Kd.R_drewN | apply Kd.R_drew)); exact HO652.out) (Kd.R_base ho32) hb)
      have n1_ := Aside0.mk (Kd.R_elder' (by (with_reducible repeat (first | apply Kd.R_alloc | apply Kd.R_drewN | apply Kd.R_drew)); exact HO655.out) (Kd.R_base ho32) hb)
      have n2_ := Aside0.mk (Kd.R_elder' (by (with_reducible repeat (first | apply Kd.R_alloc | apply Kd.R_drewN | apply Kd.R_drew)); exact HO658.out) (Kd.R_base ho32) hb)
      have n3_ := Aside0.mk (Kd.R_elder' (by (with_reducible repeat (first | apply Kd.R_alloc | apply Kd.R_drewN | apply Kd.R_drew)); exact HO661.out) (Kd.R_base ho32) hb)
      have n4_ := Aside0.mk (Kd.R_lower (Kd.R_newB (Kd.R_newB (Kd.R_new' (Kd.R_new' (Kd.R_new' (Kd.R_new' ho32 (Kd.R_lt (by (with_reducible repeat (first | apply Kd.R_alloc | apply Kd.R_drewN | apply Kd.R_drew)); exact HO652.out))) (Kd.R_lt (by (with_reducible repeat (first | apply Kd.R_alloc | apply Kd.R_drewN | apply Kd.R_drew)); exact HO655.out))) (Kd.R_lt (by (with_reducible repeat (first | apply Kd.R_alloc | apply Kd.R_drewN | apply Kd.R_drew)); exact HO658.out))) (Kd.R_lt (by (with_reducible repeat (first | apply Kd.R_alloc | apply Kd.R_drewN | apply Kd.R_drew)); exact HO661.out))) (g := gb648) (o := .cells #[.string (⟨#[97]⟩ : ByteArray), .string (⟨#[120]⟩ : ByteArray), .int .i64 0, .int .i64 1] 57 (0, 0)) (by (with_reducible repeat (first | apply blN | apply blD | apply blA)); exact BK648.out)) (g := gb649) (o := .cells #[.string (⟨#[97]⟩ : ByteArray), .string (⟨#[120]⟩ : ByteArray), .int .i64 0, .int .i64 2] 57 (0, 0)) (by (with_reducible repeat (first | apply blN | apply blD | apply blA)); exact BK649.out)) (below_size (by repeat (first | (with_reducible first | exact HB.out | apply below_alloc | apply pw_below_drewN | apply below_drew1 | refine below_set ?_ GE648.out | refine below_set ?_ GE649.out) | exact HB.out))))
      have n5_ := Aside0.mk (blk_below (g := gb648) (o := .cells #[.string (⟨#[97]⟩ : ByteArray), .string (⟨#[120]⟩ : ByteArray), .int .i64 0, .int .i64 1] 57 (0, 0)) (by (with_reducible repeat (first | apply blN | apply blD | apply blA)); exact BK648.out) hb)
      have n6_ := Aside0.mk (blk_below (g := gb649) (o := .cells #[.string (⟨#[97]⟩ : ByteArray), .string (⟨#[120]⟩ : ByteArray), .int .i64 0, .int .i64 2] 57 (0, 0)) (by (with_reducible repeat (first | apply blN | apply blD | apply blA)); exact BK649.out) hb)
      have n7_ := Aside0.mk (below_step (by repeat (first | (with_reducible first | exact HB.out | apply below_alloc | apply pw_below_drewN | apply below_drew1 | refine below_set ?_ GE648.out | refine below_set ?_ GE649.out) | exact HB.out)) hb)
      clear HO652
      clear HO655
      clear HO658
      clear HO661
      clear BK648
      clear BK649
      clear HB
      have HO652 := n0_
      have HO655 := n1_
      have HO658 := n2_
      have HO661 := n3_
      have HO667 := n4_
      have BK648 := n5_
      have BK649 := n6_
      have HB := n7_
      clear n0_ n1_ n2_ n3_ n4_ n5_ n6_ n7_
      clear hb ho32
      obtain ⟨Ao33, co33, eo33⟩ := Kd.R_slice HO667.out
      (first | subst eo33 | (injection eo33 with f1_ f2_ f3_; have f4_ := f1_.symm; have f5_ := f3_.symm; clear f1_ f2_ f3_; subst f4_; subst f5_))
      refine hK.out _ _ ⟨(blk_cell BK649.out 0).trans rfl, (blk_cell BK649.out 1).trans rfl, (blk_cell BK649.out 2).trans rfl, (blk_cell BK649.out 3).trans rfl, (blk_cell BK648.out 0).trans rfl, (blk_cell BK648.out 1).trans rfl, (blk_cell BK648.out 2).trans rfl, (blk_cell BK648.out 3).trans rfl, HS8_, HS9_, HS10_, HS11_⟩ (fun hHeld => ?_)
      clear hK K
      refine norm_ (a' := ?_) ?_ ?_
      rotate_left
      ·show Act.put _ (some 40) _ = _
       simp only [Act.put, sqA, sqB, sqC, i64_w, i32_w]
       rfl
      refine one_ (i := 23) (N := some 41) #[I,I,I,I,I,I,I,I,I,I,I,I,I,I,I,I,I,I,I,I,I,I,I,I,O,O,O,O] rfl rfl (one_of HT_.out (by kernel_rfl)) (by decide) (fun K hK => ?_)
      refine goes_ Try.func56 (by kernel_rfl) rfl #[.slice Ao33 y665.length co33, .string (⟨#[97]⟩ : ByteArray)] (by rfl) rfl rfl (by (try simp only [List.map_toArray, List.map_cons, List.map_nil]); first | done | rfl | (simp only [List.length_drop, List.length_take]; rfl)) ?_
      with_reducible refine (pair_Elems.calls _ _ y665 (⟨#[97]⟩ : ByteArray) t668 _ ?side1 ?side2 A11.out).mono ?_
      (case side1 => repeat (first | exact (Kd.R_reads' HO667.out).2.2 | (with_reducible refine Kd.C_alloc ?_ _) | (with_reducible refine Kd.C_drewN ?_ _) | (with_reducible refine Kd.C_drew ?_)))
      (case side2 => exact (Kd.R_reads' HO667.out).2.1)
      rintro e w34 ⟨v669, rfl, ho0, hb⟩
      have HS8_ := (hb.cell (World.block_lt_of_cell? _ _ (hHeld.2.2.2.2.2.2.2.2.1))).trans (hHeld.2.2.2.2.2.2.2.2.1)
      have HS9_ := (hb.cell (World.block_lt_of_cell? _ _ (hHeld.2.2.2.2.2.2.2.2.2.1))).trans (hHeld.2.2.2.2.2.2.2.2.2.1)
      have HS10_ := (hb.cell (World.block_lt_of_cell? _ _ (hHeld.2.2.2.2.2.2.2.2.2.2.1))).trans (hHeld.2.2.2.2.2.2.2.2.2.2.1)
      have HS11_ := (hb.cell (World.block_lt_of_cell? _ _ (hHeld.2.2.2.2.2.2.2.2.2.2.2))).trans (hHeld.2.2.2.2.2.2.2.2.2.2.2)
      refine ⟨_, rfl, ?_⟩
      have n0_ := Aside0.mk (Kd.R_below (by (with_reducible repeat (first | apply Kd.R_alloc | apply Kd.R_drewN | apply Kd.R_drew)); exact HO652.out) hb)
      have n1_ := Aside0.mk (Kd.R_below (by (with_reducible repeat (first | apply Kd.R_alloc | apply Kd.R_drewN | apply Kd.R_drew)); exact HO655.out) hb)
      have n2_ := Aside0.mk (Kd.R_below (by (with_reducible repeat (first | apply Kd.R_alloc | apply Kd.R_drewN | apply Kd.R_drew)); exact HO658.out) hb)
      have n3_ := Aside0.mk (Kd.R_below (by (with_reducible repeat (first | apply Kd.R_alloc | apply Kd.R_drewN | apply Kd.R_drew)); exact HO661.out) hb)
      have n4_ := Aside0.mk (Kd.R_below (by (with_reducible repeat (first | apply Kd.R_alloc | apply Kd.R_drewN | apply Kd.R_drew)); exact HO667.out) hb)
      have n5_ := Aside0.mk (Kd.R_lower ho0 (below_size (by repeat (first | (with_reducible first | exact HB.out | apply below_alloc | apply pw_below_drewN | apply below_drew1 | refine below_set ?_ GE648.out | refine below_set ?_ GE649.out) | exact HB.out))))
      have n6_ := Aside0.mk (blk_below (g := gb648) (o := .cells #[.string (⟨#[97]⟩ : ByteArray), .string (⟨#[120]⟩ : ByteArray), .int .i64 0, .int .i64 1] 57 (0, 0)) (by (with_reducible repeat (first | apply blN | apply blD | apply blA)); exact BK648.out) hb)
      have n7_ := Aside0.mk (blk_below (g := gb649) (o := .cells #[.string (⟨#[97]⟩ : ByteArray), .string (⟨#[120]⟩ : ByteArray), .int .i64 0, .int .i64 2] 57 (0, 0)) (by (with_reducible repeat (first | apply blN | apply blD | apply blA)); exact BK649.out) hb)
      have n8_ := Aside0.mk (below_step (by repeat (first | (with_reducible first | exact HB.out | apply below_alloc | apply pw_below_drewN | apply below_drew1 | refine below_set ?_ GE648.out | refine below_set ?_ GE649.out) | exact HB.out)) hb)
      clear HO652
      clear HO655
      clear HO658
      clear HO661
      clear HO667
      clear BK648
      clear BK649
      clear HB
      have HO652 := n0_
      have HO655 := n1_
      have HO658 := n2_
      have HO661 := n3_
      have HO667 := n4_
      have HO670 := n5_
      have BK648 := n6_
      have BK649 := n7_
      have HB := n8_
      clear n0_ n1_ n2_ n3_ n4_ n5_ n6_ n7_ n8_
      (try clear hb)
      (try clear hb2)
      (try clear hk)
      (try clear hi)
      (try clear ho0)
      obtain ⟨Ao35, co35, eo35⟩ := Kd.R_slice HO670.out
      (first | subst eo35 | (injection eo35 with f1_ f2_ f3_; have f4_ := f1_.symm; have f5_ := f3_.symm; clear f1_ f2_ f3_; subst f4_; subst f5_))
      refine hK.out _ _ ⟨(blk_cell BK649.out 0).trans rfl, (blk_cell BK649.out 1).trans rfl, (blk_cell BK649.out 2).trans rfl, (blk_cell BK649.out 3).trans rfl, (blk_cell BK648.out 0).trans rfl, (blk_cell BK648.out 1).trans rfl, (blk_cell BK648.out 2).trans rfl, (blk_cell BK648.out 3).trans rfl, HS8_, HS9_, HS10_, HS11_⟩ (fun hHeld => ?_)
      clear hK K
      refine norm_ (a' := ?_) ?_ ?_
      rotate_left
      ·show Act.put _ (some 41) _ = _
       simp only [Act.put, sqA, sqB, sqC, i64_w, i32_w]
       rfl
      refine sqP (i := 24) (N := some 42) (v := ?_) (a' := ?_) #[I,I,I,I,I,I,I,I,I,I,I,I,I,I,I,I,I,I,I,I,I,I,I,I,I,O,O,O] rfl rfl HT_.out (Or.inl ⟨by rfl, ?_⟩) ?_ ?_
      rotate_left
      ·intro w'
       go_simp
       with_reducible rfl
      rotate_left
      ·simp only [Act.put, sqA, sqB, sqC, i64_w, i32_w]
       rfl
      refine sqP (i := 25) (N := some 43) (v := ?_) (a' := ?_) #[I,I,I,I,I,I,I,I,I,I,I,I,I,I,I,I,I,I,I,I,I,I,I,I,I,I,O,O] rfl rfl HT_.out (Or.inl ⟨by rfl, ?_⟩) ?_ ?_
      rotate_left
      ·intro w'
       go_simp
       with_reducible rfl
      rotate_left
      ·simp only [Act.put, sqA, sqB, sqC, i64_w, i32_w]
       rfl
      refine sqP (i := 26) (N := some 44) (v := ?_) (a' := ?_) #[I,I,I,I,I,I,I,I,I,I,I,I,I,I,I,I,I,I,I,I,I,I,I,I,I,I,I,O] rfl rfl HT_.out (Or.inl ⟨by rfl, ?_⟩) ?_ ?_
      rotate_left
      ·intro w'
       go_simp
       with_reducible rfl
      rotate_left
      ·simp only [Act.put, sqA, sqB, sqC, i64_w, i32_w]
       rfl
      refine sqP (i := 27) (N := some 0) (v := ?_) (a' := ?_) #[I,I,I,I,I,I,I,I,I,I,I,I,I,I,I,I,I,I,I,I,I,I,I,I,I,I,I,I] rfl rfl HT_.out (Or.inl ⟨by rfl, ?_⟩) ?_ ?_
      rotate_left
      ·intro w'
       go_simp
       with_reducible rfl
      rotate_left
      ·simp only [Act.put, sqA, sqB, sqC, i64_w, i32_w]
       rfl
      refine done_ (done_of HT_.out (by kernel_rfl)) ?_
      try go_wp2
      go_ret
      exact ⟨by first | rfl | (simp [errW_none, errW_some] <;> rfl) | (simp [*, errW_none, errW_some] <;> rfl), by repeat (first | (with_reducible first | exact HB.out | apply below_alloc | apply pw_below_drewN | apply below_drew1 | refine below_set ?_ GE648.out | refine below_set ?_ GE649.out) | exact HB.out)⟩
     ·replace c10 := Bool.eq_false_iff.mpr c10
      subst c10
      have H1 : (some false) = some r := by rw [if_neg (show ¬ (false = true) by decide)] at H; exact H
      clear H
      have H := H1
      clear H1
      obtain rfl := Option.some.inj H
      go_enter Try.func45, Try.ntmps45
      try go_wp2_with (first | ((with_reducible refine gate_dst (N := 1) rfl ?_); (try (refine gate_guard (by rfl) ?_; dsimp only)); refine box_event ?hg (N := 1) ?hd (cs := #[.string (⟨#[]⟩ : ByteArray), .string (⟨#[]⟩ : ByteArray), .int .i64 0, .int .i64 0]) (t := 57) ?hr ?_; (case hd => rfl); (case hg => rfl); (case hr => first | (go_simp; done) | (go_simp; rfl)); intro gb648 hg w36 hbox hb; have n0_ := Aside0.mk (below_step (by repeat (first | (with_reducible first | exact HB.out | apply below_alloc | apply pw_below_drewN | apply below_drew1) | exact HB.out)) hb); have n1_ := Aside0.mk (hbox); have n2_ := Aside0.mk ((by rw [hg]; exact (below_size (by repeat (first | (with_reducible first | exact HB.out | apply below_alloc | apply pw_below_drewN | apply below_drew1) | exact HB.out))) : w.heap.size ≤ gb648)); have n3_ := Aside0.mk ((by rw [hg]; exact (below_size (by repeat (first | (with_reducible first | exact HB.out | apply below_alloc | apply pw_below_drewN | apply below_drew1) | exact HB.out))) : w.heap.size ≤ gb648)); clear HB; have HB := n0_; have BK648 := n1_; have GW648 := n2_; have GE648 := n3_; clear n0_ n1_ n2_ n3_; clear hb hbox hg; have hcz37_0 : w36.cell? ⟨gb648, 0, none⟩ = some (.string (⟨#[]⟩ : ByteArray)) := (blk_cell BK648.out 0).trans rfl; have hcz37_1 : w36.cell? ⟨gb648, 1, none⟩ = some (.string (⟨#[]⟩ : ByteArray)) := (blk_cell BK648.out 1).trans rfl; have hcz37_2 : w36.cell? ⟨gb648, 2, none⟩ = some (.int .i64 0) := (blk_cell BK648.out 2).trans rfl; have hcz37_3 : w36.cell? ⟨gb648, 3, none⟩ = some (.int .i64 0) := (blk_cell BK648.out 3).trans rfl; have hfz37_0 := blk_frozen BK648.out 0; have hfz37_1 := blk_frozen BK648.out 1; have hfz37_2 := blk_frozen BK648.out 2; have hfz37_3 := blk_frozen BK648.out 3) | ((with_reducible refine gate_dst (N := 2) rfl ?_); (try (refine gate_guard (by rfl) ?_; dsimp only)); refine box_event ?hg (N := 2) ?hd (cs := #[.string (⟨#[]⟩ : ByteArray), .string (⟨#[]⟩ : ByteArray), .int .i64 0, .int .i64 0]) (t := 57) ?hr ?_; (case hd => rfl); (case hg => rfl); (case hr => first | (go_simp; done) | (go_simp; rfl)); intro gb649 hg w38 hbox hb; have n0_ := Aside0.mk (blk_below (g := gb648) (o := .cells #[.string (⟨#[97]⟩ : ByteArray), .string (⟨#[120]⟩ : ByteArray), .int .i64 0, .int .i64 1] 57 (0, 0)) (by (with_reducible repeat (first | apply blN | apply blD | apply blA)); refine blk_put (cs := #[.string (⟨#[97]⟩ : ByteArray), .string (⟨#[120]⟩ : ByteArray), .int .i64 0, .int .i64 0]) ?_ 3 _ rfl; (with_reducible repeat (first | apply blN | apply blD | apply blA)); refine blk_put (cs := #[.string (⟨#[97]⟩ : ByteArray), .string (⟨#[120]⟩ : ByteArray), .int .i64 0, .int .i64 0]) ?_ 2 _ rfl; (with_reducible repeat (first | apply blN | apply blD | apply blA)); refine blk_put (cs := #[.string (⟨#[97]⟩ : ByteArray), .string (⟨#[]⟩ : ByteArray), .int .i64 0, .int .i64 0]) ?_ 1 _ rfl; (with_reducible repeat (first | apply blN | apply blD | apply blA)); refine blk_put (cs := #[.string (⟨#[]⟩ : ByteArray), .string (⟨#[]⟩ : ByteArray), .int .i64 0, .int .i64 0]) ?_ 0 _ rfl; (with_reducible repeat (first | apply blN | apply blD | apply blA)); exact BK648.out) hb); have n1_ := Aside0.mk (below_step (by repeat (first | (with_reducible first | exact HB.out | apply below_alloc | apply pw_below_drewN | apply below_drew1 | refine below_set ?_ GE648.out) | exact HB.out)) hb); have n2_ := Aside0.mk (hbox); have n3_ := Aside0.mk ((by rw [hg]; exact (below_size (by repeat (first | (with_reducible first | exact HB.out | apply below_alloc | apply pw_below_drewN | apply below_drew1 | refine below_set ?_ GE648.out) | exact HB.out))) : w.heap.size ≤ gb649)); have n4_ := Aside0.mk ((by rw [hg]; exact (below_size (by repeat (first | (with_reducible first | exact HB.out | apply below_alloc | apply pw_below_drewN | apply below_drew1 | refine below_set ?_ GE648.out) | exact HB.out))) : w.heap.size ≤ gb649)); have n5_ := Aside0.mk ((by rw [hg]; exact Nat.ne_of_lt (blk_lt (g := gb648) (o := .cells #[.string (⟨#[97]⟩ : ByteArray), .string (⟨#[120]⟩ : ByteArray), .int .i64 0, .int .i64 1] 57 (0, 0)) (by (with_reducible repeat (first | apply blN | apply blD | apply blA)); refine blk_put (cs := #[.string (⟨#[97]⟩ : ByteArray), .string (⟨#[120]⟩ : ByteArray), .int .i64 0, .int .i64 0]) ?_ 3 _ rfl; (with_reducible repeat (first | apply blN | apply blD | apply blA)); refine blk_put (cs := #[.string (⟨#[97]⟩ : ByteArray), .string (⟨#[120]⟩ : ByteArray), .int .i64 0, .int .i64 0]) ?_ 2 _ rfl; (with_reducible repeat (first | apply blN | apply blD | apply blA)); refine blk_put (cs := #[.string (⟨#[97]⟩ : ByteArray), .string (⟨#[]⟩ : ByteArray), .int .i64 0, .int .i64 0]) ?_ 1 _ rfl; (with_reducible repeat (first | apply blN | apply blD | apply blA)); refine blk_put (cs := #[.string (⟨#[]⟩ : ByteArray), .string (⟨#[]⟩ : ByteArray), .int .i64 0, .int .i64 0]) ?_ 0 _ rfl; (with_reducible repeat (first | apply blN | apply blD | apply blA)); exact BK648.out)) : gb648 ≠ gb649)); have n6_ := Aside0.mk ((by rw [hg]; exact Nat.ne_of_gt (blk_lt (g := gb648) (o := .cells #[.string (⟨#[97]⟩ : ByteArray), .string (⟨#[120]⟩ : ByteArray), .int .i64 0, .int .i64 1] 57 (0, 0)) (by (with_reducible repeat (first | apply blN | apply blD | apply blA)); refine blk_put (cs := #[.string (⟨#[97]⟩ : ByteArray), .string (⟨#[120]⟩ : ByteArray), .int .i64 0, .int .i64 0]) ?_ 3 _ rfl; (with_reducible repeat (first | apply blN | apply blD | apply blA)); refine blk_put (cs := #[.string (⟨#[97]⟩ : ByteArray), .string (⟨#[120]⟩ : ByteArray), .int .i64 0, .int .i64 0]) ?_ 2 _ rfl; (with_reducible repeat (first | apply blN | apply blD | apply blA)); refine blk_put (cs := #[.string (⟨#[97]⟩ : ByteArray), .string (⟨#[]⟩ : ByteArray), .int .i64 0, .int .i64 0]) ?_ 1 _ rfl; (with_reducible repeat (first | apply blN | apply blD | apply blA)); refine blk_put (cs := #[.string (⟨#[]⟩ : ByteArray), .string (⟨#[]⟩ : ByteArray), .int .i64 0, .int .i64 0]) ?_ 0 _ rfl; (with_reducible repeat (first | apply blN | apply blD | apply blA)); exact BK648.out)) : gb649 ≠ gb648)); clear BK648; clear HB; have BK648 := n0_; have HB := n1_; have BK649 := n2_; have GW649 := n3_; have GE649 := n4_; have NB648_649 := n5_; have NB649_648 := n6_; clear n0_ n1_ n2_ n3_ n4_ n5_ n6_; clear hb hbox hg; have hnb39 := NB649_648.out; have hnc39 := NB648_649.out; have hcz40_0 : w38.cell? ⟨gb649, 0, none⟩ = some (.string (⟨#[]⟩ : ByteArray)) := (blk_cell BK649.out 0).trans rfl; have hcz40_1 : w38.cell? ⟨gb649, 1, none⟩ = some (.string (⟨#[]⟩ : ByteArray)) := (blk_cell BK649.out 1).trans rfl; have hcz40_2 : w38.cell? ⟨gb649, 2, none⟩ = some (.int .i64 0) := (blk_cell BK649.out 2).trans rfl; have hcz40_3 : w38.cell? ⟨gb649, 3, none⟩ = some (.int .i64 0) := (blk_cell BK649.out 3).trans rfl; have hfz40_0 := blk_frozen BK649.out 0; have hfz40_1 := blk_frozen BK649.out 1; have hfz40_2 := blk_frozen BK649.out 2; have hfz40_3 := blk_frozen BK649.out 3; have hcz41_0 : w38.cell? ⟨gb648, 0, none⟩ = some (.string (⟨#[97]⟩ : ByteArray)) := (blk_cell BK648.out 0).trans rfl; have hcz41_1 : w38.cell? ⟨gb648, 1, none⟩ = some (.string (⟨#[120]⟩ : ByteArray)) := (blk_cell BK648.out 1).trans rfl; have hcz41_2 : w38.cell? ⟨gb648, 2, none⟩ = some (.int .i64 0) := (blk_cell BK648.out 2).trans rfl; have hcz41_3 : w38.cell? ⟨gb648, 3, none⟩ = some (.int .i64 1) := (blk_cell BK648.out 3).trans rfl; have hfz41_0 := blk_frozen BK648.out 0; have hfz41_1 := blk_frozen BK648.out 1; have hfz41_2 := blk_frozen BK648.out 2; have hfz41_3 := blk_frozen BK648.out 3) | ((with_reducible refine gate_dst (N := 10) rfl ?_); (try (refine gate_guard (by rfl) ?_; dsimp only)); refine Kd.R_lit k57 _ 57 ?hg (N := 10) ?hd (xs := ([(⟨(⟨#[97]⟩ : ByteArray), (⟨#[120]⟩ : ByteArray), (⟨0, 1⟩ : S24)⟩ : S57)] : List (S57))) (inner := [.string (⟨#[97]⟩ : ByteArray), .string (⟨#[120]⟩ : ByteArray), .int .i64 0, .int .i64 1]) (ok := fun _ => True) (okp := fun _ => True) ?hr ?hp (fun _ hk => hk) trivial (Below.refl _ _) (Nat.le_refl _) (by simp) ?_; (case hd => rfl); (case hg => rfl); (case hr => first | (go_simp; done) | (go_simp; rfl)); (case hp => exact (Reps.c4 (show Kd.M k57 _ _ _ (⟨(⟨#[97]⟩ : ByteArray), (⟨#[120]⟩ : ByteArray), (⟨0, 1⟩ : S24)⟩ : S57) [.string (⟨#[97]⟩ : ByteArray), .string (⟨#[120]⟩ : ByteArray), .int .i64 0, .int .i64 1] from (k57_mkM _ _ _ (⟨(⟨#[97]⟩ : ByteArray), (⟨#[120]⟩ : ByteArray), (⟨0, 1⟩ : S24)⟩ : S57) )) (Reps.none _ _))); intro v651 w42 ho43 hb hg_ hnew_; clear hg_ hnew_; (first | rw [← Ny650.out] at ho43 | (simp only [Int.reduceToNat] at ho43; rw [← Ny650.out] at ho43)); have n0_ := Aside0.mk (Kd.R_lower (Kd.R_newB (Kd.R_newB ho43 (g := gb648) (o := .cells #[.string (⟨#[97]⟩ : ByteArray), .string (⟨#[120]⟩ : ByteArray), .int .i64 0, .int .i64 1] 57 (0, 0)) (by (with_reducible repeat (first | apply blN | apply blD | apply blA)); refine blk_far ?_ NB648_649.out _; (with_reducible repeat (first | apply blN | apply blD | apply blA)); refine blk_far ?_ NB648_649.out _; (with_reducible repeat (first | apply blN | apply blD | apply blA)); refine blk_far ?_ NB648_649.out _; (with_reducible repeat (first | apply blN | apply blD | apply blA)); refine blk_far ?_ NB648_649.out _; (with_reducible repeat (first | apply blN | apply blD | apply blA)); exact BK648.out)) (g := gb649) (o := .cells #[.string (⟨#[97]⟩ : ByteArray), .string (⟨#[120]⟩ : ByteArray), .int .i64 0, .int .i64 2] 57 (0, 0)) (by (with_reducible repeat (first | apply blN | apply blD | apply blA)); refine blk_put (cs := #[.string (⟨#[97]⟩ : ByteArray), .string (⟨#[120]⟩ : ByteArray), .int .i64 0, .int .i64 0]) ?_ 3 _ rfl; (with_reducible repeat (first | apply blN | apply blD | apply blA)); refine blk_put (cs := #[.string (⟨#[97]⟩ : ByteArray), .string (⟨#[120]⟩ : ByteArray), .int .i64 0, .int .i64 0]) ?_ 2 _ rfl; (with_reducible repeat (first | apply blN | apply blD | apply blA)); refine blk_put (cs := #[.string (⟨#[97]⟩ : ByteArray), .string (⟨#[]⟩ : ByteArray), .int .i64 0, .int .i64 0]) ?_ 1 _ rfl; (with_reducible repeat (first | apply blN | apply blD | apply blA)); refine blk_put (cs := #[.string (⟨#[]⟩ : ByteArray), .string (⟨#[]⟩ : ByteArray), .int .i64 0, .int .i64 0]) ?_ 0 _ rfl; (with_reducible repeat (first | apply blN | apply blD | apply blA)); exact BK649.out)) (below_size (by repeat (first | (with_reducible first | exact HB.out | apply below_alloc | apply pw_below_drewN | apply below_drew1 | refine below_set ?_ GE648.out | refine below_set ?_ GE649.out) | exact HB.out)))); have n1_ := Aside0.mk (blk_below (g := gb648) (o := .cells #[.string (⟨#[97]⟩ : ByteArray), .string (⟨#[120]⟩ : ByteArray), .int .i64 0, .int .i64 1] 57 (0, 0)) (by (with_reducible repeat (first | apply blN | apply blD | apply blA)); refine blk_far ?_ NB648_649.out _; (with_reducible repeat (first | apply blN | apply blD | apply blA)); refine blk_far ?_ NB648_649.out _; (with_reducible repeat (first | apply blN | apply blD | apply blA)); refine blk_far ?_ NB648_649.out _; (with_reducible repeat (first | apply blN | apply blD | apply blA)); refine blk_far ?_ NB648_649.out _; (with_reducible repeat (first | apply blN | apply blD | apply blA)); exact BK648.out) hb); have n2_ := Aside0.mk (blk_below (g := gb649) (o := .cells #[.string (⟨#[97]⟩ : ByteArray), .string (⟨#[120]⟩ : ByteArray), .int .i64 0, .int .i64 2] 57 (0, 0)) (by (with_reducible repeat (first | apply blN | apply blD | apply blA)); refine blk_put (cs := #[.string (⟨#[97]⟩ : ByteArray), .string (⟨#[120]⟩ : ByteArray), .int .i64 0, .int .i64 0]) ?_ 3 _ rfl; (with_reducible repeat (first | apply blN | apply blD | apply blA)); refine blk_put (cs := #[.string (⟨#[97]⟩ : ByteArray), .string (⟨#[120]⟩ : ByteArray), .int .i64 0, .int .i64 0]) ?_ 2 _ rfl; (with_reducible repeat (first | apply blN | apply blD | apply blA)); refine blk_put (cs := #[.string (⟨#[97]⟩ : ByteArray), .string (⟨#[]⟩ : ByteArray), .int .i64 0, .int .i64 0]) ?_ 1 _ rfl; (with_reducible repeat (first | apply blN | apply blD | apply blA)); refine blk_put (cs := #[.string (⟨#[]⟩ : ByteArray), .string (⟨#[]⟩ : ByteArray), .int .i64 0, .int .i64 0]) ?_ 0 _ rfl; (with_reducible repeat (first | apply blN | apply blD | apply blA)); exact BK649.out) hb); have n3_ := Aside0.mk (below_step (by repeat (first | (with_reducible first | exact HB.out | apply below_alloc | apply pw_below_drewN | apply below_drew1 | refine below_set ?_ GE648.out | refine below_set ?_ GE649.out) | exact HB.out)) hb); clear BK648; clear BK649; clear HB; have HO652 := n0_; have BK648 := n1_; have BK649 := n2_; have HB := n3_; clear n0_ n1_ n2_ n3_; clear hb ho43))
      have n0_ := Aside0.mk (Kd.R_drew HO652.out)
      have n1_ := Aside0.mk (blk_drew BK648.out)
      have n2_ := Aside0.mk (blk_drew BK649.out)
      have n3_ := Aside0.mk (below_drew1 HB.out)
      clear HO652
      clear BK648
      clear BK649
      clear HB
      have HO652 := n0_
      have BK648 := n1_
      have BK649 := n2_
      have HB := n3_
      clear n0_ n1_ n2_ n3_
      obtain ⟨Ao45, co45, eo45⟩ := Kd.R_slice HO652.out
      (first | subst eo45 | (injection eo45 with f1_ f2_ f3_; have f4_ := f1_.symm; have f5_ := f3_.symm; clear f1_ f2_ f3_; subst f4_; subst f5_))
      refine start_ (n := 8) (S := fun w' => w'.cell? ⟨gb649, 0, none⟩ = some (.string (⟨#[97]⟩ : ByteArray)) ∧ w'.cell? ⟨gb649, 1, none⟩ = some (.string (⟨#[120]⟩ : ByteArray)) ∧ w'.cell? ⟨gb649, 2, none⟩ = some (.int .i64 0) ∧ w'.cell? ⟨gb649, 3, none⟩ = some (.int .i64 2)) (ds := []) #[O,O,O,O,O,O,O,O] (by kernel_rfl) rfl rfl ⟨(blk_cell BK649.out 0).trans rfl, (blk_cell BK649.out 1).trans rfl, (blk_cell BK649.out 2).trans rfl, (blk_cell BK649.out 3).trans rfl⟩ (fun hHeld => ?_); refine with_tabW law08_awake.tab4 law08_awake.bits4 (fun HT_ HW_ => ?_)
      generalize w42.drew = w44 at HO652 BK648 BK649 HB hHeld ⊢
      refine sqP (i := 0) (N := some 11) (v := ?_) (a' := ?_) #[I,O,O,O,O,O,O,O] rfl rfl HT_.out (Or.inl ⟨by rfl, ?_⟩) ?_ ?_
      rotate_left
      ·intro w'
       go_simp
       with_reducible rfl
      rotate_left
      ·simp only [Act.put, sqA, sqB, sqC, i64_w, i32_w]
       rfl
      refine sqP (i := 1) (N := some 12) (v := ?_) (a' := ?_) #[I,I,O,O,O,O,O,O] rfl rfl HT_.out (Or.inl ⟨by rfl, ?_⟩) ?_ ?_
      rotate_left
      ·intro w'
       go_simp
       with_reducible rfl
      rotate_left
      ·simp only [Act.put, sqA, sqB, sqC, i64_w, i32_w]
       rfl
      refine sqP (i := 3) (N := some 14) (v := ?_) (a' := ?_) #[I,I,O,I,O,O,O,O] rfl rfl HT_.out (Or.inl ⟨by rfl, ?_⟩) ?_ ?_
      rotate_left
      ·intro w'
       go_simp
       with_reducible rfl
      rotate_left
      ·simp only [Act.put, sqA, sqB, sqC, i64_w, i32_w]
       rfl
      refine take_ (i := 4) (N := some 15) (v := ?_) (a' := ?_) #[I,I,O,I,I,O,O,O] rfl rfl (take_ofW HT_.out HW_.out (by kernel_rfl)) (fun _ _ _ h => h) (Or.inl ⟨by rfl, ?_⟩) hHeld ?_ ?_
      rotate_left
      ·rintro w' ⟨s0, s1, s2, s3⟩
       go_simp
       with_reducible rfl
      rotate_left
      ·simp only [Act.put, sqA, sqB, sqC, i64_w, i32_w]
       rfl
      refine one_ (i := 2) (N := some 13) #[I,I,I,I,I,O,O,O] rfl rfl (one_of HT_.out (by kernel_rfl)) (by decide) (fun K hK => ?_)
      refine goes_ Try.func51 (by kernel_rfl) rfl #[.slice Ao45 y650.length co45, .string (⟨#[97]⟩ : ByteArray), .string (⟨#[120]⟩ : ByteArray)] (by rfl) rfl rfl (by (try simp only [List.map_toArray, List.map_cons, List.map_nil]); first | done | rfl | (simp only [List.length_drop, List.length_take]; rfl)) ?_
      with_reducible refine (pair_Del.calls _ _ y650 (⟨#[97]⟩ : ByteArray) (⟨#[120]⟩ : ByteArray) t653 _ ?side1 ?side2 A1.out).mono ?_
      (case side1 => repeat (first | exact (Kd.R_reads' HO652.out).2.2 | (with_reducible refine Kd.C_alloc ?_ _) | (with_reducible refine Kd.C_drewN ?_ _) | (with_reducible refine Kd.C_drew ?_)))
      (case side2 => exact (Kd.R_reads' HO652.out).2.1)
      rintro e w46 ⟨v654, rfl, ho0, hb⟩
      refine ⟨_, rfl, ?_⟩
      have n0_ := Aside0.mk (Kd.R_elder' (by (with_reducible repeat (first | apply Kd.R_alloc | apply Kd.R_drewN | apply Kd.R_drew)); exact HO652.out) (Kd.R_base ho0) hb)
      have n1_ := Aside0.mk (Kd.R_lower (Kd.R_newB (Kd.R_newB (Kd.R_new' ho0 (Kd.R_lt (by (with_reducible repeat (first | apply Kd.R_alloc | apply Kd.R_drewN | apply Kd.R_drew)); exact HO652.out))) (g := gb648) (o := .cells #[.string (⟨#[97]⟩ : ByteArray), .string (⟨#[120]⟩ : ByteArray), .int .i64 0, .int .i64 1] 57 (0, 0)) (by (with_reducible repeat (first | apply blN | apply blD | apply blA)); exact BK648.out)) (g := gb649) (o := .cells #[.string (⟨#[97]⟩ : ByteArray), .string (⟨#[120]⟩ : ByteArray), .int .i64 0, .int .i64 2] 57 (0, 0)) (by (with_reducible repeat (first | apply blN | apply blD | apply blA)); exact BK649.out)) (below_size (by repeat (first | (with_reducible first | exact HB.out | apply below_alloc | apply pw_below_drewN | apply below_drew1 | refine below_set ?_ GE648.out | refine below_set ?_ GE649.out) | exact HB.out))))
      have n2_ := Aside0.mk (blk_below (g := gb648) (o := .cells #[.string (⟨#[97]⟩ : ByteArray), .string (⟨#[120]⟩ : ByteArray), .int .i64 0, .int .i64 1] 57 (0, 0)) (by (with_reducible repeat (first | apply blN | apply blD | apply blA)); exact BK648.out) hb)
      have n3_ := Aside0.mk (blk_below (g := gb649) (o := .cells #[.string (⟨#[97]⟩ : ByteArray), .string (⟨#[120]⟩ : ByteArray), .int .i64 0, .int .i64 2] 57 (0, 0)) (by (with_reducible repeat (first | apply blN | apply blD | apply blA)); exact BK649.out) hb)
      have n4_ := Aside0.mk (below_step (by repeat (first | (with_reducible first | exact HB.out | apply below_alloc | apply pw_below_drewN | apply below_drew1 | refine below_set ?_ GE648.out | refine below_set ?_ GE649.out) | exact HB.out)) hb)
      clear HO652
      clear BK648
      clear BK649
      clear HB
      have HO652 := n0_
      have HO655 := n1_
      have BK648 := n2_
      have BK649 := n3_
      have HB := n4_
      clear n0_ n1_ n2_ n3_ n4_
      (try clear hb)
      (try clear hb2)
      (try clear hk)
      (try clear hi)
      (try clear ho0)
      refine hK.out _ _ ⟨(blk_cell BK649.out 0).trans rfl, (blk_cell BK649.out 1).trans rfl, (blk_cell BK649.out 2).trans rfl, (blk_cell BK649.out 3).trans rfl⟩ (fun hHeld => ?_)
      clear hK K
      refine norm_ (a' := ?_) ?_ ?_
      rotate_left
      ·show Act.put _ (some 13) _ = _
       simp only [Act.put, sqA, sqB, sqC, i64_w, i32_w]
       rfl
      refine one_ (i := 5) (N := some 16) #[I,I,I,I,I,I,O,O] rfl rfl (one_of HT_.out (by kernel_rfl)) (by decide) (fun K hK => ?_)
      refine goes_ Try.func49 (by kernel_rfl) rfl #[.slice Ao45 y650.length co45, .agg #[.string (⟨#[97]⟩ : ByteArray), .string (⟨#[120]⟩ : ByteArray), .int .i64 0, .int .i64 2]] (by rfl) rfl rfl (by (try simp only [List.map_toArray, List.map_cons, List.map_nil]); first | done | rfl | (simp only [List.length_drop, List.length_take]; rfl)) ?_
      with_reducible refine (pair_Add.calls _ _ y650 (⟨#[97]⟩ : ByteArray) (⟨#[120]⟩ : ByteArray) 0 2 t656 _ ?side1 ?side2 A2.out).mono ?_
      (case side1 => repeat (first | exact (Kd.R_reads' HO652.out).2.2 | (with_reducible refine Kd.C_alloc ?_ _) | (with_reducible refine Kd.C_drewN ?_ _) | (with_reducible refine Kd.C_drew ?_)))
      (case side2 => exact (Kd.R_reads' HO652.out).2.1)
      rintro e w47 ⟨v657, rfl, ho0, hb⟩
      refine ⟨_, rfl, ?_⟩
      have n0_ := Aside0.mk (Kd.R_elder' (by (with_reducible repeat (first | apply Kd.R_alloc | apply Kd.R_drewN | apply Kd.R_drew)); exact HO652.out) (Kd.R_base ho0) hb)
      have n1_ := Aside0.mk (Kd.R_elder' (by (with_reducible repeat (first | apply Kd.R_alloc | apply Kd.R_drewN | apply Kd.R_drew)); exact HO655.out) (Kd.R_base ho0) hb)
      have n2_ := Aside0.mk (Kd.R_lower (Kd.R_newB (Kd.R_newB (Kd.R_new' (Kd.R_new' ho0 (Kd.R_lt (by (with_reducible repeat (first | apply Kd.R_alloc | apply Kd.R_drewN | apply Kd.R_drew)); exact HO652.out))) (Kd.R_lt (by (with_reducible repeat (first | apply Kd.R_alloc | apply Kd.R_drewN | apply Kd.R_drew)); exact HO655.out))) (g := gb648) (o := .cells #[.string (⟨#[97]⟩ : ByteArray), .string (⟨#[120]⟩ : ByteArray), .int .i64 0, .int .i64 1] 57 (0, 0)) (by (with_reducible repeat (first | apply blN | apply blD | apply blA)); exact BK648.out)) (g := gb649) (o := .cells #[.string (⟨#[97]⟩ : ByteArray), .string (⟨#[120]⟩ : ByteArray), .int .i64 0, .int .i64 2] 57 (0, 0)) (by (with_reducible repeat (first | apply blN | apply blD | apply blA)); exact BK649.out)) (below_size (by repeat (first | (with_reducible first | exact HB.out | apply below_alloc | apply pw_below_drewN | apply below_drew1 | refine below_set ?_ GE648.out | refine below_set ?_ GE649.out) | exact HB.out))))
      have n3_ := Aside0.mk (blk_below (g := gb648) (o := .cells #[.string (⟨#[97]⟩ : ByteArray), .string (⟨#[120]⟩ : ByteArray), .int .i64 0, .int .i64 1] 57 (0, 0)) (by (with_reducible repeat (first | apply blN | apply blD | apply blA)); exact BK648.out) hb)
      have n4_ := Aside0.mk (blk_below (g := gb649) (o := .cells #[.string (⟨#[97]⟩ : ByteArray), .string (⟨#[120]⟩ : ByteArray), .int .i64 0, .int .i64 2] 57 (0, 0)) (by (with_reducible repeat (first | apply blN | apply blD | apply blA)); exact BK649.out) hb)
      have n5_ := Aside0.mk (below_step (by repeat (first | (with_reducible first | exact HB.out | apply below_alloc | apply pw_below_drewN | apply below_drew1 | refine below_set ?_ GE648.out | refine below_set ?_ GE649.out) | exact HB.out)) hb)
      clear HO652
      clear HO655
      clear BK648
      clear BK649
      clear HB
      have HO652 := n0_
      have HO655 := n1_
      have HO658 := n2_
      have BK648 := n3_
      have BK649 := n4_
      have HB := n5_
      clear n0_ n1_ n2_ n3_ n4_ n5_
      (try clear hb)
      (try clear hb2)
      (try clear hk)
      (try clear hi)
      (try clear ho0)
      obtain ⟨Ao48, co48, eo48⟩ := Kd.R_slice HO655.out
      (first | subst eo48 | (injection eo48 with f1_ f2_ f3_; have f4_ := f1_.symm; have f5_ := f3_.symm; clear f1_ f2_ f3_; subst f4_; subst f5_))
      obtain ⟨Ao49, co49, eo49⟩ := Kd.R_slice HO658.out
      (first | subst eo49 | (injection eo49 with f1_ f2_ f3_; have f4_ := f1_.symm; have f5_ := f3_.symm; clear f1_ f2_ f3_; subst f4_; subst f5_))
      refine hK.out _ _ ⟨(blk_cell BK649.out 0).trans rfl, (blk_cell BK649.out 1).trans rfl, (blk_cell BK649.out 2).trans rfl, (blk_cell BK649.out 3).trans rfl⟩ (fun hHeld => ?_)
      clear hK K
      refine norm_ (a' := ?_) ?_ ?_
      rotate_left
      ·show Act.put _ (some 16) _ = _
       simp only [Act.put, sqA, sqB, sqC, i64_w, i32_w]
       rfl
      refine one_ (i := 6) (N := some 17) #[I,I,I,I,I,I,I,O] rfl rfl (one_of HT_.out (by kernel_rfl)) (by decide) (fun K hK => ?_)
      refine goes_ Try.func53 (by kernel_rfl) rfl #[.slice Ao45 y650.length co45, .slice Ao48 t653.length co48, .slice Ao49 t656.length co49] (by rfl) rfl rfl (by (try simp only [List.map_toArray, List.map_cons, List.map_nil]); first | done | rfl | (simp only [List.length_drop, List.length_take]; rfl)) ?_
      with_reducible refine (pair_Merge.calls _ _ y650 _ _ t653 _ _ t656 t659 _ ?side1 ?side2 ?side3 ?side4 ?side5 ?side6 A3.out).mono ?_
      (case side1 => repeat (first | exact (Kd.R_reads' HO652.out).2.2 | (with_reducible refine Kd.C_alloc ?_ _) | (with_reducible refine Kd.C_drewN ?_ _) | (with_reducible refine Kd.C_drew ?_)))
      (case side2 => exact (Kd.R_reads' HO652.out).2.1)
      (case side3 => repeat (first | exact (Kd.R_reads' HO655.out).2.2 | (with_reducible refine Kd.C_alloc ?_ _) | (with_reducible refine Kd.C_drewN ?_ _) | (with_reducible refine Kd.C_drew ?_)))
      (case side4 => exact (Kd.R_reads' HO655.out).2.1)
      (case side5 => repeat (first | exact (Kd.R_reads' HO658.out).2.2 | (with_reducible refine Kd.C_alloc ?_ _) | (with_reducible refine Kd.C_drewN ?_ _) | (with_reducible refine Kd.C_drew ?_)))
      (case side6 => exact (Kd.R_reads' HO658.out).2.1)
      rintro e w50 ⟨v660, rfl, ho0, hb⟩
      refine ⟨_, rfl, ?_⟩
      have n0_ := Aside0.mk (Kd.R_elder' (by (with_reducible repeat (first | apply Kd.R_alloc | apply Kd.R_drewN | apply Kd.R_drew)); exact HO652.out) (Kd.R_base ho0) hb)
      have n1_ := Aside0.mk (Kd.R_elder' (by (with_reducible repeat (first | apply Kd.R_alloc | apply Kd.R_drewN | apply Kd.R_drew)); exact HO655.out) (Kd.R_base ho0) hb)
      have n2_ := Aside0.mk (Kd.R_elder' (by (with_reducible repeat (first | apply Kd.R_alloc | apply Kd.R_drewN | apply Kd.R_drew)); exact HO658.out) (Kd.R_base ho0) hb)
      have n3_ := Aside0.mk (Kd.R_lower (Kd.R_newB (Kd.R_newB (Kd.R_new' (Kd.R_new' (Kd.R_new' ho0 (Kd.R_lt (by (with_reducible repeat (first | apply Kd.R_alloc | apply Kd.R_drewN | apply Kd.R_drew)); exact HO652.out))) (Kd.R_lt (by (with_reducible repeat (first | apply Kd.R_alloc | apply Kd.R_drewN | apply Kd.R_drew)); exact HO655.out))) (Kd.R_lt (by (with_reducible repeat (first | apply Kd.R_alloc | apply Kd.R_drewN | apply Kd.R_drew)); exact HO658.out))) (g := gb648) (o := .cells #[.string (⟨#[97]⟩ : ByteArray), .string (⟨#[120]⟩ : ByteArray), .int .i64 0, .int .i64 1] 57 (0, 0)) (by (with_reducible repeat (first | apply blN | apply blD | apply blA)); exact BK648.out)) (g := gb649) (o := .cells #[.string (⟨#[97]⟩ : ByteArray), .string (⟨#[120]⟩ : ByteArray), .int .i64 0, .int .i64 2] 57 (0, 0)) (by (with_reducible repeat (first | apply blN | apply blD | apply blA)); exact BK649.out)) (below_size (by repeat (first | (with_reducible first | exact HB.out | apply below_alloc | apply pw_below_drewN | apply below_drew1 | refine below_set ?_ GE648.out | refine below_set ?_ GE649.out) | exact HB.out))))
      have n4_ := Aside0.mk (blk_below (g := gb648) (o := .cells #[.string (⟨#[97]⟩ : ByteArray), .string (⟨#[120]⟩ : ByteArray), .int .i64 0, .int .i64 1] 57 (0, 0)) (by (with_reducible repeat (first | apply blN | apply blD | apply blA)); exact BK648.out) hb)
      have n5_ := Aside0.mk (blk_below (g := gb649) (o := .cells #[.string (⟨#[97]⟩ : ByteArray), .string (⟨#[120]⟩ : ByteArray), .int .i64 0, .int .i64 2] 57 (0, 0)) (by (with_reducible repeat (first | apply blN | apply blD | apply blA)); exact BK649.out) hb)
      have n6_ := Aside0.mk (below_step (by repeat (first | (with_reducible first | exact HB.out | apply below_alloc | apply pw_below_drewN | apply below_drew1 | refine below_set ?_ GE648.out | refine below_set ?_ GE649.out) | exact HB.out)) hb)
      clear HO652
      clear HO655
      clear HO658
      clear BK648
      clear BK649
      clear HB
      have HO652 := n0_
      have HO655 := n1_
      have HO658 := n2_
      have HO661 := n3_
      have BK648 := n4_
      have BK649 := n5_
      have HB := n6_
      clear n0_ n1_ n2_ n3_ n4_ n5_ n6_
      (try clear hb)
      (try clear hb2)
      (try clear hk)
      (try clear hi)
      (try clear ho0)
      refine hK.out _ _ ⟨(blk_cell BK649.out 0).trans rfl, (blk_cell BK649.out 1).trans rfl, (blk_cell BK649.out 2).trans rfl, (blk_cell BK649.out 3).trans rfl⟩ (fun hHeld => ?_)
      clear hK K
      refine norm_ (a' := ?_) ?_ ?_
      rotate_left
      ·show Act.put _ (some 17) _ = _
       simp only [Act.put, sqA, sqB, sqC, i64_w, i32_w]
       rfl
      refine sqP (i := 7) (N := some 4) (v := ?_) (a' := ?_) #[I,I,I,I,I,I,I,I] rfl rfl HT_.out (Or.inl ⟨by rfl, ?_⟩) ?_ ?_
      rotate_left
      ·intro w'
       go_simp
       with_reducible rfl
      rotate_left
      ·simp only [Act.put, sqA, sqB, sqC, i64_w, i32_w]
       rfl
      refine done_ (done_of HT_.out (by kernel_rfl)) ?_
      try go_wp2
      have n0_ := Aside0.mk (Kd.R_drew HO652.out)
      have n1_ := Aside0.mk (Kd.R_drew HO655.out)
      have n2_ := Aside0.mk (Kd.R_drew HO658.out)
      have n3_ := Aside0.mk (Kd.R_drew HO661.out)
      have n4_ := Aside0.mk (blk_drew BK648.out)
      have n5_ := Aside0.mk (blk_drew BK649.out)
      have n6_ := Aside0.mk (below_drew1 HB.out)
      clear HO652
      clear HO655
      clear HO658
      clear HO661
      clear BK648
      clear BK649
      clear HB
      have HO652 := n0_
      have HO655 := n1_
      have HO658 := n2_
      have HO661 := n3_
      have BK648 := n4_
      have BK649 := n5_
      have HB := n6_
      clear n0_ n1_ n2_ n3_ n4_ n5_ n6_
      obtain ⟨Ao52, co52, eo52⟩ := Kd.R_slice HO661.out
      (first | subst eo52 | (injection eo52 with f1_ f2_ f3_; have f4_ := f1_.symm; have f5_ := f3_.symm; clear f1_ f2_ f3_; subst f4_; subst f5_))
      have p662 : 0 ≤ (0 : Int) := (by omega)
      have q662 : 0 < (t659.length : Int) := of_decide_eq_true (by first | (with_reducible assumption) | assumption)
      obtain ⟨ad662, e662, hx662_0, hx662_1, hx662_2, hx662_3⟩ := at_T57 (Kd.R_reads' HO661.out).2.2 0 p662 q662
      cases e662
      have qi662 : (0 < t659.length) = True := eq_true (by omega)
      (try rw [show ((0 : Int)).toNat = 0 from rfl] at hx662_0)
      (try rw [show 0 * 4 = 0 from rfl] at hx662_0)
      (try rw [Addr.add_zero'] at hx662_0)
      (try rw [show ((0 : Int)).toNat = 0 from rfl] at hx662_1)
      (try rw [show 0 * 4 = 0 from rfl] at hx662_1)
      (try rw [Addr.add_zero'] at hx662_1)
      (try rw [show ((0 : Int)).toNat = 0 from rfl] at hx662_2)
      (try rw [show 0 * 4 = 0 from rfl] at hx662_2)
      (try rw [Addr.add_zero'] at hx662_2)
      (try rw [show ((0 : Int)).toNat = 0 from rfl] at hx662_3)
      (try rw [show 0 * 4 = 0 from rfl] at hx662_3)
      (try rw [Addr.add_zero'] at hx662_3)
      replace p662 := eq_true p662
      replace q662 := eq_true q662
      refine start_ (n := 28) (S := fun w' => w'.cell? ⟨gb649, 0, none⟩ = some (.string (⟨#[97]⟩ : ByteArray)) ∧ w'.cell? ⟨gb649, 1, none⟩ = some (.string (⟨#[120]⟩ : ByteArray)) ∧ w'.cell? ⟨gb649, 2, none⟩ = some (.int .i64 0) ∧ w'.cell? ⟨gb649, 3, none⟩ = some (.int .i64 2) ∧ w'.cell? ⟨gb648, 0, none⟩ = some (.string (⟨#[97]⟩ : ByteArray)) ∧ w'.cell? ⟨gb648, 1, none⟩ = some (.string (⟨#[120]⟩ : ByteArray)) ∧ w'.cell? ⟨gb648, 2, none⟩ = some (.int .i64 0) ∧ w'.cell? ⟨gb648, 3, none⟩ = some (.int .i64 1) ∧ w'.cell? ad662 = some (.string ((rd_T57 t659 0).f0)) ∧ w'.cell? ⟨ad662.block, ad662.off + 1, none⟩ = some (.string ((rd_T57 t659 0).f1)) ∧ w'.cell? ⟨ad662.block, ad662.off + 2, none⟩ = some (.int .i64 ((rd_T57 t659 0).f2.f0)) ∧ w'.cell? ⟨ad662.block, ad662.off + 3, none⟩ = some (.int .i64 ((rd_T57 t659 0).f2.f1))) (ds := []) #[O,O,O,O,O,O,O,O,O,O,O,O,O,O,O,O,O,O,O,O,O,O,O,O,O,O,O,O] (by kernel_rfl) rfl rfl ⟨(blk_cell BK649.out 0).trans rfl, (blk_cell BK649.out 1).trans rfl, (blk_cell BK649.out 2).trans rfl, (blk_cell BK649.out 3).trans rfl, (blk_cell BK648.out 0).trans rfl, (blk_cell BK648.out 1).trans rfl, (blk_cell BK648.out 2).trans rfl, (blk_cell BK648.out 3).trans rfl, hx662_0, hx662_1, hx662_2, hx662_3⟩ (fun hHeld => ?_); refine with_tabW law08_awake.tab5 law08_awake.bits5 (fun HT_ HW_ => ?_)
      generalize w50.drew = w51 at HO652 HO655 HO658 HO661 BK648 BK649 HB hx662_0 hx662_1 hx662_2 hx662_3 hHeld ⊢
      refine sqP (i := 0) (N := some 18) (v := ?_) (a' := ?_) #[I,O,O,O,O,O,O,O,O,O,O,O,O,O,O,O,O,O,O,O,O,O,O,O,O,O,O,O] rfl rfl HT_.out (Or.inl ⟨by rfl, ?_⟩) ?_ ?_
      rotate_left
      ·intro w'
       go_simp
       with_reducible rfl
      rotate_left
      ·simp only [Act.put, sqA, sqB, sqC, i64_w, i32_w]
       rfl
      refine sqP (i := 1) (N := some 19) (v := ?_) (a' := ?_) #[I,I,O,O,O,O,O,O,O,O,O,O,O,O,O,O,O,O,O,O,O,O,O,O,O,O,O,O] rfl rfl HT_.out (Or.inl ⟨by rfl, ?_⟩) ?_ ?_
      rotate_left
      ·intro w'
       go_simp
       with_reducible rfl
      rotate_left
      ·simp only [Act.put, sqA, sqB, sqC, i64_w, i32_w]
       rfl
      refine sqP (i := 2) (N := some 20) (v := ?_) (a' := ?_) #[I,I,I,O,O,O,O,O,O,O,O,O,O,O,O,O,O,O,O,O,O,O,O,O,O,O,O,O] rfl rfl HT_.out (Or.inl ⟨by rfl, ?_⟩) ?_ ?_
      rotate_left
      ·intro w'
       go_simp
       with_reducible rfl
      rotate_left
      ·simp only [Act.put, sqA, sqB, sqC, i64_w, i32_w]
       rfl
      refine sqP (i := 3) (N := some 21) (v := ?_) (a' := ?_) #[I,I,I,I,O,O,O,O,O,O,O,O,O,O,O,O,O,O,O,O,O,O,O,O,O,O,O,O] rfl rfl HT_.out (Or.inl ⟨by rfl, ?_⟩) ?_ ?_
      rotate_left
      ·intro w'
       go_simp
       with_reducible rfl
      rotate_left
      ·simp only [Act.put, sqA, sqB, sqC, i64_w, i32_w]
       rfl
      refine sqP (i := 4) (N := some 22) (v := ?_) (a' := ?_) #[I,I,I,I,I,O,O,O,O,O,O,O,O,O,O,O,O,O,O,O,O,O,O,O,O,O,O,O] rfl rfl HT_.out (Or.inl ⟨by rfl, ?_⟩) ?_ ?_
      rotate_left
      ·intro w'
       go_simp
       with_reducible rfl
      rotate_left
      ·simp only [Act.put, sqA, sqB, sqC, i64_w, i32_w]
       rfl
      refine sqP (i := 5) (N := some 23) (v := ?_) (a' := ?_) #[I,I,I,I,I,I,O,O,O,O,O,O,O,O,O,O,O,O,O,O,O,O,O,O,O,O,O,O] rfl rfl HT_.out (Or.inl ⟨by rfl, ?_⟩) ?_ ?_
      rotate_left
      ·intro w'
       go_simp
       with_reducible rfl
      rotate_left
      ·simp only [Act.put, sqA, sqB, sqC, i64_w, i32_w]
       rfl
      refine take_ (i := 6) (N := some 24) (v := ?_) (a' := ?_) #[I,I,I,I,I,I,I,O,O,O,O,O,O,O,O,O,O,O,O,O,O,O,O,O,O,O,O,O] rfl rfl (take_ofW HT_.out HW_.out (by kernel_rfl)) (fun _ _ _ h => h) (Or.inl ⟨by rfl, ?_⟩) hHeld ?_ ?_
      rotate_left
      ·rintro w' ⟨s0, s1, s2, s3, s4, s5, s6, s7, s8, s9, s10, s11⟩
       go_simp
       with_reducible rfl
      rotate_left
      ·simp only [Act.put, sqA, sqB, sqC, i64_w, i32_w]
       rfl
      refine take_ (i := 7) (N := some 25) (v := ?_) (a' := ?_) #[I,I,I,I,I,I,I,I,O,O,O,O,O,O,O,O,O,O,O,O,O,O,O,O,O,O,O,O] rfl rfl (take_ofW HT_.out HW_.out (by kernel_rfl)) (fun _ _ _ h => h) (Or.inl ⟨by rfl, ?_⟩) hHeld ?_ ?_
      rotate_left
      ·rintro w' ⟨s0, s1, s2, s3, s4, s5, s6, s7, s8, s9, s10, s11⟩
       go_simp
       with_reducible rfl
      rotate_left
      ·simp only [Act.put, sqA, sqB, sqC, i64_w, i32_w]
       rfl
      refine sqP (i := 8) (N := some 26) (v := ?_) (a' := ?_) #[I,I,I,I,I,I,I,I,I,O,O,O,O,O,O,O,O,O,O,O,O,O,O,O,O,O,O,O] rfl rfl HT_.out (Or.inl ⟨by rfl, ?_⟩) ?_ ?_
      rotate_left
      ·intro w'
       go_simp
       with_reducible rfl
      rotate_left
      ·simp only [Act.put, sqA, sqB, sqC, i64_w, i32_w]
       rfl
      refine sqP (i := 9) (N := some 27) (v := ?_) (a' := ?_) #[I,I,I,I,I,I,I,I,I,I,O,O,O,O,O,O,O,O,O,O,O,O,O,O,O,O,O,O] rfl rfl HT_.out (Or.inl ⟨by rfl, ?_⟩) ?_ ?_
      rotate_left
      ·intro w'
       go_simp
       with_reducible rfl
      rotate_left
      ·simp only [Act.put, sqA, sqB, sqC, i64_w, i32_w]
       rfl
      refine sqP (i := 10) (N := some 28) (v := ?_) (a' := ?_) #[I,I,I,I,I,I,I,I,I,I,I,O,O,O,O,O,O,O,O,O,O,O,O,O,O,O,O,O] rfl rfl HT_.out (Or.inl ⟨by rfl, ?_⟩) ?_ ?_
      rotate_left
      ·intro w'
       go_simp
       with_reducible rfl
      rotate_left
      ·simp only [Act.put, sqA, sqB, sqC, i64_w, i32_w]
       rfl
      refine sqP (i := 11) (N := some 29) (v := ?_) (a' := ?_) #[I,I,I,I,I,I,I,I,I,I,I,I,O,O,O,O,O,O,O,O,O,O,O,O,O,O,O,O] rfl rfl HT_.out (Or.inl ⟨by rfl, ?_⟩) ?_ ?_
      rotate_left
      ·intro w'
       go_simp
       with_reducible rfl
      rotate_left
      ·simp only [Act.put, sqA, sqB, sqC, i64_w, i32_w]
       rfl
      refine one_ (i := 12) (N := some 30) #[I,I,I,I,I,I,I,I,I,I,I,I,I,O,O,O,O,O,O,O,O,O,O,O,O,O,O,O] rfl rfl (one_of HT_.out (by kernel_rfl)) (by decide) (fun K hK => ?_)
      refine goes_ Try.func60 (by kernel_rfl) rfl #[.slice (some ad662) t659.length co52] (by rfl) rfl rfl (by (try simp only [List.map_toArray, List.map_cons, List.map_nil]); first | done | rfl | (simp only [List.length_drop, List.length_take]; rfl)) ?_
      with_reducible refine (pair_May.calls k _ _ t659 true _ ?side1 ?side2 A7.out).mono ?_
      (case side1 => repeat (first | exact (Kd.R_reads' HO661.out).2.2 | (with_reducible refine Kd.C_alloc ?_ _) | (with_reducible refine Kd.C_drewN ?_ _) | (with_reducible refine Kd.C_drew ?_)))
      (case side2 => exact (Kd.R_reads' HO661.out).2.1)
      rintro e w53 ⟨rfl, hb⟩
      have HS8_ := (hb.cell (World.block_lt_of_cell? _ _ (hHeld.2.2.2.2.2.2.2.2.1))).trans (hHeld.2.2.2.2.2.2.2.2.1)
      have HS9_ := (hb.cell (World.block_lt_of_cell? _ _ (hHeld.2.2.2.2.2.2.2.2.2.1))).trans (hHeld.2.2.2.2.2.2.2.2.2.1)
      have HS10_ := (hb.cell (World.block_lt_of_cell? _ _ (hHeld.2.2.2.2.2.2.2.2.2.2.1))).trans (hHeld.2.2.2.2.2.2.2.2.2.2.1)
      have HS11_ := (hb.cell (World.block_lt_of_cell? _ _ (hHeld.2.2.2.2.2.2.2.2.2.2.2))).trans (hHeld.2.2.2.2.2.2.2.2.2.2.2)
      refine ⟨_, rfl, ?_⟩
      have n0_ := Aside0.mk (Kd.R_below (by (with_reducible repeat (first | apply Kd.R_alloc | apply Kd.R_drewN | apply Kd.R_drew)); exact HO652.out) hb)
      have n1_ := Aside0.mk (Kd.R_below (by (with_reducible repeat (first | apply Kd.R_alloc | apply Kd.R_drewN | apply Kd.R_drew)); exact HO655.out) hb)
      have n2_ := Aside0.mk (Kd.R_below (by (with_reducible repeat (first | apply Kd.R_alloc | apply Kd.R_drewN | apply Kd.R_drew)); exact HO658.out) hb)
      have n3_ := Aside0.mk (Kd.R_below (by (with_reducible repeat (first | apply Kd.R_alloc | apply Kd.R_drewN | apply Kd.R_drew)); exact HO661.out) hb)
      have n4_ := Aside0.mk (blk_below (g := gb648) (o := .cells #[.string (⟨#[97]⟩ : ByteArray), .string (⟨#[120]⟩ : ByteArray), .int .i64 0, .int .i64 1] 57 (0, 0)) (by (with_reducible repeat (first | apply blN | apply blD | apply blA)); exact BK648.out) hb)
      have n5_ := Aside0.mk (blk_below (g := gb649) (o := .cells #[.string (⟨#[97]⟩ : ByteArray), .string (⟨#[120]⟩ : ByteArray), .int .i64 0, .int .i64 2] 57 (0, 0)) (by (with_reducible repeat (first | apply blN | apply blD | apply blA)); exact BK649.out) hb)
      have n6_ := Aside0.mk (below_step (by repeat (first | (with_reducible first | exact HB.out | apply below_alloc | apply pw_below_drewN | apply below_drew1 | refine below_set ?_ GE648.out | refine below_set ?_ GE649.out) | exact HB.out)) hb)
      clear HO652
      clear HO655
      clear HO658
      clear HO661
      clear BK648
      clear BK649
      clear HB
      have HO652 := n0_
      have HO655 := n1_
      have HO658 := n2_
      have HO661 := n3_
      have BK648 := n4_
      have BK649 := n5_
      have HB := n6_
      clear n0_ n1_ n2_ n3_ n4_ n5_ n6_
      (try clear hb)
      (try clear hb2)
      (try clear hk)
      (try clear hi)
      refine hK.out _ _ ⟨(blk_cell BK649.out 0).trans rfl, (blk_cell BK649.out 1).trans rfl, (blk_cell BK649.out 2).trans rfl, (blk_cell BK649.out 3).trans rfl, (blk_cell BK648.out 0).trans rfl, (blk_cell BK648.out 1).trans rfl, (blk_cell BK648.out 2).trans rfl, (blk_cell BK648.out 3).trans rfl, HS8_, HS9_, HS10_, HS11_⟩ (fun hHeld => ?_)
      clear hK K
      refine norm_ (a' := ?_) ?_ ?_
      rotate_left
      ·show Act.put _ (some 30) _ = _
       simp only [Act.put, sqA, sqB, sqC, i64_w, i32_w]
       rfl
      refine sqP (i := 13) (N := some 31) (v := ?_) (a' := ?_) #[I,I,I,I,I,I,I,I,I,I,I,I,I,I,O,O,O,O,O,O,O,O,O,O,O,O,O,O] rfl rfl HT_.out (Or.inl ⟨by rfl, ?_⟩) ?_ ?_
      rotate_left
      ·intro w'
       go_simp
       with_reducible rfl
      rotate_left
      ·simp only [Act.put, sqA, sqB, sqC, i64_w, i32_w]
       rfl
      refine sqP (i := 14) (N := some 32) (v := ?_) (a' := ?_) #[I,I,I,I,I,I,I,I,I,I,I,I,I,I,I,O,O,O,O,O,O,O,O,O,O,O,O,O] rfl rfl HT_.out (Or.inl ⟨by rfl, ?_⟩) ?_ ?_
      rotate_left
      ·intro w'
       go_simp
       with_reducible rfl
      rotate_left
      ·simp only [Act.put, sqA, sqB, sqC, i64_w, i32_w]
       rfl
      refine take_ (i := 15) (N := some 33) (v := ?_) (a' := ?_) #[I,I,I,I,I,I,I,I,I,I,I,I,I,I,I,I,O,O,O,O,O,O,O,O,O,O,O,O] rfl rfl (take_ofW HT_.out HW_.out (by kernel_rfl)) (fun _ _ _ h => h) (Or.inl ⟨by rfl, ?_⟩) hHeld ?_ ?_
      rotate_left
      ·rintro w' ⟨s0, s1, s2, s3, s4, s5, s6, s7, s8, s9, s10, s11⟩
       go_simp
       with_reducible rfl
      rotate_left
      ·simp only [Act.put, sqA, sqB, sqC, i64_w, i32_w]
       rfl
      refine take_ (i := 16) (N := some 34) (v := ?_) (a' := ?_) #[I,I,I,I,I,I,I,I,I,I,I,I,I,I,I,I,I,O,O,O,O,O,O,O,O,O,O,O] rfl rfl (take_ofW HT_.out HW_.out (by kernel_rfl)) (fun _ _ _ h => h) (Or.inl ⟨by rfl, ?_⟩) hHeld ?_ ?_
      rotate_left
      ·rintro w' ⟨s0, s1, s2, s3, s4, s5, s6, s7, s8, s9, s10, s11⟩
       go_simp
       with_reducible rfl
      rotate_left
      ·simp only [Act.put, sqA, sqB, sqC, i64_w, i32_w]
       rfl
      refine one_ (i := 17) (N := some 35) #[I,I,I,I,I,I,I,I,I,I,I,I,I,I,I,I,I,I,O,O,O,O,O,O,O,O,O,O] rfl rfl (one_of HT_.out (by kernel_rfl)) (by decide) (fun K hK => ?_)
      refine goes_ Try.func59 (by kernel_rfl) rfl #[.agg #[.string (⟨#[97]⟩ : ByteArray), .string (⟨#[120]⟩ : ByteArray), .int .i64 0, .int .i64 1], .agg #[.string (⟨#[97]⟩ : ByteArray), .string (⟨#[120]⟩ : ByteArray), .int .i64 0, .int .i64 2]] (by rfl) rfl rfl (by (try simp only [List.map_toArray, List.map_cons, List.map_nil]); first | done | rfl | (simp only [List.length_drop, List.length_take]; rfl)) ?_
      with_reducible refine (pair_Less.calls k (⟨#[97]⟩ : ByteArray) (⟨#[120]⟩ : ByteArray) 0 1 (⟨#[97]⟩ : ByteArray) (⟨#[120]⟩ : ByteArray) 0 2 false _ A9.out).mono ?_
      rintro e w54 ⟨rfl, hb⟩
      have HS8_ := (hb.cell (World.block_lt_of_cell? _ _ (hHeld.2.2.2.2.2.2.2.2.1))).trans (hHeld.2.2.2.2.2.2.2.2.1)
      have HS9_ := (hb.cell (World.block_lt_of_cell? _ _ (hHeld.2.2.2.2.2.2.2.2.2.1))).trans (hHeld.2.2.2.2.2.2.2.2.2.1)
      have HS10_ := (hb.cell (World.block_lt_of_cell? _ _ (hHeld.2.2.2.2.2.2.2.2.2.2.1))).trans (hHeld.2.2.2.2.2.2.2.2.2.2.1)
      have HS11_ := (hb.cell (World.block_lt_of_cell? _ _ (hHeld.2.2.2.2.2.2.2.2.2.2.2))).trans (hHeld.2.2.2.2.2.2.2.2.2.2.2)
      refine ⟨_, rfl, ?_⟩
      have n0_ := Aside0.mk (Kd.R_below (by (with_reducible repeat (first | apply Kd.R_alloc | apply Kd.R_drewN | apply Kd.R_drew)); exact HO652.out) hb)
      have n1_ := Aside0.mk (Kd.R_below (by (with_reducible repeat (first | apply Kd.R_alloc | apply Kd.R_drewN | apply Kd.R_drew)); exact HO655.out) hb)
      have n2_ := Aside0.mk (Kd.R_below (by (with_reducible repeat (first | apply Kd.R_alloc | apply Kd.R_drewN | apply Kd.R_drew)); exact HO658.out) hb)
      have n3_ := Aside0.mk (Kd.R_below (by (with_reducible repeat (first | apply Kd.R_alloc | apply Kd.R_drewN | apply Kd.R_drew)); exact HO661.out) hb)
      have n4_ := Aside0.mk (blk_below (g := gb648) (o := .cells #[.string (⟨#[97]⟩ : ByteArray), .string (⟨#[120]⟩ : ByteArray), .int .i64 0, .int .i64 1] 57 (0, 0)) (by (with_reducible repeat (first | apply blN | apply blD | apply blA)); exact BK648.out) hb)
      have n5_ := Aside0.mk (blk_below (g := gb649) (o := .cells #[.string (⟨#[97]⟩ : ByteArray), .string (⟨#[120]⟩ : ByteArray), .int .i64 0, .int .i64 2] 57 (0, 0)) (by (with_reducible repeat (first | apply blN | apply blD | apply blA)); exact BK649.out) hb)
      have n6_ := Aside0.mk (below_step (by repeat (first | (with_reducible first | exact HB.out | apply below_alloc | apply pw_below_drewN | apply below_drew1 | refine below_set ?_ GE648.out | refine below_set ?_ GE649.out) | exact HB.out)) hb)
      clear HO652
      clear HO655
      clear HO658
      clear HO661
      clear BK648
      clear BK649
      clear HB
      have HO652 := n0_
      have HO655 := n1_
      have HO658 := n2_
      have HO661 := n3_
      have BK648 := n4_
      have BK649 := n5_
      have HB := n6_
      clear n0_ n1_ n2_ n3_ n4_ n5_ n6_
      (try clear hb)
      (try clear hb2)
      (try clear hk)
      (try clear hi)
      refine hK.out _ _ ⟨(blk_cell BK649.out 0).trans rfl, (blk_cell BK649.out 1).trans rfl, (blk_cell BK649.out 2).trans rfl, (blk_cell BK649.out 3).trans rfl, (blk_cell BK648.out 0).trans rfl, (blk_cell BK648.out 1).trans rfl, (blk_cell BK648.out 2).trans rfl, (blk_cell BK648.out 3).trans rfl, HS8_, HS9_, HS10_, HS11_⟩ (fun hHeld => ?_)
      clear hK K
      refine norm_ (a' := ?_) ?_ ?_
      rotate_left
      ·show Act.put _ (some 35) _ = _
       simp only [Act.put, sqA, sqB, sqC, i64_w, i32_w]
       rfl
      refine sqP (i := 18) (N := some 36) (v := ?_) (a' := ?_) #[I,I,I,I,I,I,I,I,I,I,I,I,I,I,I,I,I,I,I,O,O,O,O,O,O,O,O,O] rfl rfl HT_.out (Or.inl ⟨by rfl, ?_⟩) ?_ ?_
      rotate_left
      ·intro w'
       go_simp
       with_reducible rfl
      rotate_left
      ·simp only [Act.put, sqA, sqB, sqC, i64_w, i32_w]
       rfl
      refine sqP (i := 19) (N := some 37) (v := ?_) (a' := ?_) #[I,I,I,I,I,I,I,I,I,I,I,I,I,I,I,I,I,I,I,I,O,O,O,O,O,O,O,O] rfl rfl HT_.out (Or.inl ⟨by rfl, ?_⟩) ?_ ?_
      rotate_left
      ·intro w'
       go_simp
       with_reducible rfl
      rotate_left
      ·simp only [Act.put, sqA, sqB, sqC, i64_w, i32_w]
       rfl
      refine sqP (i := 20) (N := some 38) (v := undef) (a' := ?_) #[I,I,I,I,I,I,I,I,I,I,I,I,I,I,I,I,I,I,I,I,I,O,O,O,O,O,O,O] rfl rfl HT_.out (Or.inr ⟨by rfl, rfl⟩) ?_ ?_
      rotate_left
      ·simp only [Act.put, sqA, sqB, sqC, i64_w, i32_w]
       rfl
      refine sqP (i := 21) (N := some 39) (v := undef) (a' := ?_) #[I,I,I,I,I,I,I,I,I,I,I,I,I,I,I,I,I,I,I,I,I,I,O,O,O,O,O,O] rfl rfl HT_.out (Or.inr ⟨by rfl, rfl⟩) ?_ ?_
      rotate_left
      ·simp only [Act.put, sqA, sqB, sqC, i64_w, i32_w]
       rfl
      refine sqP (i := 22) (N := some 40) (v := undef) (a' := ?_) #[I,I,I,I,I,I,I,I,I,I,I,I,I,I,I,I,I,I,I,I,I,I,I,O,O,O,O,O] rfl rfl HT_.out (Or.inr ⟨by rfl, rfl⟩) ?_ ?_
      rotate_left
      ·simp only [Act.put, sqA, sqB, sqC, i64_w, i32_w]
       rfl
      refine sqP (i := 23) (N := some 41) (v := undef) (a' := ?_) #[I,I,I,I,I,I,I,I,I,I,I,I,I,I,I,I,I,I,I,I,I,I,I,I,O,O,O,O] rfl rfl HT_.out (Or.inr ⟨by rfl, rfl⟩) ?_ ?_
      rotate_left
      ·simp only [Act.put, sqA, sqB, sqC, i64_w, i32_w]
       rfl
      refine sqP (i := 24) (N := some 42) (v := undef) (a' := ?_) #[I,I,I,I,I,I,I,I,I,I,I,I,I,I,I,I,I,I,I,I,I,I,I,I,I,O,O,O] rfl rfl HT_.out (Or.inr ⟨by rfl, rfl⟩) ?_ ?_
      rotate_left
      ·simp only [Act.put, sqA, sqB, sqC, i64_w, i32_w]
       rfl
      refine sqP (i := 25) (N := some 43) (v := undef) (a' := ?_) #[I,I,I,I,I,I,I,I,I,I,I,I,I,I,I,I,I,I,I,I,I,I,I,I,I,I,O,O] rfl rfl HT_.out (Or.inr ⟨by rfl, rfl⟩) ?_ ?_
      rotate_left
      ·simp only [Act.put, sqA, sqB, sqC, i64_w, i32_w]
       rfl
      refine sqP (i := 26) (N := some 44) (v := ?_) (a' := ?_) #[I,I,I,I,I,I,I,I,I,I,I,I,I,I,I,I,I,I,I,I,I,I,I,I,I,I,I,O] rfl rfl HT_.out (Or.inl ⟨by rfl, ?_⟩) ?_ ?_
      rotate_left
      ·intro w'
       go_simp
       with_reducible rfl
      rotate_left
      ·simp only [Act.put, sqA, sqB, sqC, i64_w, i32_w]
       rfl
      refine sqP (i := 27) (N := some 0) (v := ?_) (a' := ?_) #[I,I,I,I,I,I,I,I,I,I,I,I,I,I,I,I,I,I,I,I,I,I,I,I,I,I,I,I] rfl rfl HT_.out (Or.inl ⟨by rfl, ?_⟩) ?_ ?_
      rotate_left
      ·intro w'
       go_simp
       with_reducible rfl
      rotate_left
      ·simp only [Act.put, sqA, sqB, sqC, i64_w, i32_w]
       rfl
      refine done_ (done_of HT_.out (by kernel_rfl)) ?_
      try go_wp2
      go_ret
      exact ⟨by first | rfl | (simp [errW_none, errW_some] <;> rfl) | (simp [*, errW_none, errW_some] <;> rfl), by repeat (first | (with_reducible first | exact HB.out | apply below_alloc | apply pw_below_drewN | apply below_drew1 | refine below_set ?_ GE648.out | refine below_set ?_ GE649.out) | exact HB.out)⟩
    ·replace c8 := Bool.eq_false_iff.mpr c8
     subst c8
     have H1 : (some false) = some r := by rw [if_neg (show ¬ (false = true) by decide)] at H; exact H
     clear H
     have H := H1
     clear H1
     obtain rfl := Option.some.inj H
     go_enter Try.func45, Try.ntmps45
     try go_wp2_with (first | ((with_reducible refine gate_dst (N := 1) rfl ?_); (try (refine gate_guard (by rfl) ?_; dsimp only)); refine box_event ?hg (N := 1) ?hd (cs := #[.string (⟨#[]⟩ : ByteArray), .string (⟨#[]⟩ : ByteArray), .int .i64 0, .int .i64 0]) (t := 57) ?hr ?_; (case hd => rfl); (case hg => rfl); (case hr => first | (go_simp; done) | (go_simp; rfl)); intro gb648 hg w55 hbox hb; have n0_ := Aside0.mk (below_step (by repeat (first | (with_reducible first | exact HB.out | apply below_alloc | apply pw_below_drewN | apply below_drew1) | exact HB.out)) hb); have n1_ := Aside0.mk (hbox); have n2_ := Aside0.mk ((by rw [hg]; exact (below_size (by repeat (first | (with_reducible first | exact HB.out | apply below_alloc | apply pw_below_drewN | apply below_drew1) | exact HB.out))) : w.heap.size ≤ gb648)); have n3_ := Aside0.mk ((by rw [hg]; exact (below_size (by repeat (first | (with_reducible first | exact HB.out | apply below_alloc | apply pw_below_drewN | apply below_drew1) | exact HB.out))) : w.heap.size ≤ gb648)); clear HB; have HB := n0_; have BK648 := n1_; have GW648 := n2_; have GE648 := n3_; clear n0_ n1_ n2_ n3_; clear hb hbox hg; have hcz56_0 : w55.cell? ⟨gb648, 0, none⟩ = some (.string (⟨#[]⟩ : ByteArray)) := (blk_cell BK648.out 0).trans rfl; have hcz56_1 : w55.cell? ⟨gb648, 1, none⟩ = some (.string (⟨#[]⟩ : ByteArray)) := (blk_cell BK648.out 1).trans rfl; have hcz56_2 : w55.cell? ⟨gb648, 2, none⟩ = some (.int .i64 0) := (blk_cell BK648.out 2).trans rfl; have hcz56_3 : w55.cell? ⟨gb648, 3, none⟩ = some (.int .i64 0) := (blk_cell BK648.out 3).trans rfl; have hfz56_0 := blk_frozen BK648.out 0; have hfz56_1 := blk_frozen BK648.out 1; have hfz56_2 := blk_frozen BK648.out 2; have hfz56_3 := blk_frozen BK648.out 3) | ((with_reducible refine gate_dst (N := 2) rfl ?_); (try (refine gate_guard (by rfl) ?_; dsimp only)); refine box_event ?hg (N := 2) ?hd (cs := #[.string (⟨#[]⟩ : ByteArray), .string (⟨#[]⟩ : ByteArray), .int .i64 0, .int .i64 0]) (t := 57) ?hr ?_; (case hd => rfl); (case hg => rfl); (case hr => first | (go_simp; done) | (go_simp; rfl)); intro gb649 hg w57 hbox hb; have n0_ := Aside0.mk (blk_below (g := gb648) (o := .cells #[.string (⟨#[97]⟩ : ByteArray), .string (⟨#[120]⟩ : ByteArray), .int .i64 0, .int .i64 1] 57 (0, 0)) (by (with_reducible repeat (first | apply blN | apply blD | apply blA)); refine blk_put (cs := #[.string (⟨#[97]⟩ : ByteArray), .string (⟨#[120]⟩ : ByteArray), .int .i64 0, .int .i64 0]) ?_ 3 _ rfl; (with_reducible repeat (first | apply blN | apply blD | apply blA)); refine blk_put (cs := #[.string (⟨#[97]⟩ : ByteArray), .string (⟨#[120]⟩ : ByteArray), .int .i64 0, .int .i64 0]) ?_ 2 _ rfl; (with_reducible repeat (first | apply blN | apply blD | apply blA)); refine blk_put (cs := #[.string (⟨#[97]⟩ : ByteArray), .string (⟨#[]⟩ : ByteArray), .int .i64 0, .int .i64 0]) ?_ 1 _ rfl; (with_reducible repeat (first | apply blN | apply blD | apply blA)); refine blk_put (cs := #[.string (⟨#[]⟩ : ByteArray), .string (⟨#[]⟩ : ByteArray), .int .i64 0, .int .i64 0]) ?_ 0 _ rfl; (with_reducible repeat (first | apply blN | apply blD | apply blA)); exact BK648.out) hb); have n1_ := Aside0.mk (below_step (by repeat (first | (with_reducible first | exact HB.out | apply below_alloc | apply pw_below_drewN | apply below_drew1 | refine below_set ?_ GE648.out) | exact HB.out)) hb); have n2_ := Aside0.mk (hbox); have n3_ := Aside0.mk ((by rw [hg]; exact (below_size (by repeat (first | (with_reducible first | exact HB.out | apply below_alloc | apply pw_below_drewN | apply below_drew1 | refine below_set ?_ GE648.out) | exact HB.out))) : w.heap.size ≤ gb649)); have n4_ := Aside0.mk ((by rw [hg]; exact (below_size (by repeat (first | (with_reducible first | exact HB.out | apply below_alloc | apply pw_below_drewN | apply below_drew1 | refine below_set ?_ GE648.out) | exact HB.out))) : w.heap.size ≤ gb649)); have n5_ := Aside0.mk ((by rw [hg]; exact Nat.ne_of_lt (blk_lt (g := gb648) (o := .cells #[.string (⟨#[97]⟩ : ByteArray), .string (⟨#[120]⟩ : ByteArray), .int .i64 0, .int .i64 1] 57 (0, 0)) (by (with_reducible repeat (first | apply blN | apply blD | apply blA)); refine blk_put (cs := #[.string (⟨#[97]⟩ : ByteArray), .string (⟨#[120]⟩ : ByteArray), .int .i64 0, .int .i64 0]) ?_ 3 _ rfl; (with_reducible repeat (first | apply blN | apply blD | apply blA)); refine blk_put (cs := #[.string (⟨#[97]⟩ : ByteArray), .string (⟨#[120]⟩ : ByteArray), .int .i64 0, .int .i64 0]) ?_ 2 _ rfl; (with_reducible repeat (first | apply blN | apply blD | apply blA)); refine blk_put (cs := #[.string (⟨#[97]⟩ : ByteArray), .string (⟨#[]⟩ : ByteArray), .int .i64 0, .int .i64 0]) ?_ 1 _ rfl; (with_reducible repeat (first | apply blN | apply blD | apply blA)); refine blk_put (cs := #[.string (⟨#[]⟩ : ByteArray), .string (⟨#[]⟩ : ByteArray), .int .i64 0, .int .i64 0]) ?_ 0 _ rfl; (with_reducible repeat (first | apply blN | apply blD | apply blA)); exact BK648.out)) : gb648 ≠ gb649)); have n6_ := Aside0.mk ((by rw [hg]; exact Nat.ne_of_gt (blk_lt (g := gb648) (o := .cells #[.string (⟨#[97]⟩ : ByteArray), .string (⟨#[120]⟩ : ByteArray), .int .i64 0, .int .i64 1] 57 (0, 0)) (by (with_reducible repeat (first | apply blN | apply blD | apply blA)); refine blk_put (cs := #[.string (⟨#[97]⟩ : ByteArray), .string (⟨#[120]⟩ : ByteArray), .int .i64 0, .int .i64 0]) ?_ 3 _ rfl; (with_reducible repeat (first | apply blN | apply blD | apply blA)); refine blk_put (cs := #[.string (⟨#[97]⟩ : ByteArray), .string (⟨#[120]⟩ : ByteArray), .int .i64 0, .int .i64 0]) ?_ 2 _ rfl; (with_reducible repeat (first | apply blN | apply blD | apply blA)); refine blk_put (cs := #[.string (⟨#[97]⟩ : ByteArray), .string (⟨#[]⟩ : ByteArray), .int .i64 0, .int .i64 0]) ?_ 1 _ rfl; (with_reducible repeat (first | apply blN | apply blD | apply blA)); refine blk_put (cs := #[.string (⟨#[]⟩ : ByteArray), .string (⟨#[]⟩ : ByteArray), .int .i64 0, .int .i64 0]) ?_ 0 _ rfl; (with_reducible repeat (first | apply blN | apply blD | apply blA)); exact BK648.out)) : gb649 ≠ gb648)); clear BK648; clear HB; have BK648 := n0_; have HB := n1_; have BK649 := n2_; have GW649 := n3_; have GE649 := n4_; have NB648_649 := n5_; have NB649_648 := n6_; clear n0_ n1_ n2_ n3_ n4_ n5_ n6_; clear hb hbox hg; have hnb58 := NB649_648.out; have hnc58 := NB648_649.out; have hcz59_0 : w57.cell? ⟨gb649, 0, none⟩ = some (.string (⟨#[]⟩ : ByteArray)) := (blk_cell BK649.out 0).trans rfl; have hcz59_1 : w57.cell? ⟨gb649, 1, none⟩ = some (.string (⟨#[]⟩ : ByteArray)) := (blk_cell BK649.out 1).trans rfl; have hcz59_2 : w57.cell? ⟨gb649, 2, none⟩ = some (.int .i64 0) := (blk_cell BK649.out 2).trans rfl; have hcz59_3 : w57.cell? ⟨gb649, 3, none⟩ = some (.int .i64 0) := (blk_cell BK649.out 3).trans rfl; have hfz59_0 := blk_frozen BK649.out 0; have hfz59_1 := blk_frozen BK649.out 1; have hfz59_2 := blk_frozen BK649.out 2; have hfz59_3 := blk_frozen BK649.out 3; have hcz60_0 : w57.cell? ⟨gb648, 0, none⟩ = some (.string (⟨#[97]⟩ : ByteArray)) := (blk_cell BK648.out 0).trans rfl; have hcz60_1 : w57.cell? ⟨gb648, 1, none⟩ = some (.string (⟨#[120]⟩ : ByteArray)) := (blk_cell BK648.out 1).trans rfl; have hcz60_2 : w57.cell? ⟨gb648, 2, none⟩ = some (.int .i64 0) := (blk_cell BK648.out 2).trans rfl; have hcz60_3 : w57.cell? ⟨gb648, 3, none⟩ = some (.int .i64 1) := (blk_cell BK648.out 3).trans rfl; have hfz60_0 := blk_frozen BK648.out 0; have hfz60_1 := blk_frozen BK648.out 1; have hfz60_2 := blk_frozen BK648.out 2; have hfz60_3 := blk_frozen BK648.out 3) | ((with_reducible refine gate_dst (N := 10) rfl ?_); (try (refine gate_guard (by rfl) ?_; dsimp only)); refine Kd.R_lit k57 _ 57 ?hg (N := 10) ?hd (xs := ([(⟨(⟨#[97]⟩ : ByteArray), (⟨#[120]⟩ : ByteArray), (⟨0, 1⟩ : S24)⟩ : S57)] : List (S57))) (inner := [.string (⟨#[97]⟩ : ByteArray), .string (⟨#[120]⟩ : ByteArray), .int .i64 0, .int .i64 1]) (ok := fun _ => True) (okp := fun _ => True) ?hr ?hp (fun _ hk => hk) trivial (Below.refl _ _) (Nat.le_refl _) (by simp) ?_; (case hd => rfl); (case hg => rfl); (case hr => first | (go_simp; done) | (go_simp; rfl)); (case hp => exact (Reps.c4 (show Kd.M k57 _ _ _ (⟨(⟨#[97]⟩ : ByteArray), (⟨#[120]⟩ : ByteArray), (⟨0, 1⟩ : S24)⟩ : S57) [.string (⟨#[97]⟩ : ByteArray), .string (⟨#[120]⟩ : ByteArray), .int .i64 0, .int .i64 1] from (k57_mkM _ _ _ (⟨(⟨#[97]⟩ : ByteArray), (⟨#[120]⟩ : ByteArray), (⟨0, 1⟩ : S24)⟩ : S57) )) (Reps.none _ _))); intro v651 w61 ho62 hb hg_ hnew_; clear hg_ hnew_; (first | rw [← Ny650.out] at ho62 | (simp only [Int.reduceToNat] at ho62; rw [← Ny650.out] at ho62)); have n0_ := Aside0.mk (Kd.R_lower (Kd.R_newB (Kd.R_newB ho62 (g := gb648) (o := .cells #[.string (⟨#[97]⟩ : ByteArray), .string (⟨#[120]⟩ : ByteArray), .int .i64 0, .int .i64 1] 57 (0, 0)) (by (with_reducible repeat (first | apply blN | apply blD | apply blA)); refine blk_far ?_ NB648_649.out _; (with_reducible repeat (first | apply blN | apply blD | apply blA)); refine blk_far ?_ NB648_649.out _; (with_reducible repeat (first | apply blN | apply blD | apply blA)); refine blk_far ?_ NB648_649.out _; (with_reducible repeat (first | apply blN | apply blD | apply blA)); refine blk_far ?_ NB648_649.out _; (with_reducible repeat (first | apply blN | apply blD | apply blA)); exact BK648.out)) (g := gb649) (o := .cells #[.string (⟨#[97]⟩ : ByteArray), .string (⟨#[120]⟩ : ByteArray), .int .i64 0, .int .i64 2] 57 (0, 0)) (by (with_reducible repeat (first | apply blN | apply blD | apply blA)); refine blk_put (cs := #[.string (⟨#[97]⟩ : ByteArray), .string (⟨#[120]⟩ : ByteArray), .int .i64 0, .int .i64 0]) ?_ 3 _ rfl; (with_reducible repeat (first | apply blN | apply blD | apply blA)); refine blk_put (cs := #[.string (⟨#[97]⟩ : ByteArray), .string (⟨#[120]⟩ : ByteArray), .int .i64 0, .int .i64 0]) ?_ 2 _ rfl; (with_reducible repeat (first | apply blN | apply blD | apply blA)); refine blk_put (cs := #[.string (⟨#[97]⟩ : ByteArray), .string (⟨#[]⟩ : ByteArray), .int .i64 0, .int .i64 0]) ?_ 1 _ rfl; (with_reducible repeat (first | apply blN | apply blD | apply blA)); refine blk_put (cs := #[.string (⟨#[]⟩ : ByteArray), .string (⟨#[]⟩ : ByteArray), .int .i64 0, .int .i64 0]) ?_ 0 _ rfl; (with_reducible repeat (first | apply blN | apply blD | apply blA)); exact BK649.out)) (below_size (by repeat (first | (with_reducible first | exact HB.out | apply below_alloc | apply pw_below_drewN | apply below_drew1 | refine below_set ?_ GE648.out | refine below_set ?_ GE649.out) | exact HB.out)))); have n1_ := Aside0.mk (blk_below (g := gb648) (o := .cells #[.string (⟨#[97]⟩ : ByteArray), .string (⟨#[120]⟩ : ByteArray), .int .i64 0, .int .i64 1] 57 (0, 0)) (by (with_reducible repeat (first | apply blN | apply blD | apply blA)); refine blk_far ?_ NB648_649.out _; (with_reducible repeat (first | apply blN | apply blD | apply blA)); refine blk_far ?_ NB648_649.out _; (with_reducible repeat (first | apply blN | apply blD | apply blA)); refine blk_far ?_ NB648_649.out _; (with_reducible repeat (first | apply blN | apply blD | apply blA)); refine blk_far ?_ NB648_649.out _; (with_reducible repeat (first | apply blN | apply blD | apply blA)); exact BK648.out) hb); have n2_ := Aside0.mk (blk_below (g := gb649) (o := .cells #[.string (⟨#[97]⟩ : ByteArray), .string (⟨#[120]⟩ : ByteArray), .int .i64 0, .int .i64 2] 57 (0, 0)) (by (with_reducible repeat (first | apply blN | apply blD | apply blA)); refine blk_put (cs := #[.string (⟨#[97]⟩ : ByteArray), .string (⟨#[120]⟩ : ByteArray), .int .i64 0, .int .i64 0]) ?_ 3 _ rfl; (with_reducible repeat (first | apply blN | apply blD | apply blA)); refine blk_put (cs := #[.string (⟨#[97]⟩ : ByteArray), .string (⟨#[120]⟩ : ByteArray), .int .i64 0, .int .i64 0]) ?_ 2 _ rfl; (with_reducible repeat (first | apply blN | apply blD | apply blA)); refine blk_put (cs := #[.string (⟨#[97]⟩ : ByteArray), .string (⟨#[]⟩ : ByteArray), .int .i64 0, .int .i64 0]) ?_ 1 _ rfl; (with_reducible repeat (first | apply blN | apply blD | apply blA)); refine blk_put (cs := #[.string (⟨#[]⟩ : ByteArray), .string (⟨#[]⟩ : ByteArray), .int .i64 0, .int .i64 0]) ?_ 0 _ rfl; (with_reducible repeat (first | apply blN | apply blD | apply blA)); exact BK649.out) hb); have n3_ := Aside0.mk (below_step (by repeat (first | (with_reducible first | exact HB.out | apply below_alloc | apply pw_below_drewN | apply below_drew1 | refine below_set ?_ GE648.out | refine below_set ?_ GE649.out) | exact HB.out)) hb); clear BK648; clear BK649; clear HB; have HO652 := n0_; have BK648 := n1_; have BK649 := n2_; have HB := n3_; clear n0_ n1_ n2_ n3_; clear hb ho62))
     have n0_ := Aside0.mk (Kd.R_drew HO652.out)
     have n1_ := Aside0.mk (blk_drew BK648.out)
     have n2_ := Aside0.mk (blk_drew BK649.out)
     have n3_ := Aside0.mk (below_drew1 HB.out)
     clear HO652
     clear BK648
     clear BK649
     clear HB
     have HO652 := n0_
     have BK648 := n1_
     have BK649 := n2_
     have HB := n3_
     clear n0_ n1_ n2_ n3_
     obtain ⟨Ao64, co64, eo64⟩ := Kd.R_slice HO652.out
     (first | subst eo64 | (injection eo64 with f1_ f2_ f3_; have f4_ := f1_.symm; have f5_ := f3_.symm; clear f1_ f2_ f3_; subst f4_; subst f5_))
     refine start_ (n := 8) (S := fun w' => w'.cell? ⟨gb649, 0, none⟩ = some (.string (⟨#[97]⟩ : ByteArray)) ∧ w'.cell? ⟨gb649, 1, none⟩ = some (.string (⟨#[120]⟩ : ByteArray)) ∧ w'.cell? ⟨gb649, 2, none⟩ = some (.int .i64 0) ∧ w'.cell? ⟨gb649, 3, none⟩ = some (.int .i64 2)) (ds := []) #[O,O,O,O,O,O,O,O] (by kernel_rfl) rfl rfl ⟨(blk_cell BK649.out 0).trans rfl, (blk_cell BK649.out 1).trans rfl, (blk_cell BK649.out 2).trans rfl, (blk_cell BK649.out 3).trans rfl⟩ (fun hHeld => ?_); refine with_tabW law08_awake.tab4 law08_awake.bits4 (fun HT_ HW_ => ?_)
     generalize w61.drew = w63 at HO652 BK648 BK649 HB hHeld ⊢
     refine sqP (i := 0) (N := some 11) (v := ?_) (a' := ?_) #[I,O,O,O,O,O,O,O] rfl rfl HT_.out (Or.inl ⟨by rfl, ?_⟩) ?_ ?_
     rotate_left
     ·intro w'
      go_simp
      with_reducible rfl
     rotate_left
     ·simp only [Act.put, sqA, sqB, sqC, i64_w, i32_w]
      rfl
     refine sqP (i := 1) (N := some 12) (v := ?_) (a' := ?_) #[I,I,O,O,O,O,O,O] rfl rfl HT_.out (Or.inl ⟨by rfl, ?_⟩) ?_ ?_
     rotate_left
     ·intro w'
      go_simp
      with_reducible rfl
     rotate_left
     ·simp only [Act.put, sqA, sqB, sqC, i64_w, i32_w]
      rfl
     refine sqP (i := 3) (N := some 14) (v := ?_) (a' := ?_) #[I,I,O,I,O,O,O,O] rfl rfl HT_.out (Or.inl ⟨by rfl, ?_⟩) ?_ ?_
     rotate_left
     ·intro w'
      go_simp
      with_reducible rfl
     rotate_left
     ·simp only [Act.put, sqA, sqB, sqC, i64_w, i32_w]
      rfl
     refine take_ (i := 4) (N := some 15) (v := ?_) (a' := ?_) #[I,I,O,I,I,O,O,O] rfl rfl (take_ofW HT_.out HW_.out (by kernel_rfl)) (fun _ _ _ h => h) (Or.inl ⟨by rfl, ?_⟩) hHeld ?_ ?_
     rotate_left
     ·rintro w' ⟨s0, s1, s2, s3⟩
      go_simp
      with_reducible rfl
     rotate_left
     ·simp only [Act.put, sqA, sqB, sqC, i64_w, i32_w]
      rfl
     refine one_ (i := 2) (N := some 13) #[I,I,I,I,I,O,O,O] rfl rfl (one_of HT_.out (by kernel_rfl)) (by decide) (fun K hK => ?_)
     refine goes_ Try.func51 (by kernel_rfl) rfl #[.slice Ao64 y650.length co64, .string (⟨#[97]⟩ : ByteArray), .string (⟨#[120]⟩ : ByteArray)] (by rfl) rfl rfl (by (try simp only [List.map_toArray, List.map_cons, List.map_nil]); first | done | rfl | (simp only [List.length_drop, List.length_take]; rfl)) ?_
     with_reducible refine (pair_Del.calls _ _ y650 (⟨#[97]⟩ : ByteArray) (⟨#[120]⟩ : ByteArray) t653 _ ?side1 ?side2 A1.out).mono ?_
     (case side1 => repeat (first | exact (Kd.R_reads' HO652.out).2.2 | (with_reducible refine Kd.C_alloc ?_ _) | (with_reducible refine Kd.C_drewN ?_ _) | (with_reducible refine Kd.C_drew ?_)))
     (case side2 => exact (Kd.R_reads' HO652.out).2.1)
     rintro e w65 ⟨v654, rfl, ho0, hb⟩
     refine ⟨_, rfl, ?_⟩
     have n0_ := Aside0.mk (Kd.R_elder' (by (with_reducible repeat (first | apply Kd.R_alloc | apply Kd.R_drewN | apply Kd.R_drew)); exact HO652.out) (Kd.R_base ho0) hb)
     have n1_ := Aside0.mk (Kd.R_lower (Kd.R_newB (Kd.R_newB (Kd.R_new' ho0 (Kd.R_lt (by (with_reducible repeat (first | apply Kd.R_alloc | apply Kd.R_drewN | apply Kd.R_drew)); exact HO652.out))) (g := gb648) (o := .cells #[.string (⟨#[97]⟩ : ByteArray), .string (⟨#[120]⟩ : ByteArray), .int .i64 0, .int .i64 1] 57 (0, 0)) (by (with_reducible repeat (first | apply blN | apply blD | apply blA)); exact BK648.out)) (g := gb649) (o := .cells #[.string (⟨#[97]⟩ : ByteArray), .string (⟨#[120]⟩ : ByteArray), .int .i64 0, .int .i64 2] 57 (0, 0)) (by (with_reducible repeat (first | apply blN | apply blD | apply blA)); exact BK649.out)) (below_size (by repeat (first | (with_reducible first | exact HB.out | apply below_alloc | apply pw_below_drewN | apply below_drew1 | refine below_set ?_ GE648.out | refine below_set ?_ GE649.out) | exact HB.out))))
     have n2_ := Aside0.mk (blk_below (g := gb648) (o := .cells #[.string (⟨#[97]⟩ : ByteArray), .string (⟨#[120]⟩ : ByteArray), .int .i64 0, .int .i64 1] 57 (0, 0)) (by (with_reducible repeat (first | apply blN | apply blD | apply blA)); exact BK648.out) hb)
     have n3_ := Aside0.mk (blk_below (g := gb649) (o := .cells #[.string (⟨#[97]⟩ : ByteArray), .string (⟨#[120]⟩ : ByteArray), .int .i64 0, .int .i64 2] 57 (0, 0)) (by (with_reducible repeat (first | apply blN | apply blD | apply blA)); exact BK649.out) hb)
     have n4_ := Aside0.mk (below_step (by repeat (first | (with_reducible first | exact HB.out | apply below_alloc | apply pw_below_drewN | apply below_drew1 | refine below_set ?_ GE648.out | refine below_set ?_ GE649.out) | exact HB.out)) hb)
     clear HO652
     clear BK648
     clear BK649
     clear HB
     have HO652 := n0_
     have HO655 := n1_
     have BK648 := n2_
     have BK649 := n3_
     have HB := n4_
     clear n0_ n1_ n2_ n3_ n4_
     (try clear hb)
     (try clear hb2)
     (try clear hk)
     (try clear hi)
     (try clear ho0)
     refine hK.out _ _ ⟨(blk_cell BK649.out 0).trans rfl, (blk_cell BK649.out 1).trans rfl, (blk_cell BK649.out 2).trans rfl, (blk_cell BK649.out 3).trans rfl⟩ (fun hHeld => ?_)
     clear hK K
     refine norm_ (a' := ?_) ?_ ?_
     rotate_left
     ·show Act.put _ (some 13) _ = _
      simp only [Act.put, sqA, sqB, sqC, i64_w, i32_w]
      rfl
     refine one_ (i := 5) (N := some 16) #[I,I,I,I,I,I,O,O] rfl rfl (one_of HT_.out (by kernel_rfl)) (by decide) (fun K hK => ?_)
     refine goes_ Try.func49 (by kernel_rfl) rfl #[.slice Ao64 y650.length co64, .agg #[.string (⟨#[97]⟩ : ByteArray), .string (⟨#[120]⟩ : ByteArray), .int .i64 0, .int .i64 2]] (by rfl) rfl rfl (by (try simp only [List.map_toArray, List.map_cons, List.map_nil]); first | done | rfl | (simp only [List.length_drop, List.length_take]; rfl)) ?_
     with_reducible refine (pair_Add.calls _ _ y650 (⟨#[97]⟩ : ByteArray) (⟨#[120]⟩ : ByteArray) 0 2 t656 _ ?side1 ?side2 A2.out).mono ?_
     (case side1 => repeat (first | exact (Kd.R_reads' HO652.out).2.2 | (with_reducible refine Kd.C_alloc ?_ _) | (with_reducible refine Kd.C_drewN ?_ _) | (with_reducible refine Kd.C_drew ?_)))
     (case side2 => exact (Kd.R_reads' HO652.out).2.1)
     rintro e w66 ⟨v657, rfl, ho0, hb⟩
     refine ⟨_, rfl, ?_⟩
     have n0_ := Aside0.mk (Kd.R_elder' (by (with_reducible repeat (first | apply Kd.R_alloc | apply Kd.R_drewN | apply Kd.R_drew)); exact HO652.out) (Kd.R_base ho0) hb)
     have n1_ := Aside0.mk (Kd.R_elder' (by (with_reducible repeat (first | apply Kd.R_alloc | apply Kd.R_drewN | apply Kd.R_drew)); exact HO655.out) (Kd.R_base ho0) hb)
     have n2_ := Aside0.mk (Kd.R_lower (Kd.R_newB (Kd.R_newB (Kd.R_new' (Kd.R_new' ho0 (Kd.R_lt (by (with_reducible repeat (first | apply Kd.R_alloc | apply Kd.R_drewN | apply Kd.R_drew)); exact HO652.out))) (Kd.R_lt (by (with_reducible repeat (first | apply Kd.R_alloc | apply Kd.R_drewN | apply Kd.R_drew)); exact HO655.out))) (g := gb648) (o := .cells #[.string (⟨#[97]⟩ : ByteArray), .string (⟨#[120]⟩ : ByteArray), .int .i64 0, .int .i64 1] 57 (0, 0)) (by (with_reducible repeat (first | apply blN | apply blD | apply blA)); exact BK648.out)) (g := gb649) (o := .cells #[.string (⟨#[97]⟩ : ByteArray), .string (⟨#[120]⟩ : ByteArray), .int .i64 0, .int .i64 2] 57 (0, 0)) (by (with_reducible repeat (first | apply blN | apply blD | apply blA)); exact BK649.out)) (below_size (by repeat (first | (with_reducible first | exact HB.out | apply below_alloc | apply pw_below_drewN | apply below_drew1 | refine below_set ?_ GE648.out | refine below_set ?_ GE649.out) | exact HB.out))))
     have n3_ := Aside0.mk (blk_below (g := gb648) (o := .cells #[.string (⟨#[97]⟩ : ByteArray), .string (⟨#[120]⟩ : ByteArray), .int .i64 0, .int .i64 1] 57 (0, 0)) (by (with_reducible repeat (first | apply blN | apply blD | apply blA)); exact BK648.out) hb)
     have n4_ := Aside0.mk (blk_below (g := gb649) (o := .cells #[.string (⟨#[97]⟩ : ByteArray), .string (⟨#[120]⟩ : ByteArray), .int .i64 0, .int .i64 2] 57 (0, 0)) (by (with_reducible repeat (first | apply blN | apply blD | apply blA)); exact BK649.out) hb)
     have n5_ := Aside0.mk (below_step (by repeat (first | (with_reducible first | exact HB.out | apply below_alloc | apply pw_below_drewN | apply below_drew1 | refine below_set ?_ GE648.out | refine below_set ?_ GE649.out) | exact HB.out)) hb)
     clear HO652
     clear HO655
     clear BK648
     clear BK649
     clear HB
     have HO652 := n0_
     have HO655 := n1_
     have HO658 := n2_
     have BK648 := n3_
     have BK649 := n4_
     have HB := n5_
     clear n0_ n1_ n2_ n3_ n4_ n5_
     (try clear hb)
     (try clear hb2)
     (try clear hk)
     (try clear hi)
     (try clear ho0)
     obtain ⟨Ao67, co67, eo67⟩ := Kd.R_slice HO655.out
     (first | subst eo67 | (injection eo67 with f1_ f2_ f3_; have f4_ := f1_.symm; have f5_ := f3_.symm; clear f1_ f2_ f3_; subst f4_; subst f5_))
     obtain ⟨Ao68, co68, eo68⟩ := Kd.R_slice HO658.out
     (first | subst eo68 | (injection eo68 with f1_ f2_ f3_; have f4_ := f1_.symm; have f5_ := f3_.symm; clear f1_ f2_ f3_; subst f4_; subst f5_))
     refine hK.out _ _ ⟨(blk_cell BK649.out 0).trans rfl, (blk_cell BK649.out 1).trans rfl, (blk_cell BK649.out 2).trans rfl, (blk_cell BK649.out 3).trans rfl⟩ (fun hHeld => ?_)
     clear hK K
     refine norm_ (a' := ?_) ?_ ?_
     rotate_left
     ·show Act.put _ (some 16) _ = _
      simp only [Act.put, sqA, sqB, sqC, i64_w, i32_w]
      rfl
     refine one_ (i := 6) (N := some 17) #[I,I,I,I,I,I,I,O] rfl rfl (one_of HT_.out (by kernel_rfl)) (by decide) (fun K hK => ?_)
     refine goes_ Try.func53 (by kernel_rfl) rfl #[.slice Ao64 y650.length co64, .slice Ao67 t653.length co67, .slice Ao68 t656.length co68] (by rfl) rfl rfl (by (try simp only [List.map_toArray, List.map_cons, List.map_nil]); first | done | rfl | (simp only [List.length_drop, List.length_take]; rfl)) ?_
     with_reducible refine (pair_Merge.calls _ _ y650 _ _ t653 _ _ t656 t659 _ ?side1 ?side2 ?side3 ?side4 ?side5 ?side6 A3.out).mono ?_
     (case side1 => repeat (first | exact (Kd.R_reads' HO652.out).2.2 | (with_reducible refine Kd.C_alloc ?_ _) | (with_reducible refine Kd.C_drewN ?_ _) | (with_reducible refine Kd.C_drew ?_)))
     (case side2 => exact (Kd.R_reads' HO652.out).2.1)
     (case side3 => repeat (first | exact (Kd.R_reads' HO655.out).2.2 | (with_reducible refine Kd.C_alloc ?_ _) | (with_reducible refine Kd.C_drewN ?_ _) | (with_reducible refine Kd.C_drew ?_)))
     (case side4 => exact (Kd.R_reads' HO655.out).2.1)
     (case side5 => repeat (first | exact (Kd.R_reads' HO658.out).2.2 | (with_reducible refine Kd.C_alloc ?_ _) | (with_reducible refine Kd.C_drewN ?_ _) | (with_reducible refine Kd.C_drew ?_)))
     (case side6 => exact (Kd.R_reads' HO658.out).2.1)
     rintro e w69 ⟨v660, rfl, ho0, hb⟩
     refine ⟨_, rfl, ?_⟩
     have n0_ := Aside0.mk (Kd.R_elder' (by (with_reducible repeat (first | apply Kd.R_alloc | apply Kd.R_drewN | apply Kd.R_drew)); exact HO652.out) (Kd.R_base ho0) hb)
     have n1_ := Aside0.mk (Kd.R_elder' (by (with_reducible repeat (first | apply Kd.R_alloc | apply Kd.R_drewN | apply Kd.R_drew)); exact HO655.out) (Kd.R_base ho0) hb)
     have n2_ := Aside0.mk (Kd.R_elder' (by (with_reducible repeat (first | apply Kd.R_alloc | apply Kd.R_drewN | apply Kd.R_drew)); exact HO658.out) (Kd.R_base ho0) hb)
     have n3_ := Aside0.mk (Kd.R_lower (Kd.R_newB (Kd.R_newB (Kd.R_new' (Kd.R_new' (Kd.R_new' ho0 (Kd.R_lt (by (with_reducible repeat (first | apply Kd.R_alloc | apply Kd.R_drewN | apply Kd.R_drew)); exact HO652.out))) (Kd.R_lt (by (with_reducible repeat (first | apply Kd.R_alloc | apply Kd.R_drewN | apply Kd.R_drew)); exact HO655.out))) (Kd.R_lt (by (with_reducible repeat (first | apply Kd.R_alloc | apply Kd.R_drewN | apply Kd.R_drew)); exact HO658.out))) (g := gb648) (o := .cells #[.string (⟨#[97]⟩ : ByteArray), .string (⟨#[120]⟩ : ByteArray), .int .i64 0, .int .i64 1] 57 (0, 0)) (by (with_reducible repeat (first | apply blN | apply blD | apply blA)); exact BK648.out)) (g := gb649) (o := .cells #[.string (⟨#[97]⟩ : ByteArray), .string (⟨#[120]⟩ : ByteArray), .int .i64 0, .int .i64 2] 57 (0, 0)) (by (with_reducible repeat (first | apply blN | apply blD | apply blA)); exact BK649.out)) (below_size (by repeat (first | (with_reducible first | exact HB.out | apply below_alloc | apply pw_below_drewN | apply below_drew1 | refine below_set ?_ GE648.out | refine below_set ?_ GE649.out) | exact HB.out))))
     have n4_ := Aside0.mk (blk_below (g := gb648) (o := .cells #[.string (⟨#[97]⟩ : ByteArray), .string (⟨#[120]⟩ : ByteArray), .int .i64 0, .int .i64 1] 57 (0, 0)) (by (with_reducible repeat (first | apply blN | apply blD | apply blA)); exact BK648.out) hb)
     have n5_ := Aside0.mk (blk_below (g := gb649) (o := .cells #[.string (⟨#[97]⟩ : ByteArray), .string (⟨#[120]⟩ : ByteArray), .int .i64 0, .int .i64 2] 57 (0, 0)) (by (with_reducible repeat (first | apply blN | apply blD | apply blA)); exact BK649.out) hb)
     have n6_ := Aside0.mk (below_step (by repeat (first | (with_reducible first | exact HB.out | apply below_alloc | apply pw_below_drewN | apply below_drew1 | refine below_set ?_ GE648.out | refine below_set ?_ GE649.out) | exact HB.out)) hb)
     clear HO652
     clear HO655
     clear HO658
     clear BK648
     clear BK649
     clear HB
     have HO652 := n0_
     have HO655 := n1_
     have HO658 := n2_
     have HO661 := n3_
     have BK648 := n4_
     have BK649 := n5_
     have HB := n6_
     clear n0_ n1_ n2_ n3_ n4_ n5_ n6_
     (try clear hb)
     (try clear hb2)
     (try clear hk)
     (try clear hi)
     (try clear ho0)
     refine hK.out _ _ ⟨(blk_cell BK649.out 0).trans rfl, (blk_cell BK649.out 1).trans rfl, (blk_cell BK649.out 2).trans rfl, (blk_cell BK649.out 3).trans rfl⟩ (fun hHeld => ?_)
     clear hK K
     refine norm_ (a' := ?_) ?_ ?_
     rotate_left
     ·show Act.put _ (some 17) _ = _
      simp only [Act.put, sqA, sqB, sqC, i64_w, i32_w]
      rfl
     refine sqP (i := 7) (N := some 4) (v := ?_) (a' := ?_) #[I,I,I,I,I,I,I,I] rfl rfl HT_.out (Or.inl ⟨by rfl, ?_⟩) ?_ ?_
     rotate_left
     ·intro w'
      go_simp
      with_reducible rfl
     rotate_left
     ·simp only [Act.put, sqA, sqB, sqC, i64_w, i32_w]
      rfl
     refine done_ (done_of HT_.out (by kernel_rfl)) ?_
     try go_wp2
     have n0_ := Aside0.mk (Kd.R_drew HO652.out)
     have n1_ := Aside0.mk (Kd.R_drew HO655.out)
     have n2_ := Aside0.mk (Kd.R_drew HO658.out)
     have n3_ := Aside0.mk (Kd.R_drew HO661.out)
     have n4_ := Aside0.mk (blk_drew BK648.out)
     have n5_ := Aside0.mk (blk_drew BK649.out)
     have n6_ := Aside0.mk (below_drew1 HB.out)
     clear HO652
     clear HO655
     clear HO658
     clear HO661
     clear BK648
     clear BK649
     clear HB
     have HO652 := n0_
     have HO655 := n1_
     have HO658 := n2_
     have HO661 := n3_
     have BK648 := n4_
     have BK649 := n5_
     have HB := n6_
     clear n0_ n1_ n2_ n3_ n4_ n5_ n6_
     obtain ⟨Ao71, co71, eo71⟩ := Kd.R_slice HO661.out
     (first | subst eo71 | (injection eo71 with f1_ f2_ f3_; have f4_ := f1_.symm; have f5_ := f3_.symm; clear f1_ f2_ f3_; subst f4_; subst f5_))
     have p662 : 0 ≤ (0 : Int) := (by omega)
     have q662 : 0 < (t659.length : Int) := of_decide_eq_true (by first | (with_reducible assumption) | assumption)
     obtain ⟨ad662, e662, hx662_0, hx662_1, hx662_2, hx662_3⟩ := at_T57 (Kd.R_reads' HO661.out).2.2 0 p662 q662
     cases e662
     have qi662 : (0 < t659.length) = True := eq_true (by omega)
     (try rw [show ((0 : Int)).toNat = 0 from rfl] at hx662_0)
     (try rw [show 0 * 4 = 0 from rfl] at hx662_0)
     (try rw [Addr.add_zero'] at hx662_0)
     (try rw [show ((0 : Int)).toNat = 0 from rfl] at hx662_1)
     (try rw [show 0 * 4 = 0 from rfl] at hx662_1)
     (try rw [Addr.add_zero'] at hx662_1)
     (try rw [show ((0 : Int)).toNat = 0 from rfl] at hx662_2)
     (try rw [show 0 * 4 = 0 from rfl] at hx662_2)
     (try rw [Addr.add_zero'] at hx662_2)
     (try rw [show ((0 : Int)).toNat = 0 from rfl] at hx662_3)
     (try rw [show 0 * 4 = 0 from rfl] at hx662_3)
     (try rw [Addr.add_zero'] at hx662_3)
     replace p662 := eq_true p662
     replace q662 := eq_true q662
     refine start_ (n := 28) (S := fun w' => w'.cell? ⟨gb649, 0, none⟩ = some (.string (⟨#[97]⟩ : ByteArray)) ∧ w'.cell? ⟨gb649, 1, none⟩ = some (.string (⟨#[120]⟩ : ByteArray)) ∧ w'.cell? ⟨gb649, 2, none⟩ = some (.int .i64 0) ∧ w'.cell? ⟨gb649, 3, none⟩ = some (.int .i64 2) ∧ w'.cell? ad662 = some (.string ((rd_T57 t659 0).f0)) ∧ w'.cell? ⟨ad662.block, ad662.off + 1, none⟩ = some (.string ((rd_T57 t659 0).f1)) ∧ w'.cell? ⟨ad662.block, ad662.off + 2, none⟩ = some (.int .i64 ((rd_T57 t659 0).f2.f0)) ∧ w'.cell? ⟨ad662.block, ad662.off + 3, none⟩ = some (.int .i64 ((rd_T57 t659 0).f2.f1))) (ds := []) #[O,O,O,O,O,O,O,O,O,O,O,O,O,O,O,O,O,O,O,O,O,O,O,O,O,O,O,O] (by kernel_rfl) rfl rfl ⟨(blk_cell BK649.out 0).trans rfl, (blk_cell BK649.out 1).trans rfl, (blk_cell BK649.out 2).trans rfl, (blk_cell BK649.out 3).trans rfl, hx662_0, hx662_1, hx662_2, hx662_3⟩ (fun hHeld => ?_); refine with_tabW law08_awake.tab5 law08_awake.bits5 (fun HT_ HW_ => ?_)
     generalize w69.drew = w70 at HO652 HO655 HO658 HO661 BK648 BK649 HB hx662_0 hx662_1 hx662_2 hx662_3 hHeld ⊢
     refine sqP (i := 0) (N := some 18) (v := ?_) (a' := ?_) #[I,O,O,O,O,O,O,O,O,O,O,O,O,O,O,O,O,O,O,O,O,O,O,O,O,O,O,O] rfl rfl HT_.out (Or.inl ⟨by rfl, ?_⟩) ?_ ?_
     rotate_left
     ·intro w'
      go_simp
      with_reducible rfl
     rotate_left
     ·simp only [Act.put, sqA, sqB, sqC, i64_w, i32_w]
      rfl
     refine sqP (i := 1) (N := some 19) (v := ?_) (a' := ?_) #[I,I,O,O,O,O,O,O,O,O,O,O,O,O,O,O,O,O,O,O,O,O,O,O,O,O,O,O] rfl rfl HT_.out (Or.inl ⟨by rfl, ?_⟩) ?_ ?_
     rotate_left
     ·intro w'
      go_simp
      with_reducible rfl
     rotate_left
     ·simp only [Act.put, sqA, sqB, sqC, i64_w, i32_w]
      rfl
     refine sqP (i := 2) (N := some 20) (v := ?_) (a' := ?_) #[I,I,I,O,O,O,O,O,O,O,O,O,O,O,O,O,O,O,O,O,O,O,O,O,O,O,O,O] rfl rfl HT_.out (Or.inl ⟨by rfl, ?_⟩) ?_ ?_
     rotate_left
     ·intro w'
      go_simp
      with_reducible rfl
     rotate_left
     ·simp only [Act.put, sqA, sqB, sqC, i64_w, i32_w]
      rfl
     refine sqP (i := 3) (N := some 21) (v := ?_) (a' := ?_) #[I,I,I,I,O,O,O,O,O,O,O,O,O,O,O,O,O,O,O,O,O,O,O,O,O,O,O,O] rfl rfl HT_.out (Or.inl ⟨by rfl, ?_⟩) ?_ ?_
     rotate_left
     ·intro w'
      go_simp
      with_reducible rfl
     rotate_left
     ·simp only [Act.put, sqA, sqB, sqC, i64_w, i32_w]
      rfl
     refine sqP (i := 4) (N := some 22) (v := ?_) (a' := ?_) #[I,I,I,I,I,O,O,O,O,O,O,O,O,O,O,O,O,O,O,O,O,O,O,O,O,O,O,O] rfl rfl HT_.out (Or.inl ⟨by rfl, ?_⟩) ?_ ?_
     rotate_left
     ·intro w'
      go_simp
      with_reducible rfl
     rotate_left
     ·simp only [Act.put, sqA, sqB, sqC, i64_w, i32_w]
      rfl
     refine sqP (i := 5) (N := some 23) (v := ?_) (a' := ?_) #[I,I,I,I,I,I,O,O,O,O,O,O,O,O,O,O,O,O,O,O,O,O,O,O,O,O,O,O] rfl rfl HT_.out (Or.inl ⟨by rfl, ?_⟩) ?_ ?_
     rotate_left
     ·intro w'
      go_simp
      with_reducible rfl
     rotate_left
     ·simp only [Act.put, sqA, sqB, sqC, i64_w, i32_w]
      rfl
     refine take_ (i := 6) (N := some 24) (v := ?_) (a' := ?_) #[I,I,I,I,I,I,I,O,O,O,O,O,O,O,O,O,O,O,O,O,O,O,O,O,O,O,O,O] rfl rfl (take_ofW HT_.out HW_.out (by kernel_rfl)) (fun _ _ _ h => h) (Or.inl ⟨by rfl, ?_⟩) hHeld ?_ ?_
     rotate_left
     ·rintro w' ⟨s0, s1, s2, s3, s4, s5, s6, s7⟩
      go_simp
      with_reducible rfl
     rotate_left
     ·simp only [Act.put, sqA, sqB, sqC, i64_w, i32_w]
      rfl
     refine take_ (i := 7) (N := some 25) (v := ?_) (a' := ?_) #[I,I,I,I,I,I,I,I,O,O,O,O,O,O,O,O,O,O,O,O,O,O,O,O,O,O,O,O] rfl rfl (take_ofW HT_.out HW_.out (by kernel_rfl)) (fun _ _ _ h => h) (Or.inl ⟨by rfl, ?_⟩) hHeld ?_ ?_
     rotate_left
     ·rintro w' ⟨s0, s1, s2, s3, s4, s5, s6, s7⟩
      go_simp
      with_reducible rfl
     rotate_left
     ·simp only [Act.put, sqA, sqB, sqC, i64_w, i32_w]
      rfl
     refine sqP (i := 8) (N := some 26) (v := ?_) (a' := ?_) #[I,I,I,I,I,I,I,I,I,O,O,O,O,O,O,O,O,O,O,O,O,O,O,O,O,O,O,O] rfl rfl HT_.out (Or.inl ⟨by rfl, ?_⟩) ?_ ?_
     rotate_left
     ·intro w'
      go_simp
      with_reducible rfl
     rotate_left
     ·simp only [Act.put, sqA, sqB, sqC, i64_w, i32_w]
      rfl
     refine sqP (i := 9) (N := some 27) (v := ?_) (a' := ?_) #[I,I,I,I,I,I,I,I,I,I,O,O,O,O,O,O,O,O,O,O,O,O,O,O,O,O,O,O] rfl rfl HT_.out (Or.inl ⟨by rfl, ?_⟩) ?_ ?_
     rotate_left
     ·intro w'
      go_simp
      with_reducible rfl
     rotate_left
     ·simp only [Act.put, sqA, sqB, sqC, i64_w, i32_w]
      rfl
     refine sqP (i := 10) (N := some 28) (v := ?_) (a' := ?_) #[I,I,I,I,I,I,I,I,I,I,I,O,O,O,O,O,O,O,O,O,O,O,O,O,O,O,O,O] rfl rfl HT_.out (Or.inl ⟨by rfl, ?_⟩) ?_ ?_
     rotate_left
     ·intro w'
      go_simp
      with_reducible rfl
     rotate_left
     ·simp only [Act.put, sqA, sqB, sqC, i64_w, i32_w]
      rfl
     refine sqP (i := 11) (N := some 29) (v := ?_) (a' := ?_) #[I,I,I,I,I,I,I,I,I,I,I,I,O,O,O,O,O,O,O,O,O,O,O,O,O,O,O,O] rfl rfl HT_.out (Or.inl ⟨by rfl, ?_⟩) ?_ ?_
     rotate_left
     ·intro w'
      go_simp
      with_reducible rfl
     rotate_left
     ·simp only [Act.put, sqA, sqB, sqC, i64_w, i32_w]
      rfl
     refine one_ (i := 12) (N := some 30) #[I,I,I,I,I,I,I,I,I,I,I,I,I,O,O,O,O,O,O,O,O,O,O,O,O,O,O,O] rfl rfl (one_of HT_.out (by kernel_rfl)) (by decide) (fun K hK => ?_)
     refine goes_ Try.func60 (by kernel_rfl) rfl #[.slice (some ad662) t659.length co71] (by rfl) rfl rfl (by (try simp only [List.map_toArray, List.map_cons, List.map_nil]); first | done | rfl | (simp only [List.length_drop, List.length_take]; rfl)) ?_
     with_reducible refine (pair_May.calls k _ _ t659 false _ ?side1 ?side2 A7.out).mono ?_
     (case side1 => repeat (first | exact (Kd.R_reads' HO661.out).2.2 | (with_reducible refine Kd.C_alloc ?_ _) | (with_reducible refine Kd.C_drewN ?_ _) | (with_reducible refine Kd.C_drew ?_)))
     (case side2 => exact (Kd.R_reads' HO661.out).2.1)
     rintro e w72 ⟨rfl, hb⟩
     have HS4_ := (hb.cell (World.block_lt_of_cell? _ _ (hHeld.2.2.2.2.1))).trans (hHeld.2.2.2.2.1)
     have HS5_ := (hb.cell (World.block_lt_of_cell? _ _ (hHeld.2.2.2.2.2.1))).trans (hHeld.2.2.2.2.2.1)
     have HS6_ := (hb.cell (World.block_lt_of_cell? _ _ (hHeld.2.2.2.2.2.2.1))).trans (hHeld.2.2.2.2.2.2.1)
     have HS7_ := (hb.cell (World.block_lt_of_cell? _ _ (hHeld.2.2.2.2.2.2.2))).trans (hHeld.2.2.2.2.2.2.2)
     refine ⟨_, rfl, ?_⟩
     have n0_ := Aside0.mk (Kd.R_below (by (with_reducible repeat (first | apply Kd.R_alloc | apply Kd.R_drewN | apply Kd.R_drew)); exact HO652.out) hb)
     have n1_ := Aside0.mk (Kd.R_below (by (with_reducible repeat (first | apply Kd.R_alloc | apply Kd.R_drewN | apply Kd.R_drew)); exact HO655.out) hb)
     have n2_ := Aside0.mk (Kd.R_below (by (with_reducible repeat (first | apply Kd.R_alloc | apply Kd.R_drewN | apply Kd.R_drew)); exact HO658.out) hb)
     have n3_ := Aside0.mk (Kd.R_below (by (with_reducible repeat (first | apply Kd.R_alloc | apply Kd.R_drewN | apply Kd.R_drew)); exact HO661.out) hb)
     have n4_ := Aside0.mk (blk_below (g := gb648) (o := .cells #[.string (⟨#[97]⟩ : ByteArray), .string (⟨#[120]⟩ : ByteArray), .int .i64 0, .int .i64 1] 57 (0, 0)) (by (with_reducible repeat (first | apply blN | apply blD | apply blA)); exact BK648.out) hb)
     have n5_ := Aside0.mk (blk_below (g := gb649) (o := .cells #[.string (⟨#[97]⟩ : ByteArray), .string (⟨#[120]⟩ : ByteArray), .int .i64 0, .int .i64 2] 57 (0, 0)) (by (with_reducible repeat (first | apply blN | apply blD | apply blA)); exact BK649.out) hb)
     have n6_ := Aside0.mk (below_step (by repeat (first | (with_reducible first | exact HB.out | apply below_alloc | apply pw_below_drewN | apply below_drew1 | refine below_set ?_ GE648.out | refine below_set ?_ GE649.out) | exact HB.out)) hb)
     clear HO652
     clear HO655
     clear HO658
     clear HO661
     clear BK648
     clear BK649
     clear HB
     have HO652 := n0_
     have HO655 := n1_
     have HO658 := n2_
     have HO661 := n3_
     have BK648 := n4_
     have BK649 := n5_
     have HB := n6_
     clear n0_ n1_ n2_ n3_ n4_ n5_ n6_
     (try clear hb)
     (try clear hb2)
     (try clear hk)
     (try clear hi)
     refine hK.out _ _ ⟨(blk_cell BK649.out 0).trans rfl, (blk_cell BK649.out 1).trans rfl, (blk_cell BK649.out 2).trans rfl, (blk_cell BK649.out 3).trans rfl, HS4_, HS5_, HS6_, HS7_⟩ (fun hHeld => ?_)
     clear hK K
     refine norm_ (a' := ?_) ?_ ?_
     rotate_left
     ·show Act.put _ (some 30) _ = _
      simp only [Act.put, sqA, sqB, sqC, i64_w, i32_w]
      rfl
     refine sqP (i := 13) (N := some 31) (v := ?_) (a' := ?_) #[I,I,I,I,I,I,I,I,I,I,I,I,I,I,O,O,O,O,O,O,O,O,O,O,O,O,O,O] rfl rfl HT_.out (Or.inl ⟨by rfl, ?_⟩) ?_ ?_
     rotate_left
     ·intro w'
      go_simp
      with_reducible rfl
     rotate_left
     ·simp only [Act.put, sqA, sqB, sqC, i64_w, i32_w]
      rfl
     refine sqP (i := 14) (N := some 32) (v := ?_) (a' := ?_) #[I,I,I,I,I,I,I,I,I,I,I,I,I,I,I,O,O,O,O,O,O,O,O,O,O,O,O,O] rfl rfl HT_.out (Or.inl ⟨by rfl, ?_⟩) ?_ ?_
     rotate_left
     ·intro w'
      go_simp
      with_reducible rfl
     rotate_left
     ·simp only [Act.put, sqA, sqB, sqC, i64_w, i32_w]
      rfl
     refine sqP (i := 15) (N := some 33) (v := undef) (a' := ?_) #[I,I,I,I,I,I,I,I,I,I,I,I,I,I,I,I,O,O,O,O,O,O,O,O,O,O,O,O] rfl rfl HT_.out (Or.inr ⟨by rfl, rfl⟩) ?_ ?_
     rotate_left
     ·simp only [Act.put, sqA, sqB, sqC, i64_w, i32_w]
      rfl
     refine sqP (i := 16) (N := some 34) (v := undef) (a' := ?_) #[I,I,I,I,I,I,I,I,I,I,I,I,I,I,I,I,I,O,O,O,O,O,O,O,O,O,O,O] rfl rfl HT_.out (Or.inr ⟨by rfl, rfl⟩) ?_ ?_
     rotate_left
     ·simp only [Act.put, sqA, sqB, sqC, i64_w, i32_w]
      rfl
     refine sqP (i := 17) (N := some 35) (v := undef) (a' := ?_) #[I,I,I,I,I,I,I,I,I,I,I,I,I,I,I,I,I,I,O,O,O,O,O,O,O,O,O,O] rfl rfl HT_.out (Or.inr ⟨by rfl, rfl⟩) ?_ ?_
     rotate_left
     ·simp only [Act.put, sqA, sqB, sqC, i64_w, i32_w]
      rfl
     refine sqP (i := 18) (N := some 36) (v := ?_) (a' := ?_) #[I,I,I,I,I,I,I,I,I,I,I,I,I,I,I,I,I,I,I,O,O,O,O,O,O,O,O,O] rfl rfl HT_.out (Or.inl ⟨by rfl, ?_⟩) ?_ ?_
     rotate_left
     ·intro w'
      go_simp
      with_reducible rfl
     rotate_left
     ·simp only [Act.put, sqA, sqB, sqC, i64_w, i32_w]
      rfl
     refine sqP (i := 19) (N := some 37) (v := ?_) (a' := ?_) #[I,I,I,I,I,I,I,I,I,I,I,I,I,I,I,I,I,I,I,I,O,O,O,O,O,O,O,O] rfl rfl HT_.out (Or.inl ⟨by rfl, ?_⟩) ?_ ?_
     rotate_left
     ·intro w'
      go_simp
      with_reducible rfl
     rotate_left
     ·simp only [Act.put, sqA, sqB, sqC, i64_w, i32_w]
      rfl
     refine sqP (i := 20) (N := some 38) (v := undef) (a' := ?_) #[I,I,I,I,I,I,I,I,I,I,I,I,I,I,I,I,I,I,I,I,I,O,O,O,O,O,O,O] rfl rfl HT_.out (Or.inr ⟨by rfl, rfl⟩) ?_ ?_
     rotate_left
     ·simp only [Act.put, sqA, sqB, sqC, i64_w, i32_w]
      rfl
     refine sqP (i := 21) (N := some 39) (v := undef) (a' := ?_) #[I,I,I,I,I,I,I,I,I,I,I,I,I,I,I,I,I,I,I,I,I,I,O,O,O,O,O,O] rfl rfl HT_.out (Or.inr ⟨by rfl, rfl⟩) ?_ ?_
     rotate_left
     ·simp only [Act.put, sqA, sqB, sqC, i64_w, i32_w]
      rfl
     refine sqP (i := 22) (N := some 40) (v := undef) (a' := ?_) #[I,I,I,I,I,I,I,I,I,I,I,I,I,I,I,I,I,I,I,I,I,I,I,O,O,O,O,O] rfl rfl HT_.out (Or.inr ⟨by rfl, rfl⟩) ?_ ?_
     rotate_left
     ·simp only [Act.put, sqA, sqB, sqC, i64_w, i32_w]
      rfl
     refine sqP (i := 23) (N := some 41) (v := undef) (a' := ?_) #[I,I,I,I,I,I,I,I,I,I,I,I,I,I,I,I,I,I,I,I,I,I,I,I,O,O,O,O] rfl rfl HT_.out (Or.inr ⟨by rfl, rfl⟩) ?_ ?_
     rotate_left
     ·simp only [Act.put, sqA, sqB, sqC, i64_w, i32_w]
      rfl
     refine sqP (i := 24) (N := some 42) (v := undef) (a' := ?_) #[I,I,I,I,I,I,I,I,I,I,I,I,I,I,I,I,I,I,I,I,I,I,I,I,I,O,O,O] rfl rfl HT_.out (Or.inr ⟨by rfl, rfl⟩) ?_ ?_
     rotate_left
     ·simp only [Act.put, sqA, sqB, sqC, i64_w, i32_w]
      rfl
     refine sqP (i := 25) (N := some 43) (v := undef) (a' := ?_) #[I,I,I,I,I,I,I,I,I,I,I,I,I,I,I,I,I,I,I,I,I,I,I,I,I,I,O,O] rfl rfl HT_.out (Or.inr ⟨by rfl, rfl⟩) ?_ ?_
     rotate_left
     ·simp only [Act.put, sqA, sqB, sqC, i64_w, i32_w]
      rfl
     refine sqP (i := 26) (N := some 44) (v := ?_) (a' := ?_) #[I,I,I,I,I,I,I,I,I,I,I,I,I,I,I,I,I,I,I,I,I,I,I,I,I,I,I,O] rfl rfl HT_.out (Or.inl ⟨by rfl, ?_⟩) ?_ ?_
     rotate_left
     ·intro w'
      go_simp
      with_reducible rfl
     rotate_left
     ·simp only [Act.put, sqA, sqB, sqC, i64_w, i32_w]
      rfl
     refine sqP (i := 27) (N := some 0) (v := ?_) (a' := ?_) #[I,I,I,I,I,I,I,I,I,I,I,I,I,I,I,I,I,I,I,I,I,I,I,I,I,I,I,I] rfl rfl HT_.out (Or.inl ⟨by rfl, ?_⟩) ?_ ?_
     rotate_left
     ·intro w'
      go_simp
      with_reducible rfl
     rotate_left
     ·simp only [Act.put, sqA, sqB, sqC, i64_w, i32_w]
      rfl
     refine done_ (done_of HT_.out (by kernel_rfl)) ?_
     try go_wp2
     go_ret
     exact ⟨by first | rfl | (simp [errW_none, errW_some] <;> rfl) | (simp [*, errW_none, errW_some] <;> rfl), by repeat (first | (with_reducible first | exact HB.out | apply below_alloc | apply pw_below_drewN | apply below_drew1 | refine below_set ?_ GE648.out | refine below_set ?_ GE649.out) | exact HB.out)⟩
   ·rw [if_neg c6] at H
    have c6b0 : ((((rd_T57 t659 0).f0).toList) == ([97] : List UInt8) && ((((rd_T57 t659 0).f1).toList) == ([120] : List UInt8) && ((((rd_T57 t659 0).f2.f0) == 0 && (((rd_T57 t659 0).f2.f1) == 2))))) = false := by simpa using c6
    (try (have c6b1 : decide ((((rd_T57 t659 0).f0).toList) = ([97] : List UInt8) && ((((rd_T57 t659 0).f1).toList) == ([120] : List UInt8) && ((((rd_T57 t659 0).f2.f0) == 0 && (((rd_T57 t659 0).f2.f1) == 2))))) = false := by simpa using c6))
    (try (have c6b2 : ((((rd_T57 t659 0).f0).toList) == ([97] : List UInt8) && ((((rd_T57 t659 0).f1).toList) == ([120] : List UInt8) && ((((rd_T57 t659 0).f2.f0) == 0 && (((rd_T57 t659 0).f2.f1) == 2))))) = false := by simpa using c6))
    (try (have c6b3 : ¬ ((((rd_T57 t659 0).f0).toList) = ([97] : List UInt8) && ((((rd_T57 t659 0).f1).toList) == ([120] : List UInt8) && ((((rd_T57 t659 0).f2.f0) == 0 && (((rd_T57 t659 0).f2.f1) == 2))))) := by simpa using c6))
    clear c6
    obtain rfl := Option.some.inj H
    go_enter Try.func45, Try.ntmps45
    try go_wp2_with (first | ((with_reducible refine gate_dst (N := 1) rfl ?_); (try (refine gate_guard (by rfl) ?_; dsimp only)); refine box_event ?hg (N := 1) ?hd (cs := #[.string (⟨#[]⟩ : ByteArray), .string (⟨#[]⟩ : ByteArray), .int .i64 0, .int .i64 0]) (t := 57) ?hr ?_; (case hd => rfl); (case hg => rfl); (case hr => first | (go_simp; done) | (go_simp; rfl)); intro gb648 hg w73 hbox hb; have n0_ := Aside0.mk (below_step (by repeat (first | (with_reducible first | exact HB.out | apply below_alloc | apply pw_below_drewN | apply below_drew1) | exact HB.out)) hb); have n1_ := Aside0.mk (hbox); have n2_ := Aside0.mk ((by rw [hg]; exact (below_size (by repeat (first | (with_reducible first | exact HB.out | apply below_alloc | apply pw_below_drewN | apply below_drew1) | exact HB.out))) : w.heap.size ≤ gb648)); have n3_ := Aside0.mk ((by rw [hg]; exact (below_size (by repeat (first | (with_reducible first | exact HB.out | apply below_alloc | apply pw_below_drewN | apply below_drew1) | exact HB.out))) : w.heap.size ≤ gb648)); clear HB; have HB := n0_; have BK648 := n1_; have GW648 := n2_; have GE648 := n3_; clear n0_ n1_ n2_ n3_; clear hb hbox hg; have hcz74_0 : w73.cell? ⟨gb648, 0, none⟩ = some (.string (⟨#[]⟩ : ByteArray)) := (blk_cell BK648.out 0).trans rfl; have hcz74_1 : w73.cell? ⟨gb648, 1, none⟩ = some (.string (⟨#[]⟩ : ByteArray)) := (blk_cell BK648.out 1).trans rfl; have hcz74_2 : w73.cell? ⟨gb648, 2, none⟩ = some (.int .i64 0) := (blk_cell BK648.out 2).trans rfl; have hcz74_3 : w73.cell? ⟨gb648, 3, none⟩ = some (.int .i64 0) := (blk_cell BK648.out 3).trans rfl; have hfz74_0 := blk_frozen BK648.out 0; have hfz74_1 := blk_frozen BK648.out 1; have hfz74_2 := blk_frozen BK648.out 2; have hfz74_3 := blk_frozen BK648.out 3) | ((with_reducible refine gate_dst (N := 2) rfl ?_); (try (refine gate_guard (by rfl) ?_; dsimp only)); refine box_event ?hg (N := 2) ?hd (cs := #[.string (⟨#[]⟩ : ByteArray), .string (⟨#[]⟩ : ByteArray), .int .i64 0, .int .i64 0]) (t := 57) ?hr ?_; (case hd => rfl); (case hg => rfl); (case hr => first | (go_simp; done) | (go_simp; rfl)); intro gb649 hg w75 hbox hb; have n0_ := Aside0.mk (blk_below (g := gb648) (o := .cells #[.string (⟨#[97]⟩ : ByteArray), .string (⟨#[120]⟩ : ByteArray), .int .i64 0, .int .i64 1] 57 (0, 0)) (by (with_reducible repeat (first | apply blN | apply blD | apply blA)); refine blk_put (cs := #[.string (⟨#[97]⟩ : ByteArray), .string (⟨#[120]⟩ : ByteArray), .int .i64 0, .int .i64 0]) ?_ 3 _ rfl; (with_reducible repeat (first | apply blN | apply blD | apply blA)); refine blk_put (cs := #[.string (⟨#[97]⟩ : ByteArray), .string (⟨#[120]⟩ : ByteArray), .int .i64 0, .int .i64 0]) ?_ 2 _ rfl; (with_reducible repeat (first | apply blN | apply blD | apply blA)); refine blk_put (cs := #[.string (⟨#[97]⟩ : ByteArray), .string (⟨#[]⟩ : ByteArray), .int .i64 0, .int .i64 0]) ?_ 1 _ rfl; (with_reducible repeat (first | apply blN | apply blD | apply blA)); refine blk_put (cs := #[.string (⟨#[]⟩ : ByteArray), .string (⟨#[]⟩ : ByteArray), .int .i64 0, .int .i64 0]) ?_ 0 _ rfl; (with_reducible repeat (first | apply blN | apply blD | apply blA)); exact BK648.out) hb); have n1_ := Aside0.mk (below_step (by repeat (first | (with_reducible first | exact HB.out | apply below_alloc | apply pw_below_drewN | apply below_drew1 | refine below_set ?_ GE648.out) | exact HB.out)) hb); have n2_ := Aside0.mk (hbox); have n3_ := Aside0.mk ((by rw [hg]; exact (below_size (by repeat (first | (with_reducible first | exact HB.out | apply below_alloc | apply pw_below_drewN | apply below_drew1 | refine below_set ?_ GE648.out) | exact HB.out))) : w.heap.size ≤ gb649)); have n4_ := Aside0.mk ((by rw [hg]; exact (below_size (by repeat (first | (with_reducible first | exact HB.out | apply below_alloc | apply pw_below_drewN | apply below_drew1 | refine below_set ?_ GE648.out) | exact HB.out))) : w.heap.size ≤ gb649)); have n5_ := Aside0.mk ((by rw [hg]; exact Nat.ne_of_lt (blk_lt (g := gb648) (o := .cells #[.string (⟨#[97]⟩ : ByteArray), .string (⟨#[120]⟩ : ByteArray), .int .i64 0, .int .i64 1] 57 (0, 0)) (by (with_reducible repeat (first | apply blN | apply blD | apply blA)); refine blk_put (cs := #[.string (⟨#[97]⟩ : ByteArray), .string (⟨#[120]⟩ : ByteArray), .int .i64 0, .int .i64 0]) ?_ 3 _ rfl; (with_reducible repeat (first | apply blN | apply blD | apply blA)); refine blk_put (cs := #[.string (⟨#[97]⟩ : ByteArray), .string (⟨#[120]⟩ : ByteArray), .int .i64 0, .int .i64 0]) ?_ 2 _ rfl; (with_reducible repeat (first | apply blN | apply blD | apply blA)); refine blk_put (cs := #[.string (⟨#[97]⟩ : ByteArray), .string (⟨#[]⟩ : ByteArray), .int .i64 0, .int .i64 0]) ?_ 1 _ rfl; (with_reducible repeat (first | apply blN | apply blD | apply blA)); refine blk_put (cs := #[.string (⟨#[]⟩ : ByteArray), .string (⟨#[]⟩ : ByteArray), .int .i64 0, .int .i64 0]) ?_ 0 _ rfl; (with_reducible repeat (first | apply blN | apply blD | apply blA)); exact BK648.out)) : gb648 ≠ gb649)); have n6_ := Aside0.mk ((by rw [hg]; exact Nat.ne_of_gt (blk_lt (g := gb648) (o := .cells #[.string (⟨#[97]⟩ : ByteArray), .string (⟨#[120]⟩ : ByteArray), .int .i64 0, .int .i64 1] 57 (0, 0)) (by (with_reducible repeat (first | apply blN | apply blD | apply blA)); refine blk_put (cs := #[.string (⟨#[97]⟩ : ByteArray), .string (⟨#[120]⟩ : ByteArray), .int .i64 0, .int .i64 0]) ?_ 3 _ rfl; (with_reducible repeat (first | apply blN | apply blD | apply blA)); refine blk_put (cs := #[.string (⟨#[97]⟩ : ByteArray), .string (⟨#[120]⟩ : ByteArray), .int .i64 0, .int .i64 0]) ?_ 2 _ rfl; (with_reducible repeat (first | apply blN | apply blD | apply blA)); refine blk_put (cs := #[.string (⟨#[97]⟩ : ByteArray), .string (⟨#[]⟩ : ByteArray), .int .i64 0, .int .i64 0]) ?_ 1 _ rfl; (with_reducible repeat (first | apply blN | apply blD | apply blA)); refine blk_put (cs := #[.string (⟨#[]⟩ : ByteArray), .string (⟨#[]⟩ : ByteArray), .int .i64 0, .int .i64 0]) ?_ 0 _ rfl; (with_reducible repeat (first | apply blN | apply blD | apply blA)); exact BK648.out)) : gb649 ≠ gb648)); clear BK648; clear HB; have BK648 := n0_; have HB := n1_; have BK649 := n2_; have GW649 := n3_; have GE649 := n4_; have NB648_649 := n5_; have NB649_648 := n6_; clear n0_ n1_ n2_ n3_ n4_ n5_ n6_; clear hb hbox hg; have hnb76 := NB649_648.out; have hnc76 := NB648_649.out; have hcz77_0 : w75.cell? ⟨gb649, 0, none⟩ = some (.string (⟨#[]⟩ : ByteArray)) := (blk_cell BK649.out 0).trans rfl; have hcz77_1 : w75.cell? ⟨gb649, 1, none⟩ = some (.string (⟨#[]⟩ : ByteArray)) := (blk_cell BK649.out 1).trans rfl; have hcz77_2 : w75.cell? ⟨gb649, 2, none⟩ = some (.int .i64 0) := (blk_cell BK649.out 2).trans rfl; have hcz77_3 : w75.cell? ⟨gb649, 3, none⟩ = some (.int .i64 0) := (blk_cell BK649.out 3).trans rfl; have hfz77_0 := blk_frozen BK649.out 0; have hfz77_1 := blk_frozen BK649.out 1; have hfz77_2 := blk_frozen BK649.out 2; have hfz77_3 := blk_frozen BK649.out 3; have hcz78_0 : w75.cell? ⟨gb648, 0, none⟩ = some (.string (⟨#[97]⟩ : ByteArray)) := (blk_cell BK648.out 0).trans rfl; have hcz78_1 : w75.cell? ⟨gb648, 1, none⟩ = some (.string (⟨#[120]⟩ : ByteArray)) := (blk_cell BK648.out 1).trans rfl; have hcz78_2 : w75.cell? ⟨gb648, 2, none⟩ = some (.int .i64 0) := (blk_cell BK648.out 2).trans rfl; have hcz78_3 : w75.cell? ⟨gb648, 3, none⟩ = some (.int .i64 1) := (blk_cell BK648.out 3).trans rfl; have hfz78_0 := blk_frozen BK648.out 0; have hfz78_1 := blk_frozen BK648.out 1; have hfz78_2 := blk_frozen BK648.out 2; have hfz78_3 := blk_frozen BK648.out 3) | ((with_reducible refine gate_dst (N := 10) rfl ?_); (try (refine gate_guard (by rfl) ?_; dsimp only)); refine Kd.R_lit k57 _ 57 ?hg (N := 10) ?hd (xs := ([(⟨(⟨#[97]⟩ : ByteArray), (⟨#[120]⟩ : ByteArray), (⟨0, 1⟩ : S24)⟩ : S57)] : List (S57))) (inner := [.string (⟨#[97]⟩ : ByteArray), .string (⟨#[120]⟩ : ByteArray), .int .i64 0, .int .i64 1]) (ok := fun _ => True) (okp := fun _ => True) ?hr ?hp (fun _ hk => hk) trivial (Below.refl _ _) (Nat.le_refl _) (by simp) ?_; (case hd => rfl); (case hg => rfl); (case hr => first | (go_simp; done) | (go_simp; rfl)); (case hp => exact (Reps.c4 (show Kd.M k57 _ _ _ (⟨(⟨#[97]⟩ : ByteArray), (⟨#[120]⟩ : ByteArray), (⟨0, 1⟩ : S24)⟩ : S57) [.string (⟨#[97]⟩ : ByteArray), .string (⟨#[120]⟩ : ByteArray), .int .i64 0, .int .i64 1] from (k57_mkM _ _ _ (⟨(⟨#[97]⟩ : ByteArray), (⟨#[120]⟩ : ByteArray), (⟨0, 1⟩ : S24)⟩ : S57) )) (Reps.none _ _))); intro v651 w79 ho80 hb hg_ hnew_; clear hg_ hnew_; (first | rw [← Ny650.out] at ho80 | (simp only [Int.reduceToNat] at ho80; rw [← Ny650.out] at ho80)); have n0_ := Aside0.mk (Kd.R_lower (Kd.R_newB (Kd.R_newB ho80 (g := gb648) (o := .cells #[.string (⟨#[97]⟩ : ByteArray), .string (⟨#[120]⟩ : ByteArray), .int .i64 0, .int .i64 1] 57 (0, 0)) (by (with_reducible repeat (first | apply blN | apply blD | apply blA)); refine blk_far ?_ NB648_649.out _; (with_reducible repeat (first | apply blN | apply blD | apply blA)); refine blk_far ?_ NB648_649.out _; (with_reducible repeat (first | apply blN | apply blD | apply blA)); refine blk_far ?_ NB648_649.out _; (with_reducible repeat (first | apply blN | apply blD | apply blA)); refine blk_far ?_ NB648_649.out _; (with_reducible repeat (first | apply blN | apply blD | apply blA)); exact BK648.out)) (g := gb649) (o := .cells #[.string (⟨#[97]⟩ : ByteArray), .string (⟨#[120]⟩ : ByteArray), .int .i64 0, .int .i64 2] 57 (0, 0)) (by (with_reducible repeat (first | apply blN | apply blD | apply blA)); refine blk_put (cs := #[.string (⟨#[97]⟩ : ByteArray), .string (⟨#[120]⟩ : ByteArray), .int .i64 0, .int .i64 0]) ?_ 3 _ rfl; (with_reducible repeat (first | apply blN | apply blD | apply blA)); refine blk_put (cs := #[.string (⟨#[97]⟩ : ByteArray), .string (⟨#[120]⟩ : ByteArray), .int .i64 0, .int .i64 0]) ?_ 2 _ rfl; (with_reducible repeat (first | apply blN | apply blD | apply blA)); refine blk_put (cs := #[.string (⟨#[97]⟩ : ByteArray), .string (⟨#[]⟩ : ByteArray), .int .i64 0, .int .i64 0]) ?_ 1 _ rfl; (with_reducible repeat (first | apply blN | apply blD | apply blA)); refine blk_put (cs := #[.string (⟨#[]⟩ : ByteArray), .string (⟨#[]⟩ : ByteArray), .int .i64 0, .int .i64 0]) ?_ 0 _ rfl; (with_reducible repeat (first | apply blN | apply blD | apply blA)); exact BK649.out)) (below_size (by repeat (first | (with_reducible first | exact HB.out | apply below_alloc | apply pw_below_drewN | apply below_drew1 | refine below_set ?_ GE648.out | refine below_set ?_ GE649.out) | exact HB.out)))); have n1_ := Aside0.mk (blk_below (g := gb648) (o := .cells #[.string (⟨#[97]⟩ : ByteArray), .string (⟨#[120]⟩ : ByteArray), .int .i64 0, .int .i64 1] 57 (0, 0)) (by (with_reducible repeat (first | apply blN | apply blD | apply blA)); refine blk_far ?_ NB648_649.out _; (with_reducible repeat (first | apply blN | apply blD | apply blA)); refine blk_far ?_ NB648_649.out _; (with_reducible repeat (first | apply blN | apply blD | apply blA)); refine blk_far ?_ NB648_649.out _; (with_reducible repeat (first | apply blN | apply blD | apply blA)); refine blk_far ?_ NB648_649.out _; (with_reducible repeat (first | apply blN | apply blD | apply blA)); exact BK648.out) hb); have n2_ := Aside0.mk (blk_below (g := gb649) (o := .cells #[.string (⟨#[97]⟩ : ByteArray), .string (⟨#[120]⟩ : ByteArray), .int .i64 0, .int .i64 2] 57 (0, 0)) (by (with_reducible repeat (first | apply blN | apply blD | apply blA)); refine blk_put (cs := #[.string (⟨#[97]⟩ : ByteArray), .string (⟨#[120]⟩ : ByteArray), .int .i64 0, .int .i64 0]) ?_ 3 _ rfl; (with_reducible repeat (first | apply blN | apply blD | apply blA)); refine blk_put (cs := #[.string (⟨#[97]⟩ : ByteArray), .string (⟨#[120]⟩ : ByteArray), .int .i64 0, .int .i64 0]) ?_ 2 _ rfl; (with_reducible repeat (first | apply blN | apply blD | apply blA)); refine blk_put (cs := #[.string (⟨#[97]⟩ : ByteArray), .string (⟨#[]⟩ : ByteArray), .int .i64 0, .int .i64 0]) ?_ 1 _ rfl; (with_reducible repeat (first | apply blN | apply blD | apply blA)); refine blk_put (cs := #[.string (⟨#[]⟩ : ByteArray), .string (⟨#[]⟩ : ByteArray), .int .i64 0, .int .i64 0]) ?_ 0 _ rfl; (with_reducible repeat (first | apply blN | apply blD | apply blA)); exact BK649.out) hb); have n3_ := Aside0.mk (below_step (by repeat (first | (with_reducible first | exact HB.out | apply below_alloc | apply pw_below_drewN | apply below_drew1 | refine below_set ?_ GE648.out | refine below_set ?_ GE649.out) | exact HB.out)) hb); clear BK648; clear BK649; clear HB; have HO652 := n0_; have BK648 := n1_; have BK649 := n2_; have HB := n3_; clear n0_ n1_ n2_ n3_; clear hb ho80))
    have n0_ := Aside0.mk (Kd.R_drew HO652.out)
    have n1_ := Aside0.mk (blk_drew BK648.out)
    have n2_ := Aside0.mk (blk_drew BK649.out)
    have n3_ := Aside0.mk (below_drew1 HB.out)
    clear HO652
    clear BK648
    clear BK649
    clear HB
    have HO652 := n0_
    have BK648 := n1_
    have BK649 := n2_
    have HB := n3_
    clear n0_ n1_ n2_ n3_
    obtain ⟨Ao82, co82, eo82⟩ := Kd.R_slice HO652.out
    (first | subst eo82 | (injection eo82 with f1_ f2_ f3_; have f4_ := f1_.symm; have f5_ := f3_.symm; clear f1_ f2_ f3_; subst f4_; subst f5_))
    refine start_ (n := 8) (S := fun w' => w'.cell? ⟨gb649, 0, none⟩ = some (.string (⟨#[97]⟩ : ByteArray)) ∧ w'.cell? ⟨gb649, 1, none⟩ = some (.string (⟨#[120]⟩ : ByteArray)) ∧ w'.cell? ⟨gb649, 2, none⟩ = some (.int .i64 0) ∧ w'.cell? ⟨gb649, 3, none⟩ = some (.int .i64 2)) (ds := []) #[O,O,O,O,O,O,O,O] (by kernel_rfl) rfl rfl ⟨(blk_cell BK649.out 0).trans rfl, (blk_cell BK649.out 1).trans rfl, (blk_cell BK649.out 2).trans rfl, (blk_cell BK649.out 3).trans rfl⟩ (fun hHeld => ?_); refine with_tabW law08_awake.tab4 law08_awake.bits4 (fun HT_ HW_ => ?_)
    generalize w79.drew = w81 at HO652 BK648 BK649 HB hHeld ⊢
    refine sqP (i := 0) (N := some 11) (v := ?_) (a' := ?_) #[I,O,O,O,O,O,O,O] rfl rfl HT_.out (Or.inl ⟨by rfl, ?_⟩) ?_ ?_
    rotate_left
    ·intro w'
     go_simp
     with_reducible rfl
    rotate_left
    ·simp only [Act.put, sqA, sqB, sqC, i64_w, i32_w]
     rfl
    refine sqP (i := 1) (N := some 12) (v := ?_) (a' := ?_) #[I,I,O,O,O,O,O,O] rfl rfl HT_.out (Or.inl ⟨by rfl, ?_⟩) ?_ ?_
    rotate_left
    ·intro w'
     go_simp
     with_reducible rfl
    rotate_left
    ·simp only [Act.put, sqA, sqB, sqC, i64_w, i32_w]
     rfl
    refine sqP (i := 3) (N := some 14) (v := ?_) (a' := ?_) #[I,I,O,I,O,O,O,O] rfl rfl HT_.out (Or.inl ⟨by rfl, ?_⟩) ?_ ?_
    rotate_left
    ·intro w'
     go_simp
     with_reducible rfl
    rotate_left
    ·simp only [Act.put, sqA, sqB, sqC, i64_w, i32_w]
     rfl
    refine take_ (i := 4) (N := some 15) (v := ?_) (a' := ?_) #[I,I,O,I,I,O,O,O] rfl rfl (take_ofW HT_.out HW_.out (by kernel_rfl)) (fun _ _ _ h => h) (Or.inl ⟨by rfl, ?_⟩) hHeld ?_ ?_
    rotate_left
    ·rintro w' ⟨s0, s1, s2, s3⟩
     go_simp
     with_reducible rfl
    rotate_left
    ·simp only [Act.put, sqA, sqB, sqC, i64_w, i32_w]
     rfl
    refine one_ (i := 2) (N := some 13) #[I,I,I,I,I,O,O,O] rfl rfl (one_of HT_.out (by kernel_rfl)) (by decide) (fun K hK => ?_)
    refine goes_ Try.func51 (by kernel_rfl) rfl #[.slice Ao82 y650.length co82, .string (⟨#[97]⟩ : ByteArray), .string (⟨#[120]⟩ : ByteArray)] (by rfl) rfl rfl (by (try simp only [List.map_toArray, List.map_cons, List.map_nil]); first | done | rfl | (simp only [List.length_drop, List.length_take]; rfl)) ?_
    with_reducible refine (pair_Del.calls _ _ y650 (⟨#[97]⟩ : ByteArray) (⟨#[120]⟩ : ByteArray) t653 _ ?side1 ?side2 A1.out).mono ?_
    (case side1 => repeat (first | exact (Kd.R_reads' HO652.out).2.2 | (with_reducible refine Kd.C_alloc ?_ _) | (with_reducible refine Kd.C_drewN ?_ _) | (with_reducible refine Kd.C_drew ?_)))
    (case side2 => exact (Kd.R_reads' HO652.out).2.1)
    rintro e w83 ⟨v654, rfl, ho0, hb⟩
    refine ⟨_, rfl, ?_⟩
    have n0_ := Aside0.mk (Kd.R_elder' (by (with_reducible repeat (first | apply Kd.R_alloc | apply Kd.R_drewN | apply Kd.R_drew)); exact HO652.out) (Kd.R_base ho0) hb)
    have n1_ := Aside0.mk (Kd.R_lower (Kd.R_newB (Kd.R_newB (Kd.R_new' ho0 (Kd.R_lt (by (with_reducible repeat (first | apply Kd.R_alloc | apply Kd.R_drewN | apply Kd.R_drew)); exact HO652.out))) (g := gb648) (o := .cells #[.string (⟨#[97]⟩ : ByteArray), .string (⟨#[120]⟩ : ByteArray), .int .i64 0, .int .i64 1] 57 (0, 0)) (by (with_reducible repeat (first | apply blN | apply blD | apply blA)); exact BK648.out)) (g := gb649) (o := .cells #[.string (⟨#[97]⟩ : ByteArray), .string (⟨#[120]⟩ : ByteArray), .int .i64 0, .int .i64 2] 57 (0, 0)) (by (with_reducible repeat (first | apply blN | apply blD | apply blA)); exact BK649.out)) (below_size (by repeat (first | (with_reducible first | exact HB.out | apply below_alloc | apply pw_below_drewN | apply below_drew1 | refine below_set ?_ GE648.out | refine below_set ?_ GE649.out) | exact HB.out))))
    have n2_ := Aside0.mk (blk_below (g := gb648) (o := .cells #[.string (⟨#[97]⟩ : ByteArray), .string (⟨#[120]⟩ : ByteArray), .int .i64 0, .int .i64 1] 57 (0, 0)) (by (with_reducible repeat (first | apply blN | apply blD | apply blA)); exact BK648.out) hb)
    have n3_ := Aside0.mk (blk_below (g := gb649) (o := .cells #[.string (⟨#[97]⟩ : ByteArray), .string (⟨#[120]⟩ : ByteArray), .int .i64 0, .int .i64 2] 57 (0, 0)) (by (with_reducible repeat (first | apply blN | apply blD | apply blA)); exact BK649.out) hb)
    have n4_ := Aside0.mk (below_step (by repeat (first | (with_reducible first | exact HB.out | apply below_alloc | apply pw_below_drewN | apply below_drew1 | refine below_set ?_ GE648.out | refine below_set ?_ GE649.out) | exact HB.out)) hb)
    clear HO652
    clear BK648
    clear BK649
    clear HB
    have HO652 := n0_
    have HO655 := n1_
    have BK648 := n2_
    have BK649 := n3_
    have HB := n4_
    clear n0_ n1_ n2_ n3_ n4_
    (try clear hb)
    (try clear hb2)
    (try clear hk)
    (try clear hi)
    (try clear ho0)
    refine hK.out _ _ ⟨(blk_cell BK649.out 0).trans rfl, (blk_cell BK649.out 1).trans rfl, (blk_cell BK649.out 2).trans rfl, (blk_cell BK649.out 3).trans rfl⟩ (fun hHeld => ?_)
    clear hK K
    refine norm_ (a' := ?_) ?_ ?_
    rotate_left
    ·show Act.put _ (some 13) _ = _
     simp only [Act.put, sqA, sqB, sqC, i64_w, i32_w]
     rfl
    refine one_ (i := 5) (N := some 16) #[I,I,I,I,I,I,O,O] rfl rfl (one_of HT_.out (by kernel_rfl)) (by decide) (fun K hK => ?_)
    refine goes_ Try.func49 (by kernel_rfl) rfl #[.slice Ao82 y650.length co82, .agg #[.string (⟨#[97]⟩ : ByteArray), .string (⟨#[120]⟩ : ByteArray), .int .i64 0, .int .i64 2]] (by rfl) rfl rfl (by (try simp only [List.map_toArray, List.map_cons, List.map_nil]); first | done | rfl | (simp only [List.length_drop, List.length_take]; rfl)) ?_
    with_reducible refine (pair_Add.calls _ _ y650 (⟨#[97]⟩ : ByteArray) (⟨#[120]⟩ : ByteArray) 0 2 t656 _ ?side1 ?side2 A2.out).mono ?_
    (case side1 => repeat (first | exact (Kd.R_reads' HO652.out).2.2 | (with_reducible refine Kd.C_alloc ?_ _) | (with_reducible refine Kd.C_drewN ?_ _) | (with_reducible refine Kd.C_drew ?_)))
    (case side2 => exact (Kd.R_reads' HO652.out).2.1)
    rintro e w84 ⟨v657, rfl, ho0, hb⟩
    refine ⟨_, rfl, ?_⟩
    have n0_ := Aside0.mk (Kd.R_elder' (by (with_reducible repeat (first | apply Kd.R_alloc | apply Kd.R_drewN | apply Kd.R_drew)); exact HO652.out) (Kd.R_base ho0) hb)
    have n1_ := Aside0.mk (Kd.R_elder' (by (with_reducible repeat (first | apply Kd.R_alloc | apply Kd.R_drewN | apply Kd.R_drew)); exact HO655.out) (Kd.R_base ho0) hb)
    have n2_ := Aside0.mk (Kd.R_lower (Kd.R_newB (Kd.R_newB (Kd.R_new' (Kd.R_new' ho0 (Kd.R_lt (by (with_reducible repeat (first | apply Kd.R_alloc | apply Kd.R_drewN | apply Kd.R_drew)); exact HO652.out))) (Kd.R_lt (by (with_reducible repeat (first | apply Kd.R_alloc | apply Kd.R_drewN | apply Kd.R_drew)); exact HO655.out))) (g := gb648) (o := .cells #[.string (⟨#[97]⟩ : ByteArray), .string (⟨#[120]⟩ : ByteArray), .int .i64 0, .int .i64 1] 57 (0, 0)) (by (with_reducible repeat (first | apply blN | apply blD | apply blA)); exact BK648.out)) (g := gb649) (o := .cells #[.string (⟨#[97]⟩ : ByteArray), .string (⟨#[120]⟩ : ByteArray), .int .i64 0, .int .i64 2] 57 (0, 0)) (by (with_reducible repeat (first | apply blN | apply blD | apply blA)); exact BK649.out)) (below_size (by repeat (first | (with_reducible first | exact HB.out | apply below_alloc | apply pw_below_drewN | apply below_drew1 | refine below_set ?_ GE648.out | refine below_set ?_ GE649.out) | exact HB.out))))
    have n3_ := Aside0.mk (blk_below (g := gb648) (o := .cells #[.string (⟨#[97]⟩ : ByteArray), .string (⟨#[120]⟩ : ByteArray), .int .i64 0, .int .i64 1] 57 (0, 0)) (by (with_reducible repeat (first | apply blN | apply blD | apply blA)); exact BK648.out) hb)
    have n4_ := Aside0.mk (blk_below (g := gb649) (o := .cells #[.string (⟨#[97]⟩ : ByteArray), .string (⟨#[120]⟩ : ByteArray), .int .i64 0, .int .i64 2] 57 (0, 0)) (by (with_reducible repeat (first | apply blN | apply blD | apply blA)); exact BK649.out) hb)
    have n5_ := Aside0.mk (below_step (by repeat (first | (with_reducible first | exact HB.out | apply below_alloc | apply pw_below_drewN | apply below_drew1 | refine below_set ?_ GE648.out | refine below_set ?_ GE649.out) | exact HB.out)) hb)
    clear HO652
    clear HO655
    clear BK648
    clear BK649
    clear HB
    have HO652 := n0_
    have HO655 := n1_
    have HO658 := n2_
    have BK648 := n3_
    have BK649 := n4_
    have HB := n5_
    clear n0_ n1_ n2_ n3_ n4_ n5_
    (try clear hb)
    (try clear hb2)
    (try clear hk)
    (try clear hi)
    (try clear ho0)
    obtain ⟨Ao85, co85, eo85⟩ := Kd.R_slice HO655.out
    (first | subst eo85 | (injection eo85 with f1_ f2_ f3_; have f4_ := f1_.symm; have f5_ := f3_.symm; clear f1_ f2_ f3_; subst f4_; subst f5_))
    obtain ⟨Ao86, co86, eo86⟩ := Kd.R_slice HO658.out
    (first | subst eo86 | (injection eo86 with f1_ f2_ f3_; have f4_ := f1_.symm; have f5_ := f3_.symm; clear f1_ f2_ f3_; subst f4_; subst f5_))
    refine hK.out _ _ ⟨(blk_cell BK649.out 0).trans rfl, (blk_cell BK649.out 1).trans rfl, (blk_cell BK649.out 2).trans rfl, (blk_cell BK649.out 3).trans rfl⟩ (fun hHeld => ?_)
    clear hK K
    refine norm_ (a' := ?_) ?_ ?_
    rotate_left
    ·show Act.put _ (some 16) _ = _
     simp only [Act.put, sqA, sqB, sqC, i64_w, i32_w]
     rfl
    refine one_ (i := 6) (N := some 17) #[I,I,I,I,I,I,I,O] rfl rfl (one_of HT_.out (by kernel_rfl)) (by decide) (fun K hK => ?_)
    refine goes_ Try.func53 (by kernel_rfl) rfl #[.slice Ao82 y650.length co82, .slice Ao85 t653.length co85, .slice Ao86 t656.length co86] (by rfl) rfl rfl (by (try simp only [List.map_toArray, List.map_cons, List.map_nil]); first | done | rfl | (simp only [List.length_drop, List.length_take]; rfl)) ?_
    with_reducible refine (pair_Merge.calls _ _ y650 _ _ t653 _ _ t656 t659 _ ?side1 ?side2 ?side3 ?side4 ?side5 ?side6 A3.out).mono ?_
    (case side1 => repeat (first | exact (Kd.R_reads' HO652.out).2.2 | (with_reducible refine Kd.C_alloc ?_ _) | (with_reducible refine Kd.C_drewN ?_ _) | (with_reducible refine Kd.C_drew ?_)))
    (case side2 => exact (Kd.R_reads' HO652.out).2.1)
    (case side3 => repeat (first | exact (Kd.R_reads' HO655.out).2.2 | (with_reducible refine Kd.C_alloc ?_ _) | (with_reducible refine Kd.C_drewN ?_ _) | (with_reducible refine Kd.C_drew ?_)))
    (case side4 => exact (Kd.R_reads' HO655.out).2.1)
    (case side5 => repeat (first | exact (Kd.R_reads' HO658.out).2.2 | (with_reducible refine Kd.C_alloc ?_ _) | (with_reducible refine Kd.C_drewN ?_ _) | (with_reducible refine Kd.C_drew ?_)))
    (case side6 => exact (Kd.R_reads' HO658.out).2.1)
    rintro e w87 ⟨v660, rfl, ho0, hb⟩
    refine ⟨_, rfl, ?_⟩
    have n0_ := Aside0.mk (Kd.R_elder' (by (with_reducible repeat (first | apply Kd.R_alloc | apply Kd.R_drewN | apply Kd.R_drew)); exact HO652.out) (Kd.R_base ho0) hb)
    have n1_ := Aside0.mk (Kd.R_elder' (by (with_reducible repeat (first | apply Kd.R_alloc | apply Kd.R_drewN | apply Kd.R_drew)); exact HO655.out) (Kd.R_base ho0) hb)
    have n2_ := Aside0.mk (Kd.R_elder' (by (with_reducible repeat (first | apply Kd.R_alloc | apply Kd.R_drewN | apply Kd.R_drew)); exact HO658.out) (Kd.R_base ho0) hb)
    have n3_ := Aside0.mk (Kd.R_lower (Kd.R_newB (Kd.R_newB (Kd.R_new' (Kd.R_new' (Kd.R_new' ho0 (Kd.R_lt (by (with_reducible repeat (first | apply Kd.R_alloc | apply Kd.R_drewN | apply Kd.R_drew)); exact HO652.out))) (Kd.R_lt (by (with_reducible repeat (first | apply Kd.R_alloc | apply Kd.R_drewN | apply Kd.R_drew)); exact HO655.out))) (Kd.R_lt (by (with_reducible repeat (first | apply Kd.R_alloc | apply Kd.R_drewN | apply Kd.R_drew)); exact HO658.out))) (g := gb648) (o := .cells #[.string (⟨#[97]⟩ : ByteArray), .string (⟨#[120]⟩ : ByteArray), .int .i64 0, .int .i64 1] 57 (0, 0)) (by (with_reducible repeat (first | apply blN | apply blD | apply blA)); exact BK648.out)) (g := gb649) (o := .cells #[.string (⟨#[97]⟩ : ByteArray), .string (⟨#[120]⟩ : ByteArray), .int .i64 0, .int .i64 2] 57 (0, 0)) (by (with_reducible repeat (first | apply blN | apply blD | apply blA)); exact BK649.out)) (below_size (by repeat (first | (with_reducible first | exact HB.out | apply below_alloc | apply pw_below_drewN | apply below_drew1 | refine below_set ?_ GE648.out | refine below_set ?_ GE649.out) | exact HB.out))))
    have n4_ := Aside0.mk (blk_below (g := gb648) (o := .cells #[.string (⟨#[97]⟩ : ByteArray), .string (⟨#[120]⟩ : ByteArray), .int .i64 0, .int .i64 1] 57 (0, 0)) (by (with_reducible repeat (first | apply blN | apply blD | apply blA)); exact BK648.out) hb)
    have n5_ := Aside0.mk (blk_below (g := gb649) (o := .cells #[.string (⟨#[97]⟩ : ByteArray), .string (⟨#[120]⟩ : ByteArray), .int .i64 0, .int .i64 2] 57 (0, 0)) (by (with_reducible repeat (first | apply blN | apply blD | apply blA)); exact BK649.out) hb)
    have n6_ := Aside0.mk (below_step (by repeat (first | (with_reducible first | exact HB.out | apply below_alloc | apply pw_below_drewN | apply below_drew1 | refine below_set ?_ GE648.out | refine below_set ?_ GE649.out) | exact HB.out)) hb)
    clear HO652
    clear HO655
    clear HO658
    clear BK648
    clear BK649
    clear HB
    have HO652 := n0_
    have HO655 := n1_
    have HO658 := n2_
    have HO661 := n3_
    have BK648 := n4_
    have BK649 := n5_
    have HB := n6_
    clear n0_ n1_ n2_ n3_ n4_ n5_ n6_
    (try clear hb)
    (try clear hb2)
    (try clear hk)
    (try clear hi)
    (try clear ho0)
    refine hK.out _ _ ⟨(blk_cell BK649.out 0).trans rfl, (blk_cell BK649.out 1).trans rfl, (blk_cell BK649.out 2).trans rfl, (blk_cell BK649.out 3).trans rfl⟩ (fun hHeld => ?_)
    clear hK K
    refine norm_ (a' := ?_) ?_ ?_
    rotate_left
    ·show Act.put _ (some 17) _ = _
     simp only [Act.put, sqA, sqB, sqC, i64_w, i32_w]
     rfl
    refine sqP (i := 7) (N := some 4) (v := ?_) (a' := ?_) #[I,I,I,I,I,I,I,I] rfl rfl HT_.out (Or.inl ⟨by rfl, ?_⟩) ?_ ?_
    rotate_left
    ·intro w'
     go_simp
     with_reducible rfl
    rotate_left
    ·simp only [Act.put, sqA, sqB, sqC, i64_w, i32_w]
     rfl
    refine done_ (done_of HT_.out (by kernel_rfl)) ?_
    try go_wp2
    have n0_ := Aside0.mk (Kd.R_drew HO652.out)
    have n1_ := Aside0.mk (Kd.R_drew HO655.out)
    have n2_ := Aside0.mk (Kd.R_drew HO658.out)
    have n3_ := Aside0.mk (Kd.R_drew HO661.out)
    have n4_ := Aside0.mk (blk_drew BK648.out)
    have n5_ := Aside0.mk (blk_drew BK649.out)
    have n6_ := Aside0.mk (below_drew1 HB.out)
    clear HO652
    clear HO655
    clear HO658
    clear HO661
    clear BK648
    clear BK649
    clear HB
    have HO652 := n0_
    have HO655 := n1_
    have HO658 := n2_
    have HO661 := n3_
    have BK648 := n4_
    have BK649 := n5_
    have HB := n6_
    clear n0_ n1_ n2_ n3_ n4_ n5_ n6_
    obtain ⟨Ao89, co89, eo89⟩ := Kd.R_slice HO661.out
    (first | subst eo89 | (injection eo89 with f1_ f2_ f3_; have f4_ := f1_.symm; have f5_ := f3_.symm; clear f1_ f2_ f3_; subst f4_; subst f5_))
    have p662 : 0 ≤ (0 : Int) := (by omega)
    have q662 : 0 < (t659.length : Int) := of_decide_eq_true (by first | (with_reducible assumption) | assumption)
    obtain ⟨ad662, e662, hx662_0, hx662_1, hx662_2, hx662_3⟩ := at_T57 (Kd.R_reads' HO661.out).2.2 0 p662 q662
    cases e662
    have qi662 : (0 < t659.length) = True := eq_true (by omega)
    (try rw [show ((0 : Int)).toNat = 0 from rfl] at hx662_0)
    (try rw [show 0 * 4 = 0 from rfl] at hx662_0)
    (try rw [Addr.add_zero'] at hx662_0)
    (try rw [show ((0 : Int)).toNat = 0 from rfl] at hx662_1)
    (try rw [show 0 * 4 = 0 from rfl] at hx662_1)
    (try rw [Addr.add_zero'] at hx662_1)
    (try rw [show ((0 : Int)).toNat = 0 from rfl] at hx662_2)
    (try rw [show 0 * 4 = 0 from rfl] at hx662_2)
    (try rw [Addr.add_zero'] at hx662_2)
    (try rw [show ((0 : Int)).toNat = 0 from rfl] at hx662_3)
    (try rw [show 0 * 4 = 0 from rfl] at hx662_3)
    (try rw [Addr.add_zero'] at hx662_3)
    replace p662 := eq_true p662
    replace q662 := eq_true q662
    refine start_ (n := 28) (S := fun w' => w'.cell? ⟨gb649, 0, none⟩ = some (.string (⟨#[97]⟩ : ByteArray)) ∧ w'.cell? ⟨gb649, 1, none⟩ = some (.string (⟨#[120]⟩ : ByteArray)) ∧ w'.cell? ⟨gb649, 2, none⟩ = some (.int .i64 0) ∧ w'.cell? ⟨gb649, 3, none⟩ = some (.int .i64 2) ∧ w'.cell? ad662 = some (.string ((rd_T57 t659 0).f0)) ∧ w'.cell? ⟨ad662.block, ad662.off + 1, none⟩ = some (.string ((rd_T57 t659 0).f1)) ∧ w'.cell? ⟨ad662.block, ad662.off + 2, none⟩ = some (.int .i64 ((rd_T57 t659 0).f2.f0)) ∧ w'.cell? ⟨ad662.block, ad662.off + 3, none⟩ = some (.int .i64 ((rd_T57 t659 0).f2.f1))) (ds := []) #[O,O,O,O,O,O,O,O,O,O,O,O,O,O,O,O,O,O,O,O,O,O,O,O,O,O,O,O] (by kernel_rfl) rfl rfl ⟨(blk_cell BK649.out 0).trans rfl, (blk_cell BK649.out 1).trans rfl, (blk_cell BK649.out 2).trans rfl, (blk_cell BK649.out 3).trans rfl, hx662_0, hx662_1, hx662_2, hx662_3⟩ (fun hHeld => ?_); refine with_tabW law08_awake.tab5 law08_awake.bits5 (fun HT_ HW_ => ?_)
    generalize w87.drew = w88 at HO652 HO655 HO658 HO661 BK648 BK649 HB hx662_0 hx662_1 hx662_2 hx662_3 hHeld ⊢
    refine sqP (i := 0) (N := some 18) (v := ?_) (a' := ?_) #[I,O,O,O,O,O,O,O,O,O,O,O,O,O,O,O,O,O,O,O,O,O,O,O,O,O,O,O] rfl rfl HT_.out (Or.inl ⟨by rfl, ?_⟩) ?_ ?_
    rotate_left
    ·intro w'
     go_simp
     with_reducible rfl
    rotate_left
    ·simp only [Act.put, sqA, sqB, sqC, i64_w, i32_w]
     rfl
    refine sqP (i := 1) (N := some 19) (v := ?_) (a' := ?_) #[I,I,O,O,O,O,O,O,O,O,O,O,O,O,O,O,O,O,O,O,O,O,O,O,O,O,O,O] rfl rfl HT_.out (Or.inl ⟨by rfl, ?_⟩) ?_ ?_
    rotate_left
    ·intro w'
     go_simp
     with_reducible rfl
    rotate_left
    ·simp only [Act.put, sqA, sqB, sqC, i64_w, i32_w]
     rfl
    refine sqP (i := 2) (N := some 20) (v := ?_) (a' := ?_) #[I,I,I,O,O,O,O,O,O,O,O,O,O,O,O,O,O,O,O,O,O,O,O,O,O,O,O,O] rfl rfl HT_.out (Or.inl ⟨by rfl, ?_⟩) ?_ ?_
    rotate_left
    ·intro w'
     go_simp
     with_reducible rfl
    rotate_left
    ·simp only [Act.put, sqA, sqB, sqC, i64_w, i32_w]
     rfl
    refine sqP (i := 3) (N := some 21) (v := ?_) (a' := ?_) #[I,I,I,I,O,O,O,O,O,O,O,O,O,O,O,O,O,O,O,O,O,O,O,O,O,O,O,O] rfl rfl HT_.out (Or.inl ⟨by rfl, ?_⟩) ?_ ?_
    rotate_left
    ·intro w'
     go_simp
     with_reducible rfl
    rotate_left
    ·simp only [Act.put, sqA, sqB, sqC, i64_w, i32_w]
     rfl
    refine sqP (i := 4) (N := some 22) (v := ?_) (a' := ?_) #[I,I,I,I,I,O,O,O,O,O,O,O,O,O,O,O,O,O,O,O,O,O,O,O,O,O,O,O] rfl rfl HT_.out (Or.inl ⟨by rfl, ?_⟩) ?_ ?_
    rotate_left
    ·intro w'
     go_simp
     with_reducible rfl
    rotate_left
    ·simp only [Act.put, sqA, sqB, sqC, i64_w, i32_w]
     rfl
    refine sqP (i := 5) (N := some 23) (v := ?_) (a' := ?_) #[I,I,I,I,I,I,O,O,O,O,O,O,O,O,O,O,O,O,O,O,O,O,O,O,O,O,O,O] rfl rfl HT_.out (Or.inl ⟨by rfl, ?_⟩) ?_ ?_
    rotate_left
    ·intro w'
     go_simp
     with_reducible rfl
    rotate_left
    ·simp only [Act.put, sqA, sqB, sqC, i64_w, i32_w]
     rfl
    refine take_ (i := 6) (N := some 24) (v := ?_) (a' := ?_) #[I,I,I,I,I,I,I,O,O,O,O,O,O,O,O,O,O,O,O,O,O,O,O,O,O,O,O,O] rfl rfl (take_ofW HT_.out HW_.out (by kernel_rfl)) (fun _ _ _ h => h) (Or.inl ⟨by rfl, ?_⟩) hHeld ?_ ?_
    rotate_left
    ·rintro w' ⟨s0, s1, s2, s3, s4, s5, s6, s7⟩
     go_simp
     with_reducible rfl
    rotate_left
    ·simp only [Act.put, sqA, sqB, sqC, i64_w, i32_w]
     rfl
    refine take_ (i := 7) (N := some 25) (v := ?_) (a' := ?_) #[I,I,I,I,I,I,I,I,O,O,O,O,O,O,O,O,O,O,O,O,O,O,O,O,O,O,O,O] rfl rfl (take_ofW HT_.out HW_.out (by kernel_rfl)) (fun _ _ _ h => h) (Or.inl ⟨by rfl, ?_⟩) hHeld ?_ ?_
    rotate_left
    ·rintro w' ⟨s0, s1, s2, s3, s4, s5, s6, s7⟩
     go_simp
     with_reducible rfl
    rotate_left
    ·simp only [Act.put, sqA, sqB, sqC, i64_w, i32_w]
     rfl
    refine sqP (i := 8) (N := some 26) (v := ?_) (a' := ?_) #[I,I,I,I,I,I,I,I,I,O,O,O,O,O,O,O,O,O,O,O,O,O,O,O,O,O,O,O] rfl rfl HT_.out (Or.inl ⟨by rfl, ?_⟩) ?_ ?_
    rotate_left
    ·intro w'
     go_simp
     with_reducible rfl
    rotate_left
    ·simp only [Act.put, sqA, sqB, sqC, i64_w, i32_w]
     rfl
    refine sqP (i := 9) (N := some 27) (v := ?_) (a' := ?_) #[I,I,I,I,I,I,I,I,I,I,O,O,O,O,O,O,O,O,O,O,O,O,O,O,O,O,O,O] rfl rfl HT_.out (Or.inl ⟨by rfl, ?_⟩) ?_ ?_
    rotate_left
    ·intro w'
     go_simp
     with_reducible rfl
    rotate_left
    ·simp only [Act.put, sqA, sqB, sqC, i64_w, i32_w]
     rfl
    refine sqP (i := 10) (N := some 28) (v := ?_) (a' := ?_) #[I,I,I,I,I,I,I,I,I,I,I,O,O,O,O,O,O,O,O,O,O,O,O,O,O,O,O,O] rfl rfl HT_.out (Or.inl ⟨by rfl, ?_⟩) ?_ ?_
    rotate_left
    ·intro w'
     go_simp
     with_reducible rfl
    rotate_left
    ·simp only [Act.put, sqA, sqB, sqC, i64_w, i32_w]
     rfl
    refine sqP (i := 11) (N := some 29) (v := undef) (a' := ?_) #[I,I,I,I,I,I,I,I,I,I,I,I,O,O,O,O,O,O,O,O,O,O,O,O,O,O,O,O] rfl rfl HT_.out (Or.inr ⟨by rfl, rfl⟩) ?_ ?_
    rotate_left
    ·simp only [Act.put, sqA, sqB, sqC, i64_w, i32_w]
     rfl
    refine sqP (i := 12) (N := some 30) (v := undef) (a' := ?_) #[I,I,I,I,I,I,I,I,I,I,I,I,I,O,O,O,O,O,O,O,O,O,O,O,O,O,O,O] rfl rfl HT_.out (Or.inr ⟨by rfl, rfl⟩) ?_ ?_
    rotate_left
    ·simp only [Act.put, sqA, sqB, sqC, i64_w, i32_w]
     rfl
    refine sqP (i := 13) (N := some 31) (v := ?_) (a' := ?_) #[I,I,I,I,I,I,I,I,I,I,I,I,I,I,O,O,O,O,O,O,O,O,O,O,O,O,O,O] rfl rfl HT_.out (Or.inl ⟨by rfl, ?_⟩) ?_ ?_
    rotate_left
    ·intro w'
     go_simp
     with_reducible rfl
    rotate_left
    ·simp only [Act.put, sqA, sqB, sqC, i64_w, i32_w]
     rfl
    refine sqP (i := 14) (N := some 32) (v := ?_) (a' := ?_) #[I,I,I,I,I,I,I,I,I,I,I,I,I,I,I,O,O,O,O,O,O,O,O,O,O,O,O,O] rfl rfl HT_.out (Or.inl ⟨by rfl, ?_⟩) ?_ ?_
    rotate_left
    ·intro w'
     go_simp
     with_reducible rfl
    rotate_left
    ·simp only [Act.put, sqA, sqB, sqC, i64_w, i32_w]
     rfl
    refine sqP (i := 15) (N := some 33) (v := undef) (a' := ?_) #[I,I,I,I,I,I,I,I,I,I,I,I,I,I,I,I,O,O,O,O,O,O,O,O,O,O,O,O] rfl rfl HT_.out (Or.inr ⟨by rfl, rfl⟩) ?_ ?_
    rotate_left
    ·simp only [Act.put, sqA, sqB, sqC, i64_w, i32_w]
     rfl
    refine sqP (i := 16) (N := some 34) (v := undef) (a' := ?_) #[I,I,I,I,I,I,I,I,I,I,I,I,I,I,I,I,I,O,O,O,O,O,O,O,O,O,O,O] rfl rfl HT_.out (Or.inr ⟨by rfl, rfl⟩) ?_ ?_
    rotate_left
    ·simp only [Act.put, sqA, sqB, sqC, i64_w, i32_w]
     rfl
    refine sqP (i := 17) (N := some 35) (v := undef) (a' := ?_) #[I,I,I,I,I,I,I,I,I,I,I,I,I,I,I,I,I,I,O,O,O,O,O,O,O,O,O,O] rfl rfl HT_.out (Or.inr ⟨by rfl, rfl⟩) ?_ ?_
    rotate_left
    ·simp only [Act.put, sqA, sqB, sqC, i64_w, i32_w]
     rfl
    refine sqP (i := 18) (N := some 36) (v := ?_) (a' := ?_) #[I,I,I,I,I,I,I,I,I,I,I,I,I,I,I,I,I,I,I,O,O,O,O,O,O,O,O,O] rfl rfl HT_.out (Or.inl ⟨by rfl, ?_⟩) ?_ ?_
    rotate_left
    ·intro w'
     go_simp
     with_reducible rfl
    rotate_left
    ·simp only [Act.put, sqA, sqB, sqC, i64_w, i32_w]
     rfl
    refine sqP (i := 19) (N := some 37) (v := ?_) (a' := ?_) #[I,I,I,I,I,I,I,I,I,I,I,I,I,I,I,I,I,I,I,I,O,O,O,O,O,O,O,O] rfl rfl HT_.out (Or.inl ⟨by rfl, ?_⟩) ?_ ?_
    rotate_left
    ·intro w'
     go_simp
     with_reducible rfl
    rotate_left
    ·simp only [Act.put, sqA, sqB, sqC, i64_w, i32_w]
     rfl
    refine sqP (i := 20) (N := some 38) (v := undef) (a' := ?_) #[I,I,I,I,I,I,I,I,I,I,I,I,I,I,I,I,I,I,I,I,I,O,O,O,O,O,O,O] rfl rfl HT_.out (Or.inr ⟨by rfl, rfl⟩) ?_ ?_
    rotate_left
    ·simp only [Act.put, sqA, sqB, sqC, i64_w, i32_w]
     rfl
    refine sqP (i := 21) (N := some 39) (v := undef) (a' := ?_) #[I,I,I,I,I,I,I,I,I,I,I,I,I,I,I,I,I,I,I,I,I,I,O,O,O,O,O,O] rfl rfl HT_.out (Or.inr ⟨by rfl, rfl⟩) ?_ ?_
    rotate_left
    ·simp only [Act.put, sqA, sqB, sqC, i64_w, i32_w]
     rfl
    refine sqP (i := 22) (N := some 40) (v := undef) (a' := ?_) #[I,I,I,I,I,I,I,I,I,I,I,I,I,I,I,I,I,I,I,I,I,I,I,O,O,O,O,O] rfl rfl HT_.out (Or.inr ⟨by rfl, rfl⟩) ?_ ?_
    rotate_left
    ·simp only [Act.put, sqA, sqB, sqC, i64_w, i32_w]
     rfl
    refine sqP (i := 23) (N := some 41) (v := undef) (a' := ?_) #[I,I,I,I,I,I,I,I,I,I,I,I,I,I,I,I,I,I,I,I,I,I,I,I,O,O,O,O] rfl rfl HT_.out (Or.inr ⟨by rfl, rfl⟩) ?_ ?_
    rotate_left
    ·simp only [Act.put, sqA, sqB, sqC, i64_w, i32_w]
     rfl
    refine sqP (i := 24) (N := some 42) (v := undef) (a' := ?_) #[I,I,I,I,I,I,I,I,I,I,I,I,I,I,I,I,I,I,I,I,I,I,I,I,I,O,O,O] rfl rfl HT_.out (Or.inr ⟨by rfl, rfl⟩) ?_ ?_
    rotate_left
    ·simp only [Act.put, sqA, sqB, sqC, i64_w, i32_w]
     rfl
    refine sqP (i := 25) (N := some 43) (v := undef) (a' := ?_) #[I,I,I,I,I,I,I,I,I,I,I,I,I,I,I,I,I,I,I,I,I,I,I,I,I,I,O,O] rfl rfl HT_.out (Or.inr ⟨by rfl, rfl⟩) ?_ ?_
    rotate_left
    ·simp only [Act.put, sqA, sqB, sqC, i64_w, i32_w]
     rfl
    refine sqP (i := 26) (N := some 44) (v := ?_) (a' := ?_) #[I,I,I,I,I,I,I,I,I,I,I,I,I,I,I,I,I,I,I,I,I,I,I,I,I,I,I,O] rfl rfl HT_.out (Or.inl ⟨by rfl, ?_⟩) ?_ ?_
    rotate_left
    ·intro w'
     go_simp
     with_reducible rfl
    rotate_left
    ·simp only [Act.put, sqA, sqB, sqC, i64_w, i32_w]
     rfl
    refine sqP (i := 27) (N := some 0) (v := ?_) (a' := ?_) #[I,I,I,I,I,I,I,I,I,I,I,I,I,I,I,I,I,I,I,I,I,I,I,I,I,I,I,I] rfl rfl HT_.out (Or.inl ⟨by rfl, ?_⟩) ?_ ?_
    rotate_left
    ·intro w'
     go_simp
     with_reducible rfl
    rotate_left
    ·simp only [Act.put, sqA, sqB, sqC, i64_w, i32_w]
     rfl
    refine done_ (done_of HT_.out (by kernel_rfl)) ?_
    try go_wp2
    go_ret
    exact ⟨by first | rfl | (simp [errW_none, errW_some] <;> rfl) | (simp [*, errW_none, errW_some] <;> rfl), by repeat (first | (with_reducible first | exact HB.out | apply below_alloc | apply pw_below_drewN | apply below_drew1 | refine below_set ?_ GE648.out | refine below_set ?_ GE649.out) | exact HB.out)⟩
  ·rw [if_neg c5] at H
   exact absurd H (by simp)
 ·rw [if_neg c4] at H
  have c4b0 : ((t659.length : Int) == 1) = false := beq_eq_false_iff_ne.mpr c4
  have c4b1 : ((t659.length : Int) != 1) = true := bne_iff_ne.mpr c4
  obtain rfl := Option.some.inj H
  go_enter Try.func45, Try.ntmps45
  try go_wp2_with (first | ((with_reducible refine gate_dst (N := 1) rfl ?_); (try (refine gate_guard (by rfl) ?_; dsimp only)); refine box_event ?hg (N := 1) ?hd (cs := #[.string (⟨#[]⟩ : ByteArray), .string (⟨#[]⟩ : ByteArray), .int .i64 0, .int .i64 0]) (t := 57) ?hr ?_; (case hd => rfl); (case hg => rfl); (case hr => first | (go_simp; done) | (go_simp; rfl)); intro gb648 hg w90 hbox hb; have n0_ := Aside0.mk (below_step (by repeat (first | (with_reducible first | exact HB.out | apply below_alloc | apply pw_below_drewN | apply below_drew1) | exact HB.out)) hb); have n1_ := Aside0.mk (hbox); have n2_ := Aside0.mk ((by rw [hg]; exact (below_size (by repeat (first | (with_reducible first | exact HB.out | apply below_alloc | apply pw_below_drewN | apply below_drew1) | exact HB.out))) : w.heap.size ≤ gb648)); have n3_ := Aside0.mk ((by rw [hg]; exact (below_size (by repeat (first | (with_reducible first | exact HB.out | apply below_alloc | apply pw_below_drewN | apply below_drew1) | exact HB.out))) : w.heap.size ≤ gb648)); clear HB; have HB := n0_; have BK648 := n1_; have GW648 := n2_; have GE648 := n3_; clear n0_ n1_ n2_ n3_; clear hb hbox hg; have hcz91_0 : w90.cell? ⟨gb648, 0, none⟩ = some (.string (⟨#[]⟩ : ByteArray)) := (blk_cell BK648.out 0).trans rfl; have hcz91_1 : w90.cell? ⟨gb648, 1, none⟩ = some (.string (⟨#[]⟩ : ByteArray)) := (blk_cell BK648.out 1).trans rfl; have hcz91_2 : w90.cell? ⟨gb648, 2, none⟩ = some (.int .i64 0) := (blk_cell BK648.out 2).trans rfl; have hcz91_3 : w90.cell? ⟨gb648, 3, none⟩ = some (.int .i64 0) := (blk_cell BK648.out 3).trans rfl; have hfz91_0 := blk_frozen BK648.out 0; have hfz91_1 := blk_frozen BK648.out 1; have hfz91_2 := blk_frozen BK648.out 2; have hfz91_3 := blk_frozen BK648.out 3) | ((with_reducible refine gate_dst (N := 2) rfl ?_); (try (refine gate_guard (by rfl) ?_; dsimp only)); refine box_event ?hg (N := 2) ?hd (cs := #[.string (⟨#[]⟩ : ByteArray), .string (⟨#[]⟩ : ByteArray), .int .i64 0, .int .i64 0]) (t := 57) ?hr ?_; (case hd => rfl); (case hg => rfl); (case hr => first | (go_simp; done) | (go_simp; rfl)); intro gb649 hg w92 hbox hb; have n0_ := Aside0.mk (blk_below (g := gb648) (o := .cells #[.string (⟨#[97]⟩ : ByteArray), .string (⟨#[120]⟩ : ByteArray), .int .i64 0, .int .i64 1] 57 (0, 0)) (by (with_reducible repeat (first | apply blN | apply blD | apply blA)); refine blk_put (cs := #[.string (⟨#[97]⟩ : ByteArray), .string (⟨#[120]⟩ : ByteArray), .int .i64 0, .int .i64 0]) ?_ 3 _ rfl; (with_reducible repeat (first | apply blN | apply blD | apply blA)); refine blk_put (cs := #[.string (⟨#[97]⟩ : ByteArray), .string (⟨#[120]⟩ : ByteArray), .int .i64 0, .int .i64 0]) ?_ 2 _ rfl; (with_reducible repeat (first | apply blN | apply blD | apply blA)); refine blk_put (cs := #[.string (⟨#[97]⟩ : ByteArray), .string (⟨#[]⟩ : ByteArray), .int .i64 0, .int .i64 0]) ?_ 1 _ rfl; (with_reducible repeat (first | apply blN | apply blD | apply blA)); refine blk_put (cs := #[.string (⟨#[]⟩ : ByteArray), .string (⟨#[]⟩ : ByteArray), .int .i64 0, .int .i64 0]) ?_ 0 _ rfl; (with_reducible repeat (first | apply blN | apply blD | apply blA)); exact BK648.out) hb); have n1_ := Aside0.mk (below_step (by repeat (first | (with_reducible first | exact HB.out | apply below_alloc | apply pw_below_drewN | apply below_drew1 | refine below_set ?_ GE648.out) | exact HB.out)) hb); have n2_ := Aside0.mk (hbox); have n3_ := Aside0.mk ((by rw [hg]; exact (below_size (by repeat (first | (with_reducible first | exact HB.out | apply below_alloc | apply pw_below_drewN | apply below_drew1 | refine below_set ?_ GE648.out) | exact HB.out))) : w.heap.size ≤ gb649)); have n4_ := Aside0.mk ((by rw [hg]; exact (below_size (by repeat (first | (with_reducible first | exact HB.out | apply below_alloc | apply pw_below_drewN | apply below_drew1 | refine below_set ?_ GE648.out) | exact HB.out))) : w.heap.size ≤ gb649)); have n5_ := Aside0.mk ((by rw [hg]; exact Nat.ne_of_lt (blk_lt (g := gb648) (o := .cells #[.string (⟨#[97]⟩ : ByteArray), .string (⟨#[120]⟩ : ByteArray), .int .i64 0, .int .i64 1] 57 (0, 0)) (by (with_reducible repeat (first | apply blN | apply blD | apply blA)); refine blk_put (cs := #[.string (⟨#[97]⟩ : ByteArray), .string (⟨#[120]⟩ : ByteArray), .int .i64 0, .int .i64 0]) ?_ 3 _ rfl; (with_reducible repeat (first | apply blN | apply blD | apply blA)); refine blk_put (cs := #[.string (⟨#[97]⟩ : ByteArray), .string (⟨#[120]⟩ : ByteArray), .int .i64 0, .int .i64 0]) ?_ 2 _ rfl; (with_reducible repeat (first | apply blN | apply blD | apply blA)); refine blk_put (cs := #[.string (⟨#[97]⟩ : ByteArray), .string (⟨#[]⟩ : ByteArray), .int .i64 0, .int .i64 0]) ?_ 1 _ rfl; (with_reducible repeat (first | apply blN | apply blD | apply blA)); refine blk_put (cs := #[.string (⟨#[]⟩ : ByteArray), .string (⟨#[]⟩ : ByteArray), .int .i64 0, .int .i64 0]) ?_ 0 _ rfl; (with_reducible repeat (first | apply blN | apply blD | apply blA)); exact BK648.out)) : gb648 ≠ gb649)); have n6_ := Aside0.mk ((by rw [hg]; exact Nat.ne_of_gt (blk_lt (g := gb648) (o := .cells #[.string (⟨#[97]⟩ : ByteArray), .string (⟨#[120]⟩ : ByteArray), .int .i64 0, .int .i64 1] 57 (0, 0)) (by (with_reducible repeat (first | apply blN | apply blD | apply blA)); refine blk_put (cs := #[.string (⟨#[97]⟩ : ByteArray), .string (⟨#[120]⟩ : ByteArray), .int .i64 0, .int .i64 0]) ?_ 3 _ rfl; (with_reducible repeat (first | apply blN | apply blD | apply blA)); refine blk_put (cs := #[.string (⟨#[97]⟩ : ByteArray), .string (⟨#[120]⟩ : ByteArray), .int .i64 0, .int .i64 0]) ?_ 2 _ rfl; (with_reducible repeat (first | apply blN | apply blD | apply blA)); refine blk_put (cs := #[.string (⟨#[97]⟩ : ByteArray), .string (⟨#[]⟩ : ByteArray), .int .i64 0, .int .i64 0]) ?_ 1 _ rfl; (with_reducible repeat (first | apply blN | apply blD | apply blA)); refine blk_put (cs := #[.string (⟨#[]⟩ : ByteArray), .string (⟨#[]⟩ : ByteArray), .int .i64 0, .int .i64 0]) ?_ 0 _ rfl; (with_reducible repeat (first | apply blN | apply blD | apply blA)); exact BK648.out)) : gb649 ≠ gb648)); clear BK648; clear HB; have BK648 := n0_; have HB := n1_; have BK649 := n2_; have GW649 := n3_; have GE649 := n4_; have NB648_649 := n5_; have NB649_648 := n6_; clear n0_ n1_ n2_ n3_ n4_ n5_ n6_; clear hb hbox hg; have hnb93 := NB649_648.out; have hnc93 := NB648_649.out; have hcz94_0 : w92.cell? ⟨gb649, 0, none⟩ = some (.string (⟨#[]⟩ : ByteArray)) := (blk_cell BK649.out 0).trans rfl; have hcz94_1 : w92.cell? ⟨gb649, 1, none⟩ = some (.string (⟨#[]⟩ : ByteArray)) := (blk_cell BK649.out 1).trans rfl; have hcz94_2 : w92.cell? ⟨gb649, 2, none⟩ = some (.int .i64 0) := (blk_cell BK649.out 2).trans rfl; have hcz94_3 : w92.cell? ⟨gb649, 3, none⟩ = some (.int .i64 0) := (blk_cell BK649.out 3).trans rfl; have hfz94_0 := blk_frozen BK649.out 0; have hfz94_1 := blk_frozen BK649.out 1; have hfz94_2 := blk_frozen BK649.out 2; have hfz94_3 := blk_frozen BK649.out 3; have hcz95_0 : w92.cell? ⟨gb648, 0, none⟩ = some (.string (⟨#[97]⟩ : ByteArray)) := (blk_cell BK648.out 0).trans rfl; have hcz95_1 : w92.cell? ⟨gb648, 1, none⟩ = some (.string (⟨#[120]⟩ : ByteArray)) := (blk_cell BK648.out 1).trans rfl; have hcz95_2 : w92.cell? ⟨gb648, 2, none⟩ = some (.int .i64 0) := (blk_cell BK648.out 2).trans rfl; have hcz95_3 : w92.cell? ⟨gb648, 3, none⟩ = some (.int .i64 1) := (blk_cell BK648.out 3).trans rfl; have hfz95_0 := blk_frozen BK648.out 0; have hfz95_1 := blk_frozen BK648.out 1; have hfz95_2 := blk_frozen BK648.out 2; have hfz95_3 := blk_frozen BK648.out 3) | ((with_reducible refine gate_dst (N := 10) rfl ?_); (try (refine gate_guard (by rfl) ?_; dsimp only)); refine Kd.R_lit k57 _ 57 ?hg (N := 10) ?hd (xs := ([(⟨(⟨#[97]⟩ : ByteArray), (⟨#[120]⟩ : ByteArray), (⟨0, 1⟩ : S24)⟩ : S57)] : List (S57))) (inner := [.string (⟨#[97]⟩ : ByteArray), .string (⟨#[120]⟩ : ByteArray), .int .i64 0, .int .i64 1]) (ok := fun _ => True) (okp := fun _ => True) ?hr ?hp (fun _ hk => hk) trivial (Below.refl _ _) (Nat.le_refl _) (by simp) ?_; (case hd => rfl); (case hg => rfl); (case hr => first | (go_simp; done) | (go_simp; rfl)); (case hp => exact (Reps.c4 (show Kd.M k57 _ _ _ (⟨(⟨#[97]⟩ : ByteArray), (⟨#[120]⟩ : ByteArray), (⟨0, 1⟩ : S24)⟩ : S57) [.string (⟨#[97]⟩ : ByteArray), .string (⟨#[120]⟩ : ByteArray), .int .i64 0, .int .i64 1] from (k57_mkM _ _ _ (⟨(⟨#[97]⟩ : ByteArray), (⟨#[120]⟩ : ByteArray), (⟨0, 1⟩ : S24)⟩ : S57) )) (Reps.none _ _))); intro v651 w96 ho97 hb hg_ hnew_; clear hg_ hnew_; (first | rw [← Ny650.out] at ho97 | (simp only [Int.reduceToNat] at ho97; rw [← Ny650.out] at ho97)); have n0_ := Aside0.mk (Kd.R_lower (Kd.R_newB (Kd.R_newB ho97 (g := gb648) (o := .cells #[.string (⟨#[97]⟩ : ByteArray), .string (⟨#[120]⟩ : ByteArray), .int .i64 0, .int .i64 1] 57 (0, 0)) (by (with_reducible repeat (first | apply blN | apply blD | apply blA)); refine blk_far ?_ NB648_649.out _; (with_reducible repeat (first | apply blN | apply blD | apply blA)); refine blk_far ?_ NB648_649.out _; (with_reducible repeat (first | apply blN | apply blD | apply blA)); refine blk_far ?_ NB648_649.out _; (with_reducible repeat (first | apply blN | apply blD | apply blA)); refine blk_far ?_ NB648_649.out _; (with_reducible repeat (first | apply blN | apply blD | apply blA)); exact BK648.out)) (g := gb649) (o := .cells #[.string (⟨#[97]⟩ : ByteArray), .string (⟨#[120]⟩ : ByteArray), .int .i64 0, .int .i64 2] 57 (0, 0)) (by (with_reducible repeat (first | apply blN | apply blD | apply blA)); refine blk_put (cs := #[.string (⟨#[97]⟩ : ByteArray), .string (⟨#[120]⟩ : ByteArray), .int .i64 0, .int .i64 0]) ?_ 3 _ rfl; (with_reducible repeat (first | apply blN | apply blD | apply blA)); refine blk_put (cs := #[.string (⟨#[97]⟩ : ByteArray), .string (⟨#[120]⟩ : ByteArray), .int .i64 0, .int .i64 0]) ?_ 2 _ rfl; (with_reducible repeat (first | apply blN | apply blD | apply blA)); refine blk_put (cs := #[.string (⟨#[97]⟩ : ByteArray), .string (⟨#[]⟩ : ByteArray), .int .i64 0, .int .i64 0]) ?_ 1 _ rfl; (with_reducible repeat (first | apply blN | apply blD | apply blA)); refine blk_put (cs := #[.string (⟨#[]⟩ : ByteArray), .string (⟨#[]⟩ : ByteArray), .int .i64 0, .int .i64 0]) ?_ 0 _ rfl; (with_reducible repeat (first | apply blN | apply blD | apply blA)); exact BK649.out)) (below_size (by repeat (first | (with_reducible first | exact HB.out | apply below_alloc | apply pw_below_drewN | apply below_drew1 | refine below_set ?_ GE648.out | refine below_set ?_ GE649.out) | exact HB.out)))); have n1_ := Aside0.mk (blk_below (g := gb648) (o := .cells #[.string (⟨#[97]⟩ : ByteArray), .string (⟨#[120]⟩ : ByteArray), .int .i64 0, .int .i64 1] 57 (0, 0)) (by (with_reducible repeat (first | apply blN | apply blD | apply blA)); refine blk_far ?_ NB648_649.out _; (with_reducible repeat (first | apply blN | apply blD | apply blA)); refine blk_far ?_ NB648_649.out _; (with_reducible repeat (first | apply blN | apply blD | apply blA)); refine blk_far ?_ NB648_649.out _; (with_reducible repeat (first | apply blN | apply blD | apply blA)); refine blk_far ?_ NB648_649.out _; (with_reducible repeat (first | apply blN | apply blD | apply blA)); exact BK648.out) hb); have n2_ := Aside0.mk (blk_below (g := gb649) (o := .cells #[.string (⟨#[97]⟩ : ByteArray), .string (⟨#[120]⟩ : ByteArray), .int .i64 0, .int .i64 2] 57 (0, 0)) (by (with_reducible repeat (first | apply blN | apply blD | apply blA)); refine blk_put (cs := #[.string (⟨#[97]⟩ : ByteArray), .string (⟨#[120]⟩ : ByteArray), .int .i64 0, .int .i64 0]) ?_ 3 _ rfl; (with_reducible repeat (first | apply blN | apply blD | apply blA)); refine blk_put (cs := #[.string (⟨#[97]⟩ : ByteArray), .string (⟨#[120]⟩ : ByteArray), .int .i64 0, .int .i64 0]) ?_ 2 _ rfl; (with_reducible repeat (first | apply blN | apply blD | apply blA)); refine blk_put (cs := #[.string (⟨#[97]⟩ : ByteArray), .string (⟨#[]⟩ : ByteArray), .int .i64 0, .int .i64 0]) ?_ 1 _ rfl; (with_reducible repeat (first | apply blN | apply blD | apply blA)); refine blk_put (cs := #[.string (⟨#[]⟩ : ByteArray), .string (⟨#[]⟩ : ByteArray), .int .i64 0, .int .i64 0]) ?_ 0 _ rfl; (with_reducible repeat (first | apply blN | apply blD | apply blA)); exact BK649.out) hb); have n3_ := Aside0.mk (below_step (by repeat (first | (with_reducible first | exact HB.out | apply below_alloc | apply pw_below_drewN | apply below_drew1 | refine below_set ?_ GE648.out | refine below_set ?_ GE649.out) | exact HB.out)) hb); clear BK648; clear BK649; clear HB; have HO652 := n0_; have BK648 := n1_; have BK649 := n2_; have HB := n3_; clear n0_ n1_ n2_ n3_; clear hb ho97))
  have n0_ := Aside0.mk (Kd.R_drew HO652.out)
  have n1_ := Aside0.mk (blk_drew BK648.out)
  have n2_ := Aside0.mk (blk_drew BK649.out)
  have n3_ := Aside0.mk (below_drew1 HB.out)
  clear HO652
  clear BK648
  clear BK649
  clear HB
  have HO652 := n0_
  have BK648 := n1_
  have BK649 := n2_
  have HB := n3_
  clear n0_ n1_ n2_ n3_
  obtain ⟨Ao99, co99, eo99⟩ := Kd.R_slice HO652.out
  (first | subst eo99 | (injection eo99 with f1_ f2_ f3_; have f4_ := f1_.symm; have f5_ := f3_.symm; clear f1_ f2_ f3_; subst f4_; subst f5_))
  refine start_ (n := 8) (S := fun w' => w'.cell? ⟨gb649, 0, none⟩ = some (.string (⟨#[97]⟩ : ByteArray)) ∧ w'.cell? ⟨gb649, 1, none⟩ = some (.string (⟨#[120]⟩ : ByteArray)) ∧ w'.cell? ⟨gb649, 2, none⟩ = some (.int .i64 0) ∧ w'.cell? ⟨gb649, 3, none⟩ = some (.int .i64 2)) (ds := []) #[O,O,O,O,O,O,O,O] (by kernel_rfl) rfl rfl ⟨(blk_cell BK649.out 0).trans rfl, (blk_cell BK649.out 1).trans rfl, (blk_cell BK649.out 2).trans rfl, (blk_cell BK649.out 3).trans rfl⟩ (fun hHeld => ?_); refine with_tabW law08_awake.tab4 law08_awake.bits4 (fun HT_ HW_ => ?_)
  generalize w96.drew = w98 at HO652 BK648 BK649 HB hHeld ⊢
  refine sqP (i := 0) (N := some 11) (v := ?_) (a' := ?_) #[I,O,O,O,O,O,O,O] rfl rfl HT_.out (Or.inl ⟨by rfl, ?_⟩) ?_ ?_
  rotate_left
  ·intro w'
   go_simp
   with_reducible rfl
  rotate_left
  ·simp only [Act.put, sqA, sqB, sqC, i64_w, i32_w]
   rfl
  refine sqP (i := 1) (N := some 12) (v := ?_) (a' := ?_) #[I,I,O,O,O,O,O,O] rfl rfl HT_.out (Or.inl ⟨by rfl, ?_⟩) ?_ ?_
  rotate_left
  ·intro w'
   go_simp
   with_reducible rfl
  rotate_left
  ·simp only [Act.put, sqA, sqB, sqC, i64_w, i32_w]
   rfl
  refine sqP (i := 3) (N := some 14) (v := ?_) (a' := ?_) #[I,I,O,I,O,O,O,O] rfl rfl HT_.out (Or.inl ⟨by rfl, ?_⟩) ?_ ?_
  rotate_left
  ·intro w'
   go_simp
   with_reducible rfl
  rotate_left
  ·simp only [Act.put, sqA, sqB, sqC, i64_w, i32_w]
   rfl
  refine take_ (i := 4) (N := some 15) (v := ?_) (a' := ?_) #[I,I,O,I,I,O,O,O] rfl rfl (take_ofW HT_.out HW_.out (by kernel_rfl)) (fun _ _ _ h => h) (Or.inl ⟨by rfl, ?_⟩) hHeld ?_ ?_
  rotate_left
  ·rintro w' ⟨s0, s1, s2, s3⟩
   go_simp
   with_reducible rfl
  rotate_left
  ·simp only [Act.put, sqA, sqB, sqC, i64_w, i32_w]
   rfl
  refine one_ (i := 2) (N := some 13) #[I,I,I,I,I,O,O,O] rfl rfl (one_of HT_.out (by kernel_rfl)) (by decide) (fun K hK => ?_)
  refine goes_ Try.func51 (by kernel_rfl) rfl #[.slice Ao99 y650.length co99, .string (⟨#[97]⟩ : ByteArray), .string (⟨#[120]⟩ : ByteArray)] (by rfl) rfl rfl (by (try simp only [List.map_toArray, List.map_cons, List.map_nil]); first | done | rfl | (simp only [List.length_drop, List.length_take]; rfl)) ?_
  with_reducible refine (pair_Del.calls _ _ y650 (⟨#[97]⟩ : ByteArray) (⟨#[120]⟩ : ByteArray) t653 _ ?side1 ?side2 A1.out).mono ?_
  (case side1 => repeat (first | exact (Kd.R_reads' HO652.out).2.2 | (with_reducible refine Kd.C_alloc ?_ _) | (with_reducible refine Kd.C_drewN ?_ _) | (with_reducible refine Kd.C_drew ?_)))
  (case side2 => exact (Kd.R_reads' HO652.out).2.1)
  rintro e w100 ⟨v654, rfl, ho0, hb⟩
  refine ⟨_, rfl, ?_⟩
  have n0_ := Aside0.mk (Kd.R_elder' (by (with_reducible repeat (first | apply Kd.R_alloc | apply Kd.R_drewN | apply Kd.R_drew)); exact HO652.out) (Kd.R_base ho0) hb)
  have n1_ := Aside0.mk (Kd.R_lower (Kd.R_newB (Kd.R_newB (Kd.R_new' ho0 (Kd.R_lt (by (with_reducible repeat (first | apply Kd.R_alloc | apply Kd.R_drewN | apply Kd.R_drew)); exact HO652.out))) (g := gb648) (o := .cells #[.string (⟨#[97]⟩ : ByteArray), .string (⟨#[120]⟩ : ByteArray), .int .i64 0, .int .i64 1] 57 (0, 0)) (by (with_reducible repeat (first | apply blN | apply blD | apply blA)); exact BK648.out)) (g := gb649) (o := .cells #[.string (⟨#[97]⟩ : ByteArray), .string (⟨#[120]⟩ : ByteArray), .int .i64 0, .int .i64 2] 57 (0, 0)) (by (with_reducible repeat (first | apply blN | apply blD | apply blA)); exact BK649.out)) (below_size (by repeat (first | (with_reducible first | exact HB.out | apply below_alloc | apply pw_below_drewN | apply below_drew1 | refine below_set ?_ GE648.out | refine below_set ?_ GE649.out) | exact HB.out))))
  have n2_ := Aside0.mk (blk_below (g := gb648) (o := .cells #[.string (⟨#[97]⟩ : ByteArray), .string (⟨#[120]⟩ : ByteArray), .int .i64 0, .int .i64 1] 57 (0, 0)) (by (with_reducible repeat (first | apply blN | apply blD | apply blA)); exact BK648.out) hb)
  have n3_ := Aside0.mk (blk_below (g := gb649) (o := .cells #[.string (⟨#[97]⟩ : ByteArray), .string (⟨#[120]⟩ : ByteArray), .int .i64 0, .int .i64 2] 57 (0, 0)) (by (with_reducible repeat (first | apply blN | apply blD | apply blA)); exact BK649.out) hb)
  have n4_ := Aside0.mk (below_step (by repeat (first | (with_reducible first | exact HB.out | apply below_alloc | apply pw_below_drewN | apply below_drew1 | refine below_set ?_ GE648.out | refine below_set ?_ GE649.out) | exact HB.out)) hb)
  clear HO652
  clear BK648
  clear BK649
  clear HB
  have HO652 := n0_
  have HO655 := n1_
  have BK648 := n2_
  have BK649 := n3_
  have HB := n4_
  clear n0_ n1_ n2_ n3_ n4_
  (try clear hb)
  (try clear hb2)
  (try clear hk)
  (try clear hi)
  (try clear ho0)
  refine hK.out _ _ ⟨(blk_cell BK649.out 0).trans rfl, (blk_cell BK649.out 1).trans rfl, (blk_cell BK649.out 2).trans rfl, (blk_cell BK649.out 3).trans rfl⟩ (fun hHeld => ?_)
  clear hK K
  refine norm_ (a' := ?_) ?_ ?_
  rotate_left
  ·show Act.put _ (some 13) _ = _
   simp only [Act.put, sqA, sqB, sqC, i64_w, i32_w]
   rfl
  refine one_ (i := 5) (N := some 16) #[I,I,I,I,I,I,O,O] rfl rfl (one_of HT_.out (by kernel_rfl)) (by decide) (fun K hK => ?_)
  refine goes_ Try.func49 (by kernel_rfl) rfl #[.slice Ao99 y650.length co99, .agg #[.string (⟨#[97]⟩ : ByteArray), .string (⟨#[120]⟩ : ByteArray), .int .i64 0, .int .i64 2]] (by rfl) rfl rfl (by (try simp only [List.map_toArray, List.map_cons, List.map_nil]); first | done | rfl | (simp only [List.length_drop, List.length_take]; rfl)) ?_
  with_reducible refine (pair_Add.calls _ _ y650 (⟨#[97]⟩ : ByteArray) (⟨#[120]⟩ : ByteArray) 0 2 t656 _ ?side1 ?side2 A2.out).mono ?_
  (case side1 => repeat (first | exact (Kd.R_reads' HO652.out).2.2 | (with_reducible refine Kd.C_alloc ?_ _) | (with_reducible refine Kd.C_drewN ?_ _) | (with_reducible refine Kd.C_drew ?_)))
  (case side2 => exact (Kd.R_reads' HO652.out).2.1)
  rintro e w101 ⟨v657, rfl, ho0, hb⟩
  refine ⟨_, rfl, ?_⟩
  have n0_ := Aside0.mk (Kd.R_elder' (by (with_reducible repeat (first | apply Kd.R_alloc | apply Kd.R_drewN | apply Kd.R_drew)); exact HO652.out) (Kd.R_base ho0) hb)
  have n1_ := Aside0.mk (Kd.R_elder' (by (with_reducible repeat (first | apply Kd.R_alloc | apply Kd.R_drewN | apply Kd.R_drew)); exact HO655.out) (Kd.R_base ho0) hb)
  have n2_ := Aside0.mk (Kd.R_lower (Kd.R_newB (Kd.R_newB (Kd.R_new' (Kd.R_new' ho0 (Kd.R_lt (by (with_reducible repeat (first | apply Kd.R_alloc | apply Kd.R_drewN | apply Kd.R_drew)); exact HO652.out))) (Kd.R_lt (by (with_reducible repeat (first | apply Kd.R_alloc | apply Kd.R_drewN | apply Kd.R_drew)); exact HO655.out))) (g := gb648) (o := .cells #[.string (⟨#[97]⟩ : ByteArray), .string (⟨#[120]⟩ : ByteArray), .int .i64 0, .int .i64 1] 57 (0, 0)) (by (with_reducible repeat (first | apply blN | apply blD | apply blA)); exact BK648.out)) (g := gb649) (o := .cells #[.string (⟨#[97]⟩ : ByteArray), .string (⟨#[120]⟩ : ByteArray), .int .i64 0, .int .i64 2] 57 (0, 0)) (by (with_reducible repeat (first | apply blN | apply blD | apply blA)); exact BK649.out)) (below_size (by repeat (first | (with_reducible first | exact HB.out | apply below_alloc | apply pw_below_drewN | apply below_drew1 | refine below_set ?_ GE648.out | refine below_set ?_ GE649.out) | exact HB.out))))
  have n3_ := Aside0.mk (blk_below (g := gb648) (o := .cells #[.string (⟨#[97]⟩ : ByteArray), .string (⟨#[120]⟩ : ByteArray), .int .i64 0, .int .i64 1] 57 (0, 0)) (by (with_reducible repeat (first | apply blN | apply blD | apply blA)); exact BK648.out) hb)
  have n4_ := Aside0.mk (blk_below (g := gb649) (o := .cells #[.string (⟨#[97]⟩ : ByteArray), .string (⟨#[120]⟩ : ByteArray), .int .i64 0, .int .i64 2] 57 (0, 0)) (by (with_reducible repeat (first | apply blN | apply blD | apply blA)); exact BK649.out) hb)
  have n5_ := Aside0.mk (below_step (by repeat (first | (with_reducible first | exact HB.out | apply below_alloc | apply pw_below_drewN | apply below_drew1 | refine below_set ?_ GE648.out | refine below_set ?_ GE649.out) | exact HB.out)) hb)
  clear HO652
  clear HO655
  clear BK648
  clear BK649
  clear HB
  have HO652 := n0_
  have HO655 := n1_
  have HO658 := n2_
  have BK648 := n3_
  have BK649 := n4_
  have HB := n5_
  clear n0_ n1_ n2_ n3_ n4_ n5_
  (try clear hb)
  (try clear hb2)
  (try clear hk)
  (try clear hi)
  (try clear ho0)
  obtain ⟨Ao102, co102, eo102⟩ := Kd.R_slice HO655.out
  (first | subst eo102 | (injection eo102 with f1_ f2_ f3_; have f4_ := f1_.symm; have f5_ := f3_.symm; clear f1_ f2_ f3_; subst f4_; subst f5_))
  obtain ⟨Ao103, co103, eo103⟩ := Kd.R_slice HO658.out
  (first | subst eo103 | (injection eo103 with f1_ f2_ f3_; have f4_ := f1_.symm; have f5_ := f3_.symm; clear f1_ f2_ f3_; subst f4_; subst f5_))
  refine hK.out _ _ ⟨(blk_cell BK649.out 0).trans rfl, (blk_cell BK649.out 1).trans rfl, (blk_cell BK649.out 2).trans rfl, (blk_cell BK649.out 3).trans rfl⟩ (fun hHeld => ?_)
  clear hK K
  refine norm_ (a' := ?_) ?_ ?_
  rotate_left
  ·show Act.put _ (some 16) _ = _
   simp only [Act.put, sqA, sqB, sqC, i64_w, i32_w]
   rfl
  refine one_ (i := 6) (N := some 17) #[I,I,I,I,I,I,I,O] rfl rfl (one_of HT_.out (by kernel_rfl)) (by decide) (fun K hK => ?_)
  refine goes_ Try.func53 (by kernel_rfl) rfl #[.slice Ao99 y650.length co99, .slice Ao102 t653.length co102, .slice Ao103 t656.length co103] (by rfl) rfl rfl (by (try simp only [List.map_toArray, List.map_cons, List.map_nil]); first | done | rfl | (simp only [List.length_drop, List.length_take]; rfl)) ?_
  with_reducible refine (pair_Merge.calls _ _ y650 _ _ t653 _ _ t656 t659 _ ?side1 ?side2 ?side3 ?side4 ?side5 ?side6 A3.out).mono ?_
  (case side1 => repeat (first | exact (Kd.R_reads' HO652.out).2.2 | (with_reducible refine Kd.C_alloc ?_ _) | (with_reducible refine Kd.C_drewN ?_ _) | (with_reducible refine Kd.C_drew ?_)))
  (case side2 => exact (Kd.R_reads' HO652.out).2.1)
  (case side3 => repeat (first | exact (Kd.R_reads' HO655.out).2.2 | (with_reducible refine Kd.C_alloc ?_ _) | (with_reducible refine Kd.C_drewN ?_ _) | (with_reducible refine Kd.C_drew ?_)))
  (case side4 => exact (Kd.R_reads' HO655.out).2.1)
  (case side5 => repeat (first | exact (Kd.R_reads' HO658.out).2.2 | (with_reducible refine Kd.C_alloc ?_ _) | (with_reducible refine Kd.C_drewN ?_ _) | (with_reducible refine Kd.C_drew ?_)))
  (case side6 => exact (Kd.R_reads' HO658.out).2.1)
  rintro e w104 ⟨v660, rfl, ho0, hb⟩
  refine ⟨_, rfl, ?_⟩
  have n0_ := Aside0.mk (Kd.R_elder' (by (with_reducible repeat (first | apply Kd.R_alloc | apply Kd.R_drewN | apply Kd.R_drew)); exact HO652.out) (Kd.R_base ho0) hb)
  have n1_ := Aside0.mk (Kd.R_elder' (by (with_reducible repeat (first | apply Kd.R_alloc | apply Kd.R_drewN | apply Kd.R_drew)); exact HO655.out) (Kd.R_base ho0) hb)
  have n2_ := Aside0.mk (Kd.R_elder' (by (with_reducible repeat (first | apply Kd.R_alloc | apply Kd.R_drewN | apply Kd.R_drew)); exact HO658.out) (Kd.R_base ho0) hb)
  have n3_ := Aside0.mk (Kd.R_lower (Kd.R_newB (Kd.R_newB (Kd.R_new' (Kd.R_new' (Kd.R_new' ho0 (Kd.R_lt (by (with_reducible repeat (first | apply Kd.R_alloc | apply Kd.R_drewN | apply Kd.R_drew)); exact HO652.out))) (Kd.R_lt (by (with_reducible repeat (first | apply Kd.R_alloc | apply Kd.R_drewN | apply Kd.R_drew)); exact HO655.out))) (Kd.R_lt (by (with_reducible repeat (first | apply Kd.R_alloc | apply Kd.R_drewN | apply Kd.R_drew)); exact HO658.out))) (g := gb648) (o := .cells #[.string (⟨#[97]⟩ : ByteArray), .string (⟨#[120]⟩ : ByteArray), .int .i64 0, .int .i64 1] 57 (0, 0)) (by (with_reducible repeat (first | apply blN | apply blD | apply blA)); exact BK648.out)) (g := gb649) (o := .cells #[.string (⟨#[97]⟩ : ByteArray), .string (⟨#[120]⟩ : ByteArray), .int .i64 0, .int .i64 2] 57 (0, 0)) (by (with_reducible repeat (first | apply blN | apply blD | apply blA)); exact BK649.out)) (below_size (by repeat (first | (with_reducible first | exact HB.out | apply below_alloc | apply pw_below_drewN | apply below_drew1 | refine below_set ?_ GE648.out | refine below_set ?_ GE649.out) | exact HB.out))))
  have n4_ := Aside0.mk (blk_below (g := gb648) (o := .cells #[.string (⟨#[97]⟩ : ByteArray), .string (⟨#[120]⟩ : ByteArray), .int .i64 0, .int .i64 1] 57 (0, 0)) (by (with_reducible repeat (first | apply blN | apply blD | apply blA)); exact BK648.out) hb)
  have n5_ := Aside0.mk (blk_below (g := gb649) (o := .cells #[.string (⟨#[97]⟩ : ByteArray), .string (⟨#[120]⟩ : ByteArray), .int .i64 0, .int .i64 2] 57 (0, 0)) (by (with_reducible repeat (first | apply blN | apply blD | apply blA)); exact BK649.out) hb)
  have n6_ := Aside0.mk (below_step (by repeat (first | (with_reducible first | exact HB.out | apply below_alloc | apply pw_below_drewN | apply below_drew1 | refine below_set ?_ GE648.out | refine below_set ?_ GE649.out) | exact HB.out)) hb)
  clear HO652
  clear HO655
  clear HO658
  clear BK648
  clear BK649
  clear HB
  have HO652 := n0_
  have HO655 := n1_
  have HO658 := n2_
  have HO661 := n3_
  have BK648 := n4_
  have BK649 := n5_
  have HB := n6_
  clear n0_ n1_ n2_ n3_ n4_ n5_ n6_
  (try clear hb)
  (try clear hb2)
  (try clear hk)
  (try clear hi)
  (try clear ho0)
  refine hK.out _ _ ⟨(blk_cell BK649.out 0).trans rfl, (blk_cell BK649.out 1).trans rfl, (blk_cell BK649.out 2).trans rfl, (blk_cell BK649.out 3).trans rfl⟩ (fun hHeld => ?_)
  clear hK K
  refine norm_ (a' := ?_) ?_ ?_
  rotate_left
  ·show Act.put _ (some 17) _ = _
   simp only [Act.put, sqA, sqB, sqC, i64_w, i32_w]
   rfl
  refine sqP (i := 7) (N := some 4) (v := ?_) (a' := ?_) #[I,I,I,I,I,I,I,I] rfl rfl HT_.out (Or.inl ⟨by rfl, ?_⟩) ?_ ?_
  rotate_left
  ·intro w'
   go_simp
   with_reducible rfl
  rotate_left
  ·simp only [Act.put, sqA, sqB, sqC, i64_w, i32_w]
   rfl
  refine done_ (done_of HT_.out (by kernel_rfl)) ?_
  try go_wp2
  have n0_ := Aside0.mk (Kd.R_drew HO652.out)
  have n1_ := Aside0.mk (Kd.R_drew HO655.out)
  have n2_ := Aside0.mk (Kd.R_drew HO658.out)
  have n3_ := Aside0.mk (Kd.R_drew HO661.out)
  have n4_ := Aside0.mk (blk_drew BK648.out)
  have n5_ := Aside0.mk (blk_drew BK649.out)
  have n6_ := Aside0.mk (below_drew1 HB.out)
  clear HO652
  clear HO655
  clear HO658
  clear HO661
  clear BK648
  clear BK649
  clear HB
  have HO652 := n0_
  have HO655 := n1_
  have HO658 := n2_
  have HO661 := n3_
  have BK648 := n4_
  have BK649 := n5_
  have HB := n6_
  clear n0_ n1_ n2_ n3_ n4_ n5_ n6_
  obtain ⟨Ao106, co106, eo106⟩ := Kd.R_slice HO661.out
  (first | subst eo106 | (injection eo106 with f1_ f2_ f3_; have f4_ := f1_.symm; have f5_ := f3_.symm; clear f1_ f2_ f3_; subst f4_; subst f5_))
  refine start_ (n := 28) (S := fun w' => True) (ds := []) #[O,O,O,O,O,O,O,O,O,O,O,O,O,O,O,O,O,O,O,O,O,O,O,O,O,O,O,O] (by kernel_rfl) rfl rfl trivial (fun hHeld => ?_); refine with_tabW law08_awake.tab5 law08_awake.bits5 (fun HT_ HW_ => ?_)
  generalize w104.drew = w105 at HO652 HO655 HO658 HO661 BK648 BK649 HB hHeld ⊢
  refine sqP (i := 0) (N := some 18) (v := ?_) (a' := ?_) #[I,O,O,O,O,O,O,O,O,O,O,O,O,O,O,O,O,O,O,O,O,O,O,O,O,O,O,O] rfl rfl HT_.out (Or.inl ⟨by rfl, ?_⟩) ?_ ?_
  rotate_left
  ·intro w'
   go_simp
   with_reducible rfl
  rotate_left
  ·simp only [Act.put, sqA, sqB, sqC, i64_w, i32_w]
   rfl
  refine sqP (i := 1) (N := some 19) (v := ?_) (a' := ?_) #[I,I,O,O,O,O,O,O,O,O,O,O,O,O,O,O,O,O,O,O,O,O,O,O,O,O,O,O] rfl rfl HT_.out (Or.inl ⟨by rfl, ?_⟩) ?_ ?_
  rotate_left
  ·intro w'
   go_simp
   with_reducible rfl
  rotate_left
  ·simp only [Act.put, sqA, sqB, sqC, i64_w, i32_w]
   rfl
  refine sqP (i := 2) (N := some 20) (v := ?_) (a' := ?_) #[I,I,I,O,O,O,O,O,O,O,O,O,O,O,O,O,O,O,O,O,O,O,O,O,O,O,O,O] rfl rfl HT_.out (Or.inl ⟨by rfl, ?_⟩) ?_ ?_
  rotate_left
  ·intro w'
   go_simp
   with_reducible rfl
  rotate_left
  ·simp only [Act.put, sqA, sqB, sqC, i64_w, i32_w]
   rfl
  refine sqP (i := 3) (N := some 21) (v := ?_) (a' := ?_) #[I,I,I,I,O,O,O,O,O,O,O,O,O,O,O,O,O,O,O,O,O,O,O,O,O,O,O,O] rfl rfl HT_.out (Or.inl ⟨by rfl, ?_⟩) ?_ ?_
  rotate_left
  ·intro w'
   go_simp
   with_reducible rfl
  rotate_left
  ·simp only [Act.put, sqA, sqB, sqC, i64_w, i32_w]
   rfl
  refine sqP (i := 4) (N := some 22) (v := undef) (a' := ?_) #[I,I,I,I,I,O,O,O,O,O,O,O,O,O,O,O,O,O,O,O,O,O,O,O,O,O,O,O] rfl rfl HT_.out (Or.inr ⟨by rfl, rfl⟩) ?_ ?_
  rotate_left
  ·simp only [Act.put, sqA, sqB, sqC, i64_w, i32_w]
   rfl
  refine sqP (i := 5) (N := some 23) (v := undef) (a' := ?_) #[I,I,I,I,I,I,O,O,O,O,O,O,O,O,O,O,O,O,O,O,O,O,O,O,O,O,O,O] rfl rfl HT_.out (Or.inr ⟨by rfl, rfl⟩) ?_ ?_
  rotate_left
  ·simp only [Act.put, sqA, sqB, sqC, i64_w, i32_w]
   rfl
  refine sqP (i := 6) (N := some 24) (v := undef) (a' := ?_) #[I,I,I,I,I,I,I,O,O,O,O,O,O,O,O,O,O,O,O,O,O,O,O,O,O,O,O,O] rfl rfl HT_.out (Or.inr ⟨by rfl, rfl⟩) ?_ ?_
  rotate_left
  ·simp only [Act.put, sqA, sqB, sqC, i64_w, i32_w]
   rfl
  refine sqP (i := 7) (N := some 25) (v := undef) (a' := ?_) #[I,I,I,I,I,I,I,I,O,O,O,O,O,O,O,O,O,O,O,O,O,O,O,O,O,O,O,O] rfl rfl HT_.out (Or.inr ⟨by rfl, rfl⟩) ?_ ?_
  rotate_left
  ·simp only [Act.put, sqA, sqB, sqC, i64_w, i32_w]
   rfl
  refine sqP (i := 8) (N := some 26) (v := undef) (a' := ?_) #[I,I,I,I,I,I,I,I,I,O,O,O,O,O,O,O,O,O,O,O,O,O,O,O,O,O,O,O] rfl rfl HT_.out (Or.inr ⟨by rfl, rfl⟩) ?_ ?_
  rotate_left
  ·simp only [Act.put, sqA, sqB, sqC, i64_w, i32_w]
   rfl
  refine sqP (i := 9) (N := some 27) (v := ?_) (a' := ?_) #[I,I,I,I,I,I,I,I,I,I,O,O,O,O,O,O,O,O,O,O,O,O,O,O,O,O,O,O] rfl rfl HT_.out (Or.inl ⟨by rfl, ?_⟩) ?_ ?_
  rotate_left
  ·intro w'
   go_simp
   with_reducible rfl
  rotate_left
  ·simp only [Act.put, sqA, sqB, sqC, i64_w, i32_w]
   rfl
  refine sqP (i := 10) (N := some 28) (v := ?_) (a' := ?_) #[I,I,I,I,I,I,I,I,I,I,I,O,O,O,O,O,O,O,O,O,O,O,O,O,O,O,O,O] rfl rfl HT_.out (Or.inl ⟨by rfl, ?_⟩) ?_ ?_
  rotate_left
  ·intro w'
   go_simp
   with_reducible rfl
  rotate_left
  ·simp only [Act.put, sqA, sqB, sqC, i64_w, i32_w]
   rfl
  refine sqP (i := 11) (N := some 29) (v := undef) (a' := ?_) #[I,I,I,I,I,I,I,I,I,I,I,I,O,O,O,O,O,O,O,O,O,O,O,O,O,O,O,O] rfl rfl HT_.out (Or.inr ⟨by rfl, rfl⟩) ?_ ?_
  rotate_left
  ·simp only [Act.put, sqA, sqB, sqC, i64_w, i32_w]
   rfl
  refine sqP (i := 12) (N := some 30) (v := undef) (a' := ?_) #[I,I,I,I,I,I,I,I,I,I,I,I,I,O,O,O,O,O,O,O,O,O,O,O,O,O,O,O] rfl rfl HT_.out (Or.inr ⟨by rfl, rfl⟩) ?_ ?_
  rotate_left
  ·simp only [Act.put, sqA, sqB, sqC, i64_w, i32_w]
   rfl
  refine sqP (i := 13) (N := some 31) (v := ?_) (a' := ?_) #[I,I,I,I,I,I,I,I,I,I,I,I,I,I,O,O,O,O,O,O,O,O,O,O,O,O,O,O] rfl rfl HT_.out (Or.inl ⟨by rfl, ?_⟩) ?_ ?_
  rotate_left
  ·intro w'
   go_simp
   with_reducible rfl
  rotate_left
  ·simp only [Act.put, sqA, sqB, sqC, i64_w, i32_w]
   rfl
  refine sqP (i := 14) (N := some 32) (v := ?_) (a' := ?_) #[I,I,I,I,I,I,I,I,I,I,I,I,I,I,I,O,O,O,O,O,O,O,O,O,O,O,O,O] rfl rfl HT_.out (Or.inl ⟨by rfl, ?_⟩) ?_ ?_
  rotate_left
  ·intro w'
   go_simp
   with_reducible rfl
  rotate_left
  ·simp only [Act.put, sqA, sqB, sqC, i64_w, i32_w]
   rfl
  refine sqP (i := 15) (N := some 33) (v := undef) (a' := ?_) #[I,I,I,I,I,I,I,I,I,I,I,I,I,I,I,I,O,O,O,O,O,O,O,O,O,O,O,O] rfl rfl HT_.out (Or.inr ⟨by rfl, rfl⟩) ?_ ?_
  rotate_left
  ·simp only [Act.put, sqA, sqB, sqC, i64_w, i32_w]
   rfl
  refine sqP (i := 16) (N := some 34) (v := undef) (a' := ?_) #[I,I,I,I,I,I,I,I,I,I,I,I,I,I,I,I,I,O,O,O,O,O,O,O,O,O,O,O] rfl rfl HT_.out (Or.inr ⟨by rfl, rfl⟩) ?_ ?_
  rotate_left
  ·simp only [Act.put, sqA, sqB, sqC, i64_w, i32_w]
   rfl
  refine sqP (i := 17) (N := some 35) (v := undef) (a' := ?_) #[I,I,I,I,I,I,I,I,I,I,I,I,I,I,I,I,I,I,O,O,O,O,O,O,O,O,O,O] rfl rfl HT_.out (Or.inr ⟨by rfl, rfl⟩) ?_ ?_
  rotate_left
  ·simp only [Act.put, sqA, sqB, sqC, i64_w, i32_w]
   rfl
  refine sqP (i := 18) (N := some 36) (v := ?_) (a' := ?_) #[I,I,I,I,I,I,I,I,I,I,I,I,I,I,I,I,I,I,I,O,O,O,O,O,O,O,O,O] rfl rfl HT_.out (Or.inl ⟨by rfl, ?_⟩) ?_ ?_
  rotate_left
  ·intro w'
   go_simp
   with_reducible rfl
  rotate_left
  ·simp only [Act.put, sqA, sqB, sqC, i64_w, i32_w]
   rfl
  refine sqP (i := 19) (N := some 37) (v := ?_) (a' := ?_) #[I,I,I,I,I,I,I,I,I,I,I,I,I,I,I,I,I,I,I,I,O,O,O,O,O,O,O,O] rfl rfl HT_.out (Or.inl ⟨by rfl, ?_⟩) ?_ ?_
  rotate_left
  ·intro w'
   go_simp
   with_reducible rfl
  rotate_left
  ·simp only [Act.put, sqA, sqB, sqC, i64_w, i32_w]
   rfl
  refine sqP (i := 20) (N := some 38) (v := undef) (a' := ?_) #[I,I,I,I,I,I,I,I,I,I,I,I,I,I,I,I,I,I,I,I,I,O,O,O,O,O,O,O] rfl rfl HT_.out (Or.inr ⟨by rfl, rfl⟩) ?_ ?_
  rotate_left
  ·simp only [Act.put, sqA, sqB, sqC, i64_w, i32_w]
   rfl
  refine sqP (i := 21) (N := some 39) (v := undef) (a' := ?_) #[I,I,I,I,I,I,I,I,I,I,I,I,I,I,I,I,I,I,I,I,I,I,O,O,O,O,O,O] rfl rfl HT_.out (Or.inr ⟨by rfl, rfl⟩) ?_ ?_
  rotate_left
  ·simp only [Act.put, sqA, sqB, sqC, i64_w, i32_w]
   rfl
  refine sqP (i := 22) (N := some 40) (v := undef) (a' := ?_) #[I,I,I,I,I,I,I,I,I,I,I,I,I,I,I,I,I,I,I,I,I,I,I,O,O,O,O,O] rfl rfl HT_.out (Or.inr ⟨by rfl, rfl⟩) ?_ ?_
  rotate_left
  ·simp only [Act.put, sqA, sqB, sqC, i64_w, i32_w]
   rfl
  refine sqP (i := 23) (N := some 41) (v := undef) (a' := ?_) #[I,I,I,I,I,I,I,I,I,I,I,I,I,I,I,I,I,I,I,I,I,I,I,I,O,O,O,O] rfl rfl HT_.out (Or.inr ⟨by rfl, rfl⟩) ?_ ?_
  rotate_left
  ·simp only [Act.put, sqA, sqB, sqC, i64_w, i32_w]
   rfl
  refine sqP (i := 24) (N := some 42) (v := undef) (a' := ?_) #[I,I,I,I,I,I,I,I,I,I,I,I,I,I,I,I,I,I,I,I,I,I,I,I,I,O,O,O] rfl rfl HT_.out (Or.inr ⟨by rfl, rfl⟩) ?_ ?_
  rotate_left
  ·simp only [Act.put, sqA, sqB, sqC, i64_w, i32_w]
   rfl
  refine sqP (i := 25) (N := some 43) (v := undef) (a' := ?_) #[I,I,I,I,I,I,I,I,I,I,I,I,I,I,I,I,I,I,I,I,I,I,I,I,I,I,O,O] rfl rfl HT_.out (Or.inr ⟨by rfl, rfl⟩) ?_ ?_
  rotate_left
  ·simp only [Act.put, sqA, sqB, sqC, i64_w, i32_w]
   rfl
  refine sqP (i := 26) (N := some 44) (v := ?_) (a' := ?_) #[I,I,I,I,I,I,I,I,I,I,I,I,I,I,I,I,I,I,I,I,I,I,I,I,I,I,I,O] rfl rfl HT_.out (Or.inl ⟨by rfl, ?_⟩) ?_ ?_
  rotate_left
  ·intro w'
   go_simp
   with_reducible rfl
  rotate_left
  ·simp only [Act.put, sqA, sqB, sqC, i64_w, i32_w]
   rfl
  refine sqP (i := 27) (N := some 0) (v := ?_) (a' := ?_) #[I,I,I,I,I,I,I,I,I,I,I,I,I,I,I,I,I,I,I,I,I,I,I,I,I,I,I,I] rfl rfl HT_.out (Or.inl ⟨by rfl, ?_⟩) ?_ ?_
  rotate_left
  ·intro w'
   go_simp
   with_reducible rfl
  rotate_left
  ·simp only [Act.put, sqA, sqB, sqC, i64_w, i32_w]
   rfl
  refine done_ (done_of HT_.out (by kernel_rfl)) ?_
  try go_wp2
  go_ret
  exact ⟨by first | rfl | (simp [errW_none, errW_some] <;> rfl) | (simp [*, errW_none, errW_some] <;> rfl), by repeat (first | (with_reducible first | exact HB.out | apply below_alloc | apply pw_below_drewN | apply below_drew1 | refine below_set ?_ GE648.out | refine below_set ?_ GE649.out) | exact HB.out)⟩

end Go.Proofs.Ytannmdngejdjkaa.L
