-- PRINTED by print.py (a twelfth state) out of the translation. Not trusted: Lean checks it.
import Derived.Test.YtannmdngejdjkaaLx0
import Derived.Test.YtannmdngejdjkaaLx33
import Derived.Test.YtannmdngejdjkaaLx34
import Derived.Test.YtannmdngejdjkaaLx35
import Derived.Test.YtannmdngejdjkaaLHPairAdd
import Derived.Test.YtannmdngejdjkaaLHPairDel
import Derived.Test.YtannmdngejdjkaaLHPairElems
namespace Go.Proofs.Ytannmdngejdjkaa.L
open Go.RowKit Go.Proofs.YtannmdngejdjkaaW.PrintWords Go.Proofs.YtannmdngejdjkaaW.PrintLast Go.Proofs.YtannmdngejdjkaaW.PrintMore
attribute [local go_sem] max2_int min2_int max_two min_two max_three min_three max_four min_four   -- for this text's walks alone
set_option linter.unusedVariables false
set_option linter.unusedSimpArgs false

/-! ### law08_PairElems: function 17 -/
mutual
def law08_PairElems.j0 : Nat → List (S57) → Bool → Bool → ByteArray → ByteArray → Int → Int → Option (Bool)
 | 0, _, _, _, _, _, _, _ => none
 | k + 1, x0, x5, x39, x884000, x884001, x884002, x884003 => if x39 = true then (some x5) else ((pair_Add.f x0 x884000 x884001 x884002 x884003).bind fun t895 => ((pair_Elems.f t895 x884000).bind fun t898 => ((pair_Del.f x0 x884000 x884001).bind fun t901 => ((pair_Elems.f t901 x884000).bind fun t904 => (law08_PairElems.l0 k t898 t904 false 0 x884000 x884001 x884002 x884003)))))
def law08_PairElems.l0 : Nat → List ByteArray → List ByteArray → Bool → Int → ByteArray → ByteArray → Int → Int → Option (Bool)
 | 0, _, _, _, _, _, _, _, _ => none
 | k + 1, x8, x9, x10, x11, x884000, x884001, x884002, x884003 => if x11 < (x8.length : Int) then (if x10 = true then (if x11 > 0 then (if 0 ≤ x11 then (if 0 ≤ (wrap64 (x11 - 1)) then (if (wrap64 (x11 - 1)) < (x8.length : Int) then (if ((Op.bytesLess ((rdOf ByteArray.empty x8 (wrap64 (x11 - 1))).toList) ((rdOf ByteArray.empty x8 x11).toList)) = true) then (law08_PairElems.l0 k x8 x9 true (wrap64 (x11 + 1)) x884000 x884001 x884002 x884003) else (some false)) else (none)) else (none)) else (none)) else (law08_PairElems.l0 k x8 x9 true (wrap64 (x11 + 1)) x884000 x884001 x884002 x884003)) else (if 0 ≤ x11 then (if x11 > 0 then (if 0 ≤ (wrap64 (x11 - 1)) then (if (wrap64 (x11 - 1)) < (x8.length : Int) then (if ((Op.bytesLess ((rdOf ByteArray.empty x8 (wrap64 (x11 - 1))).toList) ((rdOf ByteArray.empty x8 x11).toList)) = true) then (law08_PairElems.l0 k x8 x9 ((rdOf ByteArray.empty x8 x11).toList == x884001.toList) (wrap64 (x11 + 1)) x884000 x884001 x884002 x884003) else (some false)) else (none)) else (none)) else (law08_PairElems.l0 k x8 x9 ((rdOf ByteArray.empty x8 x11).toList == x884001.toList) (wrap64 (x11 + 1)) x884000 x884001 x884002 x884003)) else (none))) else (law08_PairElems.l1 k x8 x9 x10 0 x884000 x884001 x884002 x884003)
def law08_PairElems.l1 : Nat → List ByteArray → List ByteArray → Bool → Int → ByteArray → ByteArray → Int → Int → Option (Bool)
 | 0, _, _, _, _, _, _, _, _ => none
 | k + 1, x8, x9, x10, x12, x884000, x884001, x884002, x884003 => if x12 < (x9.length : Int) then (if 0 ≤ x12 then (if (rdOf ByteArray.empty x9 x12).toList = x884001.toList then (some false) else (law08_PairElems.l1 k x8 x9 x10 (wrap64 (x12 + 1)) x884000 x884001 x884002 x884003)) else (none)) else (if x10 = true then (some ((x8.length : Int) == (wrap64 ((x9.length : Int) + 1)))) else (some false))
end
def law08_PairElems.f (k : Nat) (l0 : List (S57)) (a1_0 : ByteArray) (a1_1 : ByteArray) (a1_2 : Int) (a1_3 : Int) : Option (Bool) := (law08_awake.f k).bind fun t884 => ((law08_Few.f k l0).bind fun t885 => ((law08_Few.f k (([(⟨a1_0, a1_1, (⟨a1_2, a1_3⟩ : S24)⟩ : S57)] : List (S57)))).bind fun t889 => (if t884 = true then (if t885 = true then (if t889 = true then ((pair_May.f k l0).bind fun t890 => (if t890 = true then ((pair_May.f k (([(⟨a1_0, a1_1, (⟨a1_2, a1_3⟩ : S24)⟩ : S57)] : List (S57)))).bind fun t894 => (law08_PairElems.j0 k l0 t884 (!t894) a1_0 a1_1 a1_2 a1_3)) else (law08_PairElems.j0 k l0 t884 true a1_0 a1_1 a1_2 a1_3))) else (law08_PairElems.j0 k l0 t884 true a1_0 a1_1 a1_2 a1_3)) else (law08_PairElems.j0 k l0 t884 true a1_0 a1_1 a1_2 a1_3)) else (law08_PairElems.j0 k l0 t884 true a1_0 a1_1 a1_2 a1_3))))
theorem law08_PairElems.mono_l : ∀ k, (∀ y0 y1 y2 y3 y4 y5 y6, LeO (law08_PairElems.j0 k y0 y1 y2 y3 y4 y5 y6) (law08_PairElems.j0 (k + 1) y0 y1 y2 y3 y4 y5 y6)) ∧ (∀ y0 y1 y2 y3 y4 y5 y6 y7, LeO (law08_PairElems.l0 k y0 y1 y2 y3 y4 y5 y6 y7) (law08_PairElems.l0 (k + 1) y0 y1 y2 y3 y4 y5 y6 y7)) ∧ (∀ y0 y1 y2 y3 y4 y5 y6 y7, LeO (law08_PairElems.l1 k y0 y1 y2 y3 y4 y5 y6 y7) (law08_PairElems.l1 (k + 1) y0 y1 y2 y3 y4 y5 y6 y7))
 | 0 => ⟨fun _ _ _ _ _ _ _ r h => by simp [law08_PairElems.j0] at h, fun _ _ _ _ _ _ _ _ r h => by simp [law08_PairElems.l0] at h, fun _ _ _ _ _ _ _ _ r h => by simp [law08_PairElems.l1] at h⟩
 | k + 1 => by
  obtain ⟨ih0, ih1, ih2⟩ := law08_PairElems.mono_l k
  refine ⟨?_, ?_, ?_⟩
  ·intro y0 y1 y2 y3 y4 y5 y6
   unfold law08_PairElems.j0
   repeat' first
   | (with_reducible exact ih0 _ _ _ _ _ _ _)
   | (with_reducible exact ih1 _ _ _ _ _ _ _ _)
   | (with_reducible exact ih2 _ _ _ _ _ _ _ _)
   | (with_reducible exact law08_Few.mono _ _)
   | (with_reducible exact law08_awake.mono _)
   | (with_reducible exact pair_May.mono _ _)
   | (with_reducible exact LeO.refl _)
   | (with_reducible exact LeO.none _)
   | (with_reducible refine LeO.ite ?_ ?_)
   | (with_reducible refine LeO.bind ?_ (fun _ => ?_))
   | exact ih0 _ _ _ _ _ _ _
   | exact ih1 _ _ _ _ _ _ _ _
   | exact ih2 _ _ _ _ _ _ _ _
   | exact law08_Few.mono _ _
   | exact law08_awake.mono _
   | exact pair_May.mono _ _
   | exact LeO.none _
   | refine LeO.ite ?_ ?_
   | refine LeO.bind ?_ (fun _ => ?_)
  ·intro y0 y1 y2 y3 y4 y5 y6 y7
   unfold law08_PairElems.l0
   repeat' first
   | (with_reducible exact ih0 _ _ _ _ _ _ _)
   | (with_reducible exact ih1 _ _ _ _ _ _ _ _)
   | (with_reducible exact ih2 _ _ _ _ _ _ _ _)
   | (with_reducible exact law08_Few.mono _ _)
   | (with_reducible exact law08_awake.mono _)
   | (with_reducible exact pair_May.mono _ _)
   | (with_reducible exact LeO.refl _)
   | (with_reducible exact LeO.none _)
   | (with_reducible refine LeO.ite ?_ ?_)
   | (with_reducible refine LeO.bind ?_ (fun _ => ?_))
   | exact ih0 _ _ _ _ _ _ _
   | exact ih1 _ _ _ _ _ _ _ _
   | exact ih2 _ _ _ _ _ _ _ _
   | exact law08_Few.mono _ _
   | exact law08_awake.mono _
   | exact pair_May.mono _ _
   | exact LeO.none _
   | refine LeO.ite ?_ ?_
   | refine LeO.bind ?_ (fun _ => ?_)
  ·intro y0 y1 y2 y3 y4 y5 y6 y7
   unfold law08_PairElems.l1
   repeat' first
   | (with_reducible exact ih0 _ _ _ _ _ _ _)
   | (with_reducible exact ih1 _ _ _ _ _ _ _ _)
   | (with_reducible exact ih2 _ _ _ _ _ _ _ _)
   | (with_reducible exact law08_Few.mono _ _)
   | (with_reducible exact law08_awake.mono _)
   | (with_reducible exact pair_May.mono _ _)
   | (with_reducible exact LeO.refl _)
   | (with_reducible exact LeO.none _)
   | (with_reducible refine LeO.ite ?_ ?_)
   | (with_reducible refine LeO.bind ?_ (fun _ => ?_))
   | exact ih0 _ _ _ _ _ _ _
   | exact ih1 _ _ _ _ _ _ _ _
   | exact ih2 _ _ _ _ _ _ _ _
   | exact law08_Few.mono _ _
   | exact law08_awake.mono _
   | exact pair_May.mono _ _
   | exact LeO.none _
   | refine LeO.ite ?_ ?_
   | refine LeO.bind ?_ (fun _ => ?_)
theorem law08_PairElems.mono : ∀ a0 a1 a2 a3 a4 k, LeO (law08_PairElems.f k a0 a1 a2 a3 a4) (law08_PairElems.f (k + 1) a0 a1 a2 a3 a4) := by
 intro a0 a1 a2 a3 a4 k
 obtain ⟨ih0, ih1, ih2⟩ := law08_PairElems.mono_l k
 unfold law08_PairElems.f
 repeat' first
   | (with_reducible exact ih0 _ _ _ _ _ _ _)
   | (with_reducible exact ih1 _ _ _ _ _ _ _ _)
   | (with_reducible exact ih2 _ _ _ _ _ _ _ _)
   | (with_reducible exact law08_Few.mono _ _)
   | (with_reducible exact law08_awake.mono _)
   | (with_reducible exact pair_May.mono _ _)
   | (with_reducible exact LeO.refl _)
   | (with_reducible exact LeO.none _)
   | (with_reducible refine LeO.ite ?_ ?_)
   | (with_reducible refine LeO.bind ?_ (fun _ => ?_))
   | exact ih0 _ _ _ _ _ _ _
   | exact ih1 _ _ _ _ _ _ _ _
   | exact ih2 _ _ _ _ _ _ _ _
   | exact law08_Few.mono _ _
   | exact law08_awake.mono _
   | exact pair_May.mono _ _
   | exact LeO.none _
   | refine LeO.ite ?_ ?_
   | refine LeO.bind ?_ (fun _ => ?_)
def law08_PairElems.T7 : Bool × List (List Nat × List Nat) := (true, [([], []), ([], []), ([1], [1]), ([], []), ([3], [3]), ([0, 2, 4], [0, 2, 4]), ([], []), ([6], [6]), ([5, 7, 5], [5, 7]), ([8, 8, 0, 1, 2, 3, 4, 5, 6, 7, 8], [8])])
def law08_PairElems.B7 : List Nat := [0, 0, 2, 0, 8, 31, 0, 64, 255, 511]
theorem law08_PairElems.tab7 : rtab .any (opsOf Try.f17 7) = law08_PairElems.T7 := by kernel_rfl
theorem law08_PairElems.bits7 : waitsOk law08_PairElems.T7.2 law08_PairElems.B7 = true := by kernel_rfl
def law08_PairElems.T12 : Bool × List (List Nat × List Nat) := (true, [([], []), ([0], [0]), ([1], [1]), ([1], [1]), ([2, 3, 1], [1, 2, 3]), ([4, 1], [1, 4]), ([1], [1]), ([6, 1], [1, 6]), ([5, 7, 1], [1, 5, 7]), ([1, 8], [1, 8]), ([9, 1, 0, 1, 2, 3, 4, 5, 6, 7, 8, 9], [0, 9])])
def law08_PairElems.B12 : List Nat := [0, 1, 3, 3, 15, 31, 3, 67, 255, 511, 1023]
theorem law08_PairElems.tab12 : rtab .any (opsOf Try.f17 12) = law08_PairElems.T12 := by kernel_rfl
theorem law08_PairElems.bits12 : waitsOk law08_PairElems.T12.2 law08_PairElems.B12 = true := by kernel_rfl
def law08_PairElems.T13 : Bool × List (List Nat × List Nat) := (true, [([], []), ([0], [0]), ([1], [1]), ([2], [2]), ([2], [2]), ([3, 4, 2], [2, 3, 4]), ([5, 2], [2, 5]), ([2], [2]), ([2], [2]), ([8, 2], [2, 8]), ([7, 9, 2], [2, 7, 9]), ([10, 2], [2, 10]), ([6, 11, 2], [2, 6, 11]), ([2, 12], [2, 12])])
def law08_PairElems.B13 : List Nat := [0, 1, 3, 7, 7, 31, 63, 7, 7, 263, 903, 1927, 4095, 8191]
theorem law08_PairElems.tab13 : rtab .any (opsOf Try.f17 13) = law08_PairElems.T13 := by kernel_rfl
theorem law08_PairElems.bits13 : waitsOk law08_PairElems.T13.2 law08_PairElems.B13 = true := by kernel_rfl
set_option maxHeartbeats 8000000 in
set_option maxRecDepth 100000 in
theorem law08_PairElems.calls (k : Nat) (A0 : Option Addr) (c0 : Nat) (l0 : List (S57)) (a1_0 : ByteArray) (a1_1 : ByteArray) (a1_2 : Int) (a1_3 : Int) (r : Bool) (w : World) (hr0 : Kd.C k57 w A0 l0.length l0) (hc0 : l0.length ≤ c0) (h : law08_PairElems.f k l0 a1_0 a1_1 a1_2 a1_3 = some r) :
  Calls Try.prog 17 #[.slice A0 l0.length c0, .agg #[.string a1_0, .string a1_1, .int .i64 a1_2, .int .i64 a1_3]] w fun e w' => e = .returned (.bool r) ∧ Below w.heap.size w w' := by
 have hu57 := Try.underlying57
 have HR0 := Aside0.mk hr0
 have HC0 := Aside0.mk hc0
 clear hr0 hc0
 have HB := Aside0.mk (Below.refl w.heap.size w)
 have H : ((law08_awake.f k).bind fun t884 => ((law08_Few.f k l0).bind fun t885 => ((law08_Few.f k (([(⟨a1_0, a1_1, (⟨a1_2, a1_3⟩ : S24)⟩ : S57)] : List (S57)))).bind fun t889 => (if t884 = true then (if t885 = true then (if t889 = true then ((pair_May.f k l0).bind fun t890 => (if t890 = true then ((pair_May.f k (([(⟨a1_0, a1_1, (⟨a1_2, a1_3⟩ : S24)⟩ : S57)] : List (S57)))).bind fun t894 => (law08_PairElems.j0 k l0 t884 (!t894) a1_0 a1_1 a1_2 a1_3)) else (law08_PairElems.j0 k l0 t884 true a1_0 a1_1 a1_2 a1_3))) else (law08_PairElems.j0 k l0 t884 true a1_0 a1_1 a1_2 a1_3)) else (law08_PairElems.j0 k l0 t884 true a1_0 a1_1 a1_2 a1_3)) else (law08_PairElems.j0 k l0 t884 true a1_0 a1_1 a1_2 a1_3))))) = some r := h
 clear h
 replace H := Option.bind_eq_some_iff.mp H
 obtain ⟨t884, A30, H⟩ := H
 replace H : ((law08_Few.f k l0).bind fun t885 => ((law08_Few.f k (([(⟨a1_0, a1_1, (⟨a1_2, a1_3⟩ : S24)⟩ : S57)] : List (S57)))).bind fun t889 => (if t884 = true then (if t885 = true then (if t889 = true then ((pair_May.f k l0).bind fun t890 => (if t890 = true then ((pair_May.f k (([(⟨a1_0, a1_1, (⟨a1_2, a1_3⟩ : S24)⟩ : S57)] : List (S57)))).bind fun t894 => (law08_PairElems.j0 k l0 t884 (!t894) a1_0 a1_1 a1_2 a1_3)) else (law08_PairElems.j0 k l0 t884 true a1_0 a1_1 a1_2 a1_3))) else (law08_PairElems.j0 k l0 t884 true a1_0 a1_1 a1_2 a1_3)) else (law08_PairElems.j0 k l0 t884 true a1_0 a1_1 a1_2 a1_3)) else (law08_PairElems.j0 k l0 t884 true a1_0 a1_1 a1_2 a1_3)))) = some r := H
 have A3 := Aside0.mk A30
 clear A30
 replace H := Option.bind_eq_some_iff.mp H
 obtain ⟨t885, A40, H⟩ := H
 replace H : ((law08_Few.f k (([(⟨a1_0, a1_1, (⟨a1_2, a1_3⟩ : S24)⟩ : S57)] : List (S57)))).bind fun t889 => (if t884 = true then (if t885 = true then (if t889 = true then ((pair_May.f k l0).bind fun t890 => (if t890 = true then ((pair_May.f k (([(⟨a1_0, a1_1, (⟨a1_2, a1_3⟩ : S24)⟩ : S57)] : List (S57)))).bind fun t894 => (law08_PairElems.j0 k l0 t884 (!t894) a1_0 a1_1 a1_2 a1_3)) else (law08_PairElems.j0 k l0 t884 true a1_0 a1_1 a1_2 a1_3))) else (law08_PairElems.j0 k l0 t884 true a1_0 a1_1 a1_2 a1_3)) else (law08_PairElems.j0 k l0 t884 true a1_0 a1_1 a1_2 a1_3)) else (law08_PairElems.j0 k l0 t884 true a1_0 a1_1 a1_2 a1_3))) = some r := H
 have A4 := Aside0.mk A40
 clear A40
 obtain ⟨y886, hy886⟩ : ∃ y_ : List (S57), y_ = (([(⟨a1_0, a1_1, (⟨a1_2, a1_3⟩ : S24)⟩ : S57)] : List (S57))) := ⟨_, rfl⟩
 replace H : ((law08_Few.f k y886).bind fun t889 => (if t884 = true then (if t885 = true then (if t889 = true then ((pair_May.f k l0).bind fun t890 => (if t890 = true then ((pair_May.f k (([(⟨a1_0, a1_1, (⟨a1_2, a1_3⟩ : S24)⟩ : S57)] : List (S57)))).bind fun t894 => (law08_PairElems.j0 k l0 t884 (!t894) a1_0 a1_1 a1_2 a1_3)) else (law08_PairElems.j0 k l0 t884 true a1_0 a1_1 a1_2 a1_3))) else (law08_PairElems.j0 k l0 t884 true a1_0 a1_1 a1_2 a1_3)) else (law08_PairElems.j0 k l0 t884 true a1_0 a1_1 a1_2 a1_3)) else (law08_PairElems.j0 k l0 t884 true a1_0 a1_1 a1_2 a1_3))) = some r := by first | (rw [hy886]; with_reducible exact H) | (have H2_ := (Option.bind_some _ _).symm.trans H; rw [hy886]; with_reducible exact H2_) | (have H2_ := (Option.bind_some _ _).symm.trans H; with_reducible exact H2_) | with_reducible exact H | (rw [hy886]; exact H) | exact H
 have Ny886 := Aside0.mk hy886
 clear hy886
 replace H := Option.bind_eq_some_iff.mp H
 obtain ⟨t889, A50, H⟩ := H
 replace H : (if t884 = true then (if t885 = true then (if t889 = true then ((pair_May.f k l0).bind fun t890 => (if t890 = true then ((pair_May.f k (([(⟨a1_0, a1_1, (⟨a1_2, a1_3⟩ : S24)⟩ : S57)] : List (S57)))).bind fun t894 => (law08_PairElems.j0 k l0 t884 (!t894) a1_0 a1_1 a1_2 a1_3)) else (law08_PairElems.j0 k l0 t884 true a1_0 a1_1 a1_2 a1_3))) else (law08_PairElems.j0 k l0 t884 true a1_0 a1_1 a1_2 a1_3)) else (law08_PairElems.j0 k l0 t884 true a1_0 a1_1 a1_2 a1_3)) else (law08_PairElems.j0 k l0 t884 true a1_0 a1_1 a1_2 a1_3)) = some r := H
 have A5 := Aside0.mk A50
 clear A50
 have HC6 := Aside0.mk H
 clear H
 go_enter Try.func17, Try.ntmps17
 go_upto_region 4 with (first | ((with_reducible refine gate_dst (N := 3) rfl ?_); (try (refine gate_guard (by rfl) ?_; dsimp only)); refine box_event ?hg (N := 3) ?hd (cs := #[.string a1_0, .string a1_1, .int .i64 a1_2, .int .i64 a1_3]) (t := 57) ?hr ?_; (case hd => rfl); (case hg => rfl); (case hr => first | (go_simp; done) | (go_simp; rfl)); intro gb883 hg w7 hbox hb; have n0_ := Aside0.mk (below_step (by repeat (first | (with_reducible first | exact HB.out | apply below_alloc | apply pw_below_drewN | apply below_drew1) | exact HB.out)) hb); have n1_ := Aside0.mk (hbox); have n2_ := Aside0.mk ((by rw [hg]; exact (below_size (by repeat (first | (with_reducible first | exact HB.out | apply below_alloc | apply pw_below_drewN | apply below_drew1) | exact HB.out))) : w.heap.size ≤ gb883)); have n3_ := Aside0.mk ((by rw [hg]; exact (below_size (by repeat (first | (with_reducible first | exact HB.out | apply below_alloc | apply pw_below_drewN | apply below_drew1) | exact HB.out))) : w.heap.size ≤ gb883)); clear HB; have HB := n0_; have BK883 := n1_; have GW883 := n2_; have GE883 := n3_; clear n0_ n1_ n2_ n3_; clear hb hbox hg) | ((with_reducible refine gate_callee (f := 45) rfl ?_); refine goesL_ (some 13) rfl rfl Try.func45 (by kernel_rfl) rfl #[] rfl (by (try simp only [List.map_toArray, List.map_cons, List.map_nil]); first | done | rfl | (simp only [List.length_drop, List.length_take]; rfl)) ?_; (with_reducible refine (law08_awake.calls k  t884 _ A3.out).mono ?_); rintro e w8 ⟨rfl, hb⟩; refine ⟨_, rfl, ?_⟩; have n0_ := Aside0.mk (blk_below (g := gb883) (o := .cells #[.string a1_0, .string a1_1, .int .i64 a1_2, .int .i64 a1_3] 57 (0, 0)) (by (with_reducible repeat (first | refine blk_drewN ?_ _ | refine blk_drew ?_ | refine blk_alloc ?_ _)); exact BK883.out) hb); have n1_ := Aside0.mk (below_step (by repeat (first | (with_reducible first | exact HB.out | apply below_alloc | apply pw_below_drewN | apply below_drew1 | refine below_set ?_ GE883.out) | exact HB.out)) hb); clear BK883; clear HB; have BK883 := n0_; have HB := n1_; clear n0_ n1_; (try clear hb); (try clear hb2); (try clear hk); (try clear hi)) | ((with_reducible refine gate_callee (f := 46) rfl ?_); refine goesL_ (some 15) rfl rfl Try.func46 (by kernel_rfl) rfl #[.slice A0 l0.length c0] rfl (by (try simp only [List.map_toArray, List.map_cons, List.map_nil]); first | done | rfl | (simp only [List.length_drop, List.length_take]; rfl)) ?_; (with_reducible refine (law08_Few.calls k _ _ l0 t885 _ ?side1 ?side2 A4.out).mono ?_); (case side1 => repeat (first | exact (Kd.C_below HR0.out HB.out) | (with_reducible refine Kd.C_alloc ?_ _) | (with_reducible refine Kd.C_drewN ?_ _) | (with_reducible refine Kd.C_drew ?_))); (case side2 => exact HC0.out); rintro e w' ⟨rfl, ⟨nd, rfl⟩⟩; refine ⟨_, rfl, ?_⟩; have hcz9_0 : w8.cell? ⟨gb883, 0, none⟩ = some (.string a1_0) := (blk_cell BK883.out 0).trans rfl; have hcz9_1 : w8.cell? ⟨gb883, 1, none⟩ = some (.string a1_1) := (blk_cell BK883.out 1).trans rfl; have hcz9_2 : w8.cell? ⟨gb883, 2, none⟩ = some (.int .i64 a1_2) := (blk_cell BK883.out 2).trans rfl; have hcz9_3 : w8.cell? ⟨gb883, 3, none⟩ = some (.int .i64 a1_3) := (blk_cell BK883.out 3).trans rfl; have hfz9_0 := blk_frozen BK883.out 0; have hfz9_1 := blk_frozen BK883.out 1; have hfz9_2 := blk_frozen BK883.out 2; have hfz9_3 := blk_frozen BK883.out 3) | ((with_reducible refine gate_dst (N := 17) rfl ?_); (try (refine gate_guard (by rfl) ?_; dsimp only)); refine Kd.R_lit k57 _ 57 ?hg (N := 17) ?hd (xs := ([(⟨a1_0, a1_1, (⟨a1_2, a1_3⟩ : S24)⟩ : S57)] : List (S57))) (inner := [.string a1_0, .string a1_1, .int .i64 a1_2, .int .i64 a1_3]) (ok := fun _ => True) (okp := fun _ => True) ?hr ?hp (fun _ hk => hk) trivial (Below.refl _ _) (Nat.le_refl _) (by simp) ?_; (case hd => rfl); (case hg => rfl); (case hr => first | (go_simp; done) | (go_simp; rfl)); (case hp => exact (Reps.c4 (show Kd.M k57 _ _ _ (⟨a1_0, a1_1, (⟨a1_2, a1_3⟩ : S24)⟩ : S57) [.string a1_0, .string a1_1, .int .i64 a1_2, .int .i64 a1_3] from (k57_mkM _ _ _ (⟨a1_0, a1_1, (⟨a1_2, a1_3⟩ : S24)⟩ : S57) )) (Reps.none _ _))); intro v887 w10 ho11 hb hg_ hnew_; clear hg_ hnew_; (first | rw [← Ny886.out] at ho11 | (simp only [Int.reduceToNat] at ho11; rw [← Ny886.out] at ho11)); have n0_ := Aside0.mk (Kd.R_lower (Kd.R_newB ho11 (g := gb883) (o := .cells #[.string a1_0, .string a1_1, .int .i64 a1_2, .int .i64 a1_3] 57 (0, 0)) (by (with_reducible repeat (first | refine blk_drewN ?_ _ | refine blk_drew ?_ | refine blk_alloc ?_ _)); exact BK883.out)) (below_size (by repeat (first | (with_reducible first | exact HB.out | apply below_alloc | apply pw_below_drewN | apply below_drew1 | refine below_set ?_ GE883.out) | exact HB.out)))); have n1_ := Aside0.mk (blk_below (g := gb883) (o := .cells #[.string a1_0, .string a1_1, .int .i64 a1_2, .int .i64 a1_3] 57 (0, 0)) (by (with_reducible repeat (first | refine blk_drewN ?_ _ | refine blk_drew ?_ | refine blk_alloc ?_ _)); exact BK883.out) hb); have n2_ := Aside0.mk (below_step (by repeat (first | (with_reducible first | exact HB.out | apply below_alloc | apply pw_below_drewN | apply below_drew1 | refine below_set ?_ GE883.out) | exact HB.out)) hb); clear BK883; clear HB; have HO888 := n0_; have BK883 := n1_; have HB := n2_; clear n0_ n1_ n2_; clear hb ho11; obtain ⟨Ao12, co12, eo12⟩ := Kd.R_slice HO888.out; subst eo12) | ((with_reducible refine gate_callee (f := 46) rfl ?_); refine goesL_ (some 18) rfl rfl Try.func46 (by kernel_rfl) rfl #[.slice Ao12 y886.length co12] rfl (by (try simp only [List.map_toArray, List.map_cons, List.map_nil]); first | done | rfl | (simp only [List.length_drop, List.length_take]; rfl)) ?_; (with_reducible refine (law08_Few.calls k _ _ y886 t889 _ ?side1 ?side2 A5.out).mono ?_); (case side1 => repeat (first | exact (Kd.R_reads' HO888.out).2.2 | (with_reducible refine Kd.C_alloc ?_ _) | (with_reducible refine Kd.C_drewN ?_ _) | (with_reducible refine Kd.C_drew ?_))); (case side2 => exact (Kd.R_reads' HO888.out).2.1); rintro e w' ⟨rfl, ⟨nd, rfl⟩⟩; refine ⟨_, rfl, ?_⟩))
 (try simp only [Act.put, List.setIfInBounds_toArray, List.set_cons_zero, List.set_cons_succ])
 go_cut [39] (fun v39 wc => ∃ (kq : Nat) (x39_5 : Bool), v39 = .bool x39_5 ∧ Aside0 (law08_PairElems.j0 kq l0 t884 x39_5 a1_0 a1_1 a1_2 a1_3 = some r) ∧ Aside0 (kq ≤ k) ∧ Aside0 (wc.heap[gb883]? = some (.cells #[.string a1_0, .string a1_1, .int .i64 a1_2, .int .i64 a1_3] 57 (0, 0))) ∧ Aside0 (Below w.heap.size w wc))
 case first =>
  have H := HC6.out
  clear HC6
  by_cases c13 : t884 = true
  ·subst c13
   have H1 : (if t885 = true then (if t889 = true then ((pair_May.f k l0).bind fun t890 => (if t890 = true then ((pair_May.f k (([(⟨a1_0, a1_1, (⟨a1_2, a1_3⟩ : S24)⟩ : S57)] : List (S57)))).bind fun t894 => (law08_PairElems.j0 k l0 true (!t894) a1_0 a1_1 a1_2 a1_3)) else (law08_PairElems.j0 k l0 true true a1_0 a1_1 a1_2 a1_3))) else (law08_PairElems.j0 k l0 true true a1_0 a1_1 a1_2 a1_3)) else (law08_PairElems.j0 k l0 true true a1_0 a1_1 a1_2 a1_3)) = some r := by rw [if_pos rfl] at H; exact H
   clear H
   have H := H1
   clear H1
   by_cases c14 : t885 = true
   ·subst c14
    have H1 : (if t889 = true then ((pair_May.f k l0).bind fun t890 => (if t890 = true then ((pair_May.f k (([(⟨a1_0, a1_1, (⟨a1_2, a1_3⟩ : S24)⟩ : S57)] : List (S57)))).bind fun t894 => (law08_PairElems.j0 k l0 true (!t894) a1_0 a1_1 a1_2 a1_3)) else (law08_PairElems.j0 k l0 true true a1_0 a1_1 a1_2 a1_3))) else (law08_PairElems.j0 k l0 true true a1_0 a1_1 a1_2 a1_3)) = some r := by rw [if_pos rfl] at H; exact H
    clear H
    have H := H1
    clear H1
    by_cases c15 : t889 = true
    ·subst c15
     have H1 : ((pair_May.f k l0).bind fun t890 => (if t890 = true then ((pair_May.f k (([(⟨a1_0, a1_1, (⟨a1_2, a1_3⟩ : S24)⟩ : S57)] : List (S57)))).bind fun t894 => (law08_PairElems.j0 k l0 true (!t894) a1_0 a1_1 a1_2 a1_3)) else (law08_PairElems.j0 k l0 true true a1_0 a1_1 a1_2 a1_3))) = some r := by rw [if_pos rfl] at H; exact H
     clear H
     have H := H1
     clear H1
     replace H := Option.bind_eq_some_iff.mp H
     obtain ⟨t890, A160, H⟩ := H
     replace H : (if t890 = true then ((pair_May.f k (([(⟨a1_0, a1_1, (⟨a1_2, a1_3⟩ : S24)⟩ : S57)] : List (S57)))).bind fun t894 => (law08_PairElems.j0 k l0 true (!t894) a1_0 a1_1 a1_2 a1_3)) else (law08_PairElems.j0 k l0 true true a1_0 a1_1 a1_2 a1_3)) = some r := H
     have A16 := Aside0.mk A160
     clear A160
     by_cases c17 : t890 = true
     ·subst c17
      have H1 : ((pair_May.f k (([(⟨a1_0, a1_1, (⟨a1_2, a1_3⟩ : S24)⟩ : S57)] : List (S57)))).bind fun t894 => (law08_PairElems.j0 k l0 true (!t894) a1_0 a1_1 a1_2 a1_3)) = some r := by rw [if_pos rfl] at H; exact H
      clear H
      have H := H1
      clear H1
      obtain ⟨y891, hy891⟩ : ∃ y_ : List (S57), y_ = (([(⟨a1_0, a1_1, (⟨a1_2, a1_3⟩ : S24)⟩ : S57)] : List (S57))) := ⟨_, rfl⟩
      replace H : ((pair_May.f k y891).bind fun t894 => (law08_PairElems.j0 k l0 true (!t894) a1_0 a1_1 a1_2 a1_3)) = some r := by first | (rw [hy891]; with_reducible exact H) | (have H2_ := (Option.bind_some _ _).symm.trans H; rw [hy891]; with_reducible exact H2_) | (have H2_ := (Option.bind_some _ _).symm.trans H; with_reducible exact H2_) | with_reducible exact H | (rw [hy891]; exact H) | exact H
      have Ny891 := Aside0.mk hy891
      clear hy891
      replace H := Option.bind_eq_some_iff.mp H
      obtain ⟨t894, A180, H⟩ := H
      replace H : (law08_PairElems.j0 k l0 true (!t894) a1_0 a1_1 a1_2 a1_3) = some r := H
      have A18 := Aside0.mk A180
      clear A180
      have H' := Aside0.mk H
      clear H
      go_wp2_with (first | (go_at_call 60; (with_reducible refine (pair_May.calls k _ _ l0 true _ ?side1 ?side2 A16.out).mono ?_); (case side1 => repeat (first | exact (Kd.C_below HR0.out HB.out) | (with_reducible refine Kd.C_alloc ?_ _) | (with_reducible refine Kd.C_drewN ?_ _) | (with_reducible refine Kd.C_drew ?_))); (case side2 => exact HC0.out); rintro e w19 ⟨rfl, hb⟩; have n0_ := Aside0.mk (Kd.R_below (by (with_reducible repeat (first | apply Kd.R_alloc | apply Kd.R_drewN | apply Kd.R_drew)); exact HO888.out) hb); have n1_ := Aside0.mk (blk_below (g := gb883) (o := .cells #[.string a1_0, .string a1_1, .int .i64 a1_2, .int .i64 a1_3] 57 (0, 0)) (by (with_reducible repeat (first | refine blk_drewN ?_ _ | refine blk_drew ?_ | refine blk_alloc ?_ _)); exact BK883.out) hb); have n2_ := Aside0.mk (below_step (by repeat (first | (with_reducible first | exact HB.out | apply below_alloc | apply pw_below_drewN | apply below_drew1 | refine below_set ?_ GE883.out) | exact HB.out)) hb); clear HO888; clear BK883; clear HB; have HO888 := n0_; have BK883 := n1_; have HB := n2_; clear n0_ n1_ n2_; (try clear hb); (try clear hb2); (try clear hk); (try clear hi); have hcz20_0 : w19.cell? ⟨gb883, 0, none⟩ = some (.string a1_0) := (blk_cell BK883.out 0).trans rfl; have hcz20_1 : w19.cell? ⟨gb883, 1, none⟩ = some (.string a1_1) := (blk_cell BK883.out 1).trans rfl; have hcz20_2 : w19.cell? ⟨gb883, 2, none⟩ = some (.int .i64 a1_2) := (blk_cell BK883.out 2).trans rfl; have hcz20_3 : w19.cell? ⟨gb883, 3, none⟩ = some (.int .i64 a1_3) := (blk_cell BK883.out 3).trans rfl; have hfz20_0 := blk_frozen BK883.out 0; have hfz20_1 := blk_frozen BK883.out 1; have hfz20_2 := blk_frozen BK883.out 2; have hfz20_3 := blk_frozen BK883.out 3) | ((with_reducible refine gate_dst (N := 36) rfl ?_); (try (refine gate_guard (by rfl) ?_; dsimp only)); refine Kd.R_lit k57 _ 57 ?hg (N := 36) ?hd (xs := ([(⟨a1_0, a1_1, (⟨a1_2, a1_3⟩ : S24)⟩ : S57)] : List (S57))) (inner := [.string a1_0, .string a1_1, .int .i64 a1_2, .int .i64 a1_3]) (ok := fun _ => True) (okp := fun _ => True) ?hr ?hp (fun _ hk => hk) trivial (Below.refl _ _) (Nat.le_refl _) (by simp) ?_; (case hd => rfl); (case hg => rfl); (case hr => first | (go_simp; done) | (go_simp; rfl)); (case hp => exact (Reps.c4 (show Kd.M k57 _ _ _ (⟨a1_0, a1_1, (⟨a1_2, a1_3⟩ : S24)⟩ : S57) [.string a1_0, .string a1_1, .int .i64 a1_2, .int .i64 a1_3] from (k57_mkM _ _ _ (⟨a1_0, a1_1, (⟨a1_2, a1_3⟩ : S24)⟩ : S57) )) (Reps.none _ _))); intro v892 w21 ho22 hb hg_ hnew_; clear hg_ hnew_; (first | rw [← Ny891.out] at ho22 | (simp only [Int.reduceToNat] at ho22; rw [← Ny891.out] at ho22)); have n0_ := Aside0.mk (Kd.R_elder' (by (with_reducible repeat (first | apply Kd.R_alloc | apply Kd.R_drewN | apply Kd.R_drew)); exact HO888.out) (Kd.R_base ho22) hb); have n1_ := Aside0.mk (Kd.R_lower (Kd.R_newB (Kd.R_new' ho22 (Kd.R_lt (by (with_reducible repeat (first | apply Kd.R_alloc | apply Kd.R_drewN | apply Kd.R_drew)); exact HO888.out))) (g := gb883) (o := .cells #[.string a1_0, .string a1_1, .int .i64 a1_2, .int .i64 a1_3] 57 (0, 0)) (by (with_reducible repeat (first | refine blk_drewN ?_ _ | refine blk_drew ?_ | refine blk_alloc ?_ _)); exact BK883.out)) (below_size (by repeat (first | (with_reducible first | exact HB.out | apply below_alloc | apply pw_below_drewN | apply below_drew1 | refine below_set ?_ GE883.out) | exact HB.out)))); have n2_ := Aside0.mk (blk_below (g := gb883) (o := .cells #[.string a1_0, .string a1_1, .int .i64 a1_2, .int .i64 a1_3] 57 (0, 0)) (by (with_reducible repeat (first | refine blk_drewN ?_ _ | refine blk_drew ?_ | refine blk_alloc ?_ _)); exact BK883.out) hb); have n3_ := Aside0.mk (below_step (by repeat (first | (with_reducible first | exact HB.out | apply below_alloc | apply pw_below_drewN | apply below_drew1 | refine below_set ?_ GE883.out) | exact HB.out)) hb); clear HO888; clear BK883; clear HB; have HO888 := n0_; have HO893 := n1_; have BK883 := n2_; have HB := n3_; clear n0_ n1_ n2_ n3_; clear hb ho22; obtain ⟨Ao23, co23, eo23⟩ := Kd.R_slice HO893.out; subst eo23) | (go_at_call 60; (with_reducible refine (pair_May.calls k _ _ y891 t894 _ ?side1 ?side2 A18.out).mono ?_); (case side1 => repeat (first | exact (Kd.R_reads' HO893.out).2.2 | (with_reducible refine Kd.C_alloc ?_ _) | (with_reducible refine Kd.C_drewN ?_ _) | (with_reducible refine Kd.C_drew ?_))); (case side2 => exact (Kd.R_reads' HO893.out).2.1); rintro e w24 ⟨rfl, hb⟩; have n0_ := Aside0.mk (Kd.R_below (by (with_reducible repeat (first | apply Kd.R_alloc | apply Kd.R_drewN | apply Kd.R_drew)); exact HO888.out) hb); have n1_ := Aside0.mk (Kd.R_below (by (with_reducible repeat (first | apply Kd.R_alloc | apply Kd.R_drewN | apply Kd.R_drew)); exact HO893.out) hb); have n2_ := Aside0.mk (blk_below (g := gb883) (o := .cells #[.string a1_0, .string a1_1, .int .i64 a1_2, .int .i64 a1_3] 57 (0, 0)) (by (with_reducible repeat (first | refine blk_drewN ?_ _ | refine blk_drew ?_ | refine blk_alloc ?_ _)); exact BK883.out) hb); have n3_ := Aside0.mk (below_step (by repeat (first | (with_reducible first | exact HB.out | apply below_alloc | apply pw_below_drewN | apply below_drew1 | refine below_set ?_ GE883.out) | exact HB.out)) hb); clear HO888; clear HO893; clear BK883; clear HB; have HO888 := n0_; have HO893 := n1_; have BK883 := n2_; have HB := n3_; clear n0_ n1_ n2_ n3_; (try clear hb); (try clear hb2); (try clear hk); (try clear hi)))
      go_meet
      case rel => exact ⟨_, (!t894), (by first | rfl | (simp; done) | (simp [*]; done)), H', ⟨by first | omega | exact Nat.le_refl _⟩, ⟨by (with_reducible repeat (first | refine blk_drewN ?_ _ | refine blk_drew ?_ | refine blk_alloc ?_ _)); exact BK883.out⟩, ⟨by repeat (first | (with_reducible first | exact HB.out | apply below_alloc | apply pw_below_drewN | apply below_drew1 | refine below_set ?_ GE883.out) | exact HB.out)⟩⟩
     ·replace c17 := Bool.eq_false_iff.mpr c17
      subst c17
      have H1 : (law08_PairElems.j0 k l0 true true a1_0 a1_1 a1_2 a1_3) = some r := by rw [if_neg (show ¬ (false = true) by decide)] at H; exact H
      clear H
      have H := H1
      clear H1
      have H' := Aside0.mk H
      clear H
      go_wp2_with (first | (go_at_call 60; (with_reducible refine (pair_May.calls k _ _ l0 false _ ?side1 ?side2 A16.out).mono ?_); (case side1 => repeat (first | exact (Kd.C_below HR0.out HB.out) | (with_reducible refine Kd.C_alloc ?_ _) | (with_reducible refine Kd.C_drewN ?_ _) | (with_reducible refine Kd.C_drew ?_))); (case side2 => exact HC0.out); rintro e w25 ⟨rfl, hb⟩; have n0_ := Aside0.mk (Kd.R_below (by (with_reducible repeat (first | apply Kd.R_alloc | apply Kd.R_drewN | apply Kd.R_drew)); exact HO888.out) hb); have n1_ := Aside0.mk (blk_below (g := gb883) (o := .cells #[.string a1_0, .string a1_1, .int .i64 a1_2, .int .i64 a1_3] 57 (0, 0)) (by (with_reducible repeat (first | refine blk_drewN ?_ _ | refine blk_drew ?_ | refine blk_alloc ?_ _)); exact BK883.out) hb); have n2_ := Aside0.mk (below_step (by repeat (first | (with_reducible first | exact HB.out | apply below_alloc | apply pw_below_drewN | apply below_drew1 | refine below_set ?_ GE883.out) | exact HB.out)) hb); clear HO888; clear BK883; clear HB; have HO888 := n0_; have BK883 := n1_; have HB := n2_; clear n0_ n1_ n2_; (try clear hb); (try clear hb2); (try clear hk); (try clear hi)))
      go_meet
      case rel => exact ⟨_, (true), (by first | rfl | (simp; done) | (simp [*]; done)), H', ⟨by first | omega | exact Nat.le_refl _⟩, ⟨by (with_reducible repeat (first | refine blk_drewN ?_ _ | refine blk_drew ?_ | refine blk_alloc ?_ _)); exact BK883.out⟩, ⟨by repeat (first | (with_reducible first | exact HB.out | apply below_alloc | apply pw_below_drewN | apply below_drew1 | refine below_set ?_ GE883.out) | exact HB.out)⟩⟩
    ·replace c15 := Bool.eq_false_iff.mpr c15
     subst c15
     have H1 : (law08_PairElems.j0 k l0 true true a1_0 a1_1 a1_2 a1_3) = some r := by rw [if_neg (show ¬ (false = true) by decide)] at H; exact H
     clear H
     have H := H1
     clear H1
     have H' := Aside0.mk H
     clear H
     go_wp2
     go_meet
     case rel => exact ⟨_, (true), (by first | rfl | (simp; done) | (simp [*]; done)), H', ⟨by first | omega | exact Nat.le_refl _⟩, ⟨by (with_reducible repeat (first | refine blk_drewN ?_ _ | refine blk_drew ?_ | refine blk_alloc ?_ _)); exact BK883.out⟩, ⟨by repeat (first | (with_reducible first | exact HB.out | apply below_alloc | apply pw_below_drewN | apply below_drew1 | refine below_set ?_ GE883.out) | exact HB.out)⟩⟩
   ·replace c14 := Bool.eq_false_iff.mpr c14
    subst c14
    have H1 : (law08_PairElems.j0 k l0 true true a1_0 a1_1 a1_2 a1_3) = some r := by rw [if_neg (show ¬ (false = true) by decide)] at H; exact H
    clear H
    have H := H1
    clear H1
    have H' := Aside0.mk H
    clear H
    go_wp2
    go_meet
    case rel => exact ⟨_, (true), (by first | rfl | (simp; done) | (simp [*]; done)), H', ⟨by first | omega | exact Nat.le_refl _⟩, ⟨by (with_reducible repeat (first | refine blk_drewN ?_ _ | refine blk_drew ?_ | refine blk_alloc ?_ _)); exact BK883.out⟩, ⟨by repeat (first | (with_reducible first | exact HB.out | apply below_alloc | apply pw_below_drewN | apply below_drew1 | refine below_set ?_ GE883.out) | exact HB.out)⟩⟩
  ·replace c13 := Bool.eq_false_iff.mpr c13
   subst c13
   have H1 : (law08_PairElems.j0 k l0 false true a1_0 a1_1 a1_2 a1_3) = some r := by rw [if_neg (show ¬ (false = true) by decide)] at H; exact H
   clear H
   have H := H1
   clear H1
   have H' := Aside0.mk H
   clear H
   go_wp2
   go_meet
   case rel => exact ⟨_, (true), (by first | rfl | (simp; done) | (simp [*]; done)), H', ⟨by first | omega | exact Nat.le_refl _⟩, ⟨by (with_reducible repeat (first | refine blk_drewN ?_ _ | refine blk_drew ?_ | refine blk_alloc ?_ _)); exact BK883.out⟩, ⟨by repeat (first | (with_reducible first | exact HB.out | apply below_alloc | apply pw_below_drewN | apply below_drew1 | refine below_set ?_ GE883.out) | exact HB.out)⟩⟩
 case rest =>
  clear HC6
  try clear c1
  try clear p2
  try clear c4
  try clear c13
  try clear c14
  try clear c15
  try clear c17
  try clear hcz20_0
  try clear hcz20_1
  try clear hcz20_2
  try clear hcz20_3
  try clear hcz9_0
  try clear hcz9_1
  try clear hcz9_2
  try clear hcz9_3
  try clear hfz20_0
  try clear hfz20_1
  try clear hfz20_2
  try clear hfz20_3
  try clear hfz9_0
  try clear hfz9_1
  try clear hfz9_2
  try clear hfz9_3
  obtain ⟨kq, x39_5, rfl, HA, HJ5, BK883, HB⟩ := hcut
  cases kq with
  | zero => exact absurd HA.out (by simp [law08_PairElems.j0])
  | succ kj5 =>
   have H := HA.out
   clear HA
   simp only [law08_PairElems.j0] at H
   by_cases c26 : x39_5 = true
   ·subst c26
    have H1 : (some t884) = some r := by rw [if_pos rfl] at H; exact H
    clear H
    have H := H1
    clear H1
    obtain rfl := Option.some.inj H
    go_wp2
    go_ret
    exact ⟨by first | rfl | (simp [errW_none, errW_some] <;> rfl) | (simp [*, errW_none, errW_some] <;> rfl), by repeat (first | (with_reducible first | exact HB.out | apply below_alloc | apply pw_below_drewN | apply below_drew1 | refine below_set ?_ GE883.out) | exact HB.out)⟩
   ·replace c26 := Bool.eq_false_iff.mpr c26
    subst c26
    have H1 : ((pair_Add.f l0 a1_0 a1_1 a1_2 a1_3).bind fun t895 => ((pair_Elems.f t895 a1_0).bind fun t898 => ((pair_Del.f l0 a1_0 a1_1).bind fun t901 => ((pair_Elems.f t901 a1_0).bind fun t904 => (law08_PairElems.l0 kj5 t898 t904 false 0 a1_0 a1_1 a1_2 a1_3))))) = some r := by rw [if_neg (show ¬ (false = true) by decide)] at H; exact H
    clear H
    have H := H1
    clear H1
    replace H := Option.bind_eq_some_iff.mp H
    obtain ⟨t895, A270, H⟩ := H
    replace H : ((pair_Elems.f t895 a1_0).bind fun t898 => ((pair_Del.f l0 a1_0 a1_1).bind fun t901 => ((pair_Elems.f t901 a1_0).bind fun t904 => (law08_PairElems.l0 kj5 t898 t904 false 0 a1_0 a1_1 a1_2 a1_3)))) = some r := H
    have A27 := Aside0.mk A270
    clear A270
    replace H := Option.bind_eq_some_iff.mp H
    obtain ⟨t898, A280, H⟩ := H
    replace H : ((pair_Del.f l0 a1_0 a1_1).bind fun t901 => ((pair_Elems.f t901 a1_0).bind fun t904 => (law08_PairElems.l0 kj5 t898 t904 false 0 a1_0 a1_1 a1_2 a1_3))) = some r := H
    have A28 := Aside0.mk A280
    clear A280
    replace H := Option.bind_eq_some_iff.mp H
    obtain ⟨t901, A290, H⟩ := H
    replace H : ((pair_Elems.f t901 a1_0).bind fun t904 => (law08_PairElems.l0 kj5 t898 t904 false 0 a1_0 a1_1 a1_2 a1_3)) = some r := H
    have A29 := Aside0.mk A290
    clear A290
    replace H := Option.bind_eq_some_iff.mp H
    obtain ⟨t904, A300, H⟩ := H
    replace H : (law08_PairElems.l0 kj5 t898 t904 false 0 a1_0 a1_1 a1_2 a1_3) = some r := H
    have A30 := Aside0.mk A300
    clear A300
    have H' := Aside0.mk H
    clear H
    try go_wp2
    have n0_ := Aside0.mk (blk_drew BK883.out)
    have n1_ := Aside0.mk (below_drew1 HB.out)
    clear BK883
    clear HB
    have BK883 := n0_
    have HB := n1_
    clear n0_ n1_
    refine start_ (n := 7) (S := fun w' => w'.cell? ⟨gb883, 0, none⟩ = some (.string a1_0) ∧ w'.cell? ⟨gb883, 1, none⟩ = some (.string a1_1) ∧ w'.cell? ⟨gb883, 2, none⟩ = some (.int .i64 a1_2) ∧ w'.cell? ⟨gb883, 3, none⟩ = some (.int .i64 a1_3)) (ds := []) #[false,false,false,false,false,false,false] (by kernel_rfl) rfl rfl ⟨(blk_cell BK883.out 0).trans rfl, (blk_cell BK883.out 1).trans rfl, (blk_cell BK883.out 2).trans rfl, (blk_cell BK883.out 3).trans rfl⟩ (fun hHeld => ?_)
    generalize wc.drew = w31 at BK883 HB hHeld ⊢
    refine pure_ (i := 0) (N := some 41) (v := ?_) (a' := ?_) #[true,false,false,false,false,false,false] rfl rfl (by kernel_rfl) (fun _ _ _ h => h) (Or.inl ⟨by rfl, ?_⟩) ?_ ?_
    rotate_left
    ·intro w'
     go_simp
     with_reducible rfl
    rotate_left
    ·simp only [Act.put, List.setIfInBounds_toArray, List.set_cons_zero, List.set_cons_succ, i64_w, i32_w]
     rfl
    refine pure_ (i := 3) (N := some 44) (v := ?_) (a' := ?_) #[true,false,false,true,false,false,false] rfl rfl (by kernel_rfl) (fun _ _ _ h => h) (Or.inl ⟨by rfl, ?_⟩) ?_ ?_
    rotate_left
    ·intro w'
     go_simp
     with_reducible rfl
    rotate_left
    ·simp only [Act.put, List.setIfInBounds_toArray, List.set_cons_zero, List.set_cons_succ, i64_w, i32_w]
     rfl
    refine take_ (i := 1) (N := some 42) (v := ?_) (a' := ?_) #[true,true,false,true,false,false,false] rfl rfl (by kernel_rfl) (fun _ _ _ h => h) (Or.inl ⟨by rfl, ?_⟩) hHeld ?_ ?_
    rotate_left
    ·rintro w' ⟨s0, s1, s2, s3⟩
     go_simp
     with_reducible rfl
    rotate_left
    ·simp only [Act.put, List.setIfInBounds_toArray, List.set_cons_zero, List.set_cons_succ, i64_w, i32_w]
     rfl
    refine take_ (i := 4) (N := some 45) (v := ?_) (a' := ?_) #[true,true,false,true,true,false,false] rfl rfl (by kernel_rfl) (fun _ _ _ h => h) (Or.inl ⟨by rfl, ?_⟩) hHeld ?_ ?_
    rotate_left
    ·rintro w' ⟨s0, s1, s2, s3⟩
     go_simp
     with_reducible rfl
    rotate_left
    ·simp only [Act.put, List.setIfInBounds_toArray, List.set_cons_zero, List.set_cons_succ, i64_w, i32_w]
     rfl
    refine one_ (i := 2) (N := some 43) #[true,true,true,true,true,false,false] rfl rfl (by kernel_rfl) (by decide) (fun K hK => ?_)
    refine goes_ Try.func49 (by kernel_rfl) rfl #[.slice A0 l0.length c0, .agg #[.string a1_0, .string a1_1, .int .i64 a1_2, .int .i64 a1_3]] (by rfl) rfl rfl (by (try simp only [List.map_toArray, List.map_cons, List.map_nil]); first | done | rfl | (simp only [List.length_drop, List.length_take]; rfl)) ?_
    with_reducible refine (pair_Add.calls _ _ l0 a1_0 a1_1 a1_2 a1_3 t895 _ ?side1 ?side2 A27.out).mono ?_
    (case side1 => repeat (first | exact (Kd.C_below HR0.out HB.out) | (with_reducible refine Kd.C_alloc ?_ _) | (with_reducible refine Kd.C_drewN ?_ _) | (with_reducible refine Kd.C_drew ?_)))
    (case side2 => exact HC0.out)
    rintro e w32 ⟨v896, rfl, ho0, hb⟩
    refine ⟨_, rfl, ?_⟩
    have n0_ := Aside0.mk (Kd.R_lower (Kd.R_newB ho0 (g := gb883) (o := .cells #[.string a1_0, .string a1_1, .int .i64 a1_2, .int .i64 a1_3] 57 (0, 0)) (by (with_reducible repeat (first | refine blk_drewN ?_ _ | refine blk_drew ?_ | refine blk_alloc ?_ _)); exact BK883.out)) (below_size (by repeat (first | (with_reducible first | exact HB.out | apply below_alloc | apply pw_below_drewN | apply below_drew1 | refine below_set ?_ GE883.out) | exact HB.out))))
    have n1_ := Aside0.mk (blk_below (g := gb883) (o := .cells #[.string a1_0, .string a1_1, .int .i64 a1_2, .int .i64 a1_3] 57 (0, 0)) (by (with_reducible repeat (first | refine blk_drewN ?_ _ | refine blk_drew ?_ | refine blk_alloc ?_ _)); exact BK883.out) hb)
    have n2_ := Aside0.mk (below_step (by repeat (first | (with_reducible first | exact HB.out | apply below_alloc | apply pw_below_drewN | apply below_drew1 | refine below_set ?_ GE883.out) | exact HB.out)) hb)
    clear BK883
    clear HB
    have HO897 := n0_
    have BK883 := n1_
    have HB := n2_
    clear n0_ n1_ n2_
    (try clear hb)
    (try clear hb2)
    (try clear hk)
    (try clear hi)
    (try clear ho0)
    obtain ⟨Ao33, co33, eo33⟩ := Kd.R_slice HO897.out
    (first | subst eo33 | (injection eo33 with f1_ f2_ f3_; have f4_ := f1_.symm; have f5_ := f3_.symm; clear f1_ f2_ f3_; subst f4_; subst f5_))
    refine hK.out _ _ ⟨(blk_cell BK883.out 0).trans rfl, (blk_cell BK883.out 1).trans rfl, (blk_cell BK883.out 2).trans rfl, (blk_cell BK883.out 3).trans rfl⟩ (fun hHeld => ?_)
    clear hK K
    refine norm_ (a' := ?_) ?_ ?_
    rotate_left
    ·show Act.put _ (some 43) _ = _
     simp only [Act.put, List.setIfInBounds_toArray, List.set_cons_zero, List.set_cons_succ, i64_w, i32_w]
     rfl
    refine one_ (i := 5) (N := some 46) #[true,true,true,true,true,true,false] rfl rfl (by kernel_rfl) (by decide) (fun K hK => ?_)
    refine goes_ Try.func56 (by kernel_rfl) rfl #[.slice Ao33 t895.length co33, .string a1_0] (by rfl) rfl rfl (by (try simp only [List.map_toArray, List.map_cons, List.map_nil]); first | done | rfl | (simp only [List.length_drop, List.length_take]; rfl)) ?_
    with_reducible refine (pair_Elems.calls _ _ t895 a1_0 t898 _ ?side1 ?side2 A28.out).mono ?_
    (case side1 => repeat (first | exact (Kd.R_reads' HO897.out).2.2 | (with_reducible refine Kd.C_alloc ?_ _) | (with_reducible refine Kd.C_drewN ?_ _) | (with_reducible refine Kd.C_drew ?_)))
    (case side2 => exact (Kd.R_reads' HO897.out).2.1)
    rintro e w34 ⟨v899, rfl, ho0, hb⟩
    refine ⟨_, rfl, ?_⟩
    have n0_ := Aside0.mk (Kd.R_below (by (with_reducible repeat (first | apply Kd.R_alloc | apply Kd.R_drewN | apply Kd.R_drew)); exact HO897.out) hb)
    have n1_ := Aside0.mk (Kd.R_lower ho0 (below_size (by repeat (first | (with_reducible first | exact HB.out | apply below_alloc | apply pw_below_drewN | apply below_drew1 | refine below_set ?_ GE883.out) | exact HB.out))))
    have n2_ := Aside0.mk (blk_below (g := gb883) (o := .cells #[.string a1_0, .string a1_1, .int .i64 a1_2, .int .i64 a1_3] 57 (0, 0)) (by (with_reducible repeat (first | refine blk_drewN ?_ _ | refine blk_drew ?_ | refine blk_alloc ?_ _)); exact BK883.out) hb)
    have n3_ := Aside0.mk (below_step (by repeat (first | (with_reducible first | exact HB.out | apply below_alloc | apply pw_below_drewN | apply below_drew1 | refine below_set ?_ GE883.out) | exact HB.out)) hb)
    clear HO897
    clear BK883
    clear HB
    have HO897 := n0_
    have HO900 := n1_
    have BK883 := n2_
    have HB := n3_
    clear n0_ n1_ n2_ n3_
    (try clear hb)
    (try clear hb2)
    (try clear hk)
    (try clear hi)
    (try clear ho0)
    refine hK.out _ _ ⟨(blk_cell BK883.out 0).trans rfl, (blk_cell BK883.out 1).trans rfl, (blk_cell BK883.out 2).trans rfl, (blk_cell BK883.out 3).trans rfl⟩ (fun hHeld => ?_)
    clear hK K
    refine norm_ (a' := ?_) ?_ ?_
    rotate_left
    ·show Act.put _ (some 46) _ = _
     simp only [Act.put, List.setIfInBounds_toArray, List.set_cons_zero, List.set_cons_succ, i64_w, i32_w]
     rfl
    refine pure_ (i := 6) (N := some 8) (v := ?_) (a' := ?_) #[true,true,true,true,true,true,true] rfl rfl (by kernel_rfl) (fun _ _ _ h => h) (Or.inl ⟨by rfl, ?_⟩) ?_ ?_
    rotate_left
    ·intro w'
     go_simp
     with_reducible rfl
    rotate_left
    ·simp only [Act.put, List.setIfInBounds_toArray, List.set_cons_zero, List.set_cons_succ, i64_w, i32_w]
     rfl
    refine done_ (by kernel_rfl) ?_
    try go_wp2
    have n0_ := Aside0.mk (Kd.R_drew HO897.out)
    have n1_ := Aside0.mk (Kd.R_drew HO900.out)
    have n2_ := Aside0.mk (blk_drew BK883.out)
    have n3_ := Aside0.mk (below_drew1 HB.out)
    clear HO897
    clear HO900
    clear BK883
    clear HB
    have HO897 := n0_
    have HO900 := n1_
    have BK883 := n2_
    have HB := n3_
    clear n0_ n1_ n2_ n3_
    refine start_ (n := 10) (S := fun w' => w'.cell? ⟨gb883, 0, none⟩ = some (.string a1_0) ∧ w'.cell? ⟨gb883, 1, none⟩ = some (.string a1_1) ∧ w'.cell? ⟨gb883, 2, none⟩ = some (.int .i64 a1_2) ∧ w'.cell? ⟨gb883, 3, none⟩ = some (.int .i64 a1_3)) (ds := []) #[false,false,false,false,false,false,false,false,false,false] (by kernel_rfl) rfl rfl ⟨(blk_cell BK883.out 0).trans rfl, (blk_cell BK883.out 1).trans rfl, (blk_cell BK883.out 2).trans rfl, (blk_cell BK883.out 3).trans rfl⟩ (fun hHeld => ?_); refine with_tabW law08_PairElems.tab7 law08_PairElems.bits7 (fun HT_ HW_ => ?_)
    generalize w34.drew = w35 at HO897 HO900 BK883 HB hHeld ⊢
    refine pure_ (i := 0) (N := some 47) (v := ?_) (a' := ?_) #[true,false,false,false,false,false,false,false,false,false] rfl rfl (any_of HT_.out (by kernel_rfl)) (fun _ _ _ h => h) (Or.inl ⟨by rfl, ?_⟩) ?_ ?_
    rotate_left
    ·intro w'
     go_simp
     with_reducible rfl
    rotate_left
    ·simp only [Act.put, List.setIfInBounds_toArray, List.set_cons_zero, List.set_cons_succ, i64_w, i32_w]
     rfl
    refine pure_ (i := 1) (N := some 48) (v := ?_) (a' := ?_) #[true,true,false,false,false,false,false,false,false,false] rfl rfl (any_of HT_.out (by kernel_rfl)) (fun _ _ _ h => h) (Or.inl ⟨by rfl, ?_⟩) ?_ ?_
    rotate_left
    ·intro w'
     go_simp
     with_reducible rfl
    rotate_left
    ·simp only [Act.put, List.setIfInBounds_toArray, List.set_cons_zero, List.set_cons_succ, i64_w, i32_w]
     rfl
    refine pure_ (i := 3) (N := some 50) (v := ?_) (a' := ?_) #[true,true,false,true,false,false,false,false,false,false] rfl rfl (any_of HT_.out (by kernel_rfl)) (fun _ _ _ h => h) (Or.inl ⟨by rfl, ?_⟩) ?_ ?_
    rotate_left
    ·intro w'
     go_simp
     with_reducible rfl
    rotate_left
    ·simp only [Act.put, List.setIfInBounds_toArray, List.set_cons_zero, List.set_cons_succ, i64_w, i32_w]
     rfl
    refine pure_ (i := 6) (N := some 53) (v := ?_) (a' := ?_) #[true,true,false,true,false,false,true,false,false,false] rfl rfl (any_of HT_.out (by kernel_rfl)) (fun _ _ _ h => h) (Or.inl ⟨by rfl, ?_⟩) ?_ ?_
    rotate_left
    ·intro w'
     go_simp
     with_reducible rfl
    rotate_left
    ·simp only [Act.put, List.setIfInBounds_toArray, List.set_cons_zero, List.set_cons_succ, i64_w, i32_w]
     rfl
    refine take_ (i := 2) (N := some 49) (v := ?_) (a' := ?_) #[true,true,true,true,false,false,true,false,false,false] rfl rfl (take_ofW HT_.out HW_.out (by kernel_rfl)) (fun _ _ _ h => h) (Or.inl ⟨by rfl, ?_⟩) hHeld ?_ ?_
    rotate_left
    ·rintro w' ⟨s0, s1, s2, s3⟩
     go_simp
     with_reducible rfl
    rotate_left
    ·simp only [Act.put, List.setIfInBounds_toArray, List.set_cons_zero, List.set_cons_succ, i64_w, i32_w]
     rfl
    refine take_ (i := 4) (N := some 51) (v := ?_) (a' := ?_) #[true,true,true,true,true,false,true,false,false,false] rfl rfl (take_ofW HT_.out HW_.out (by kernel_rfl)) (fun _ _ _ h => h) (Or.inl ⟨by rfl, ?_⟩) hHeld ?_ ?_
    rotate_left
    ·rintro w' ⟨s0, s1, s2, s3⟩
     go_simp
     with_reducible rfl
    rotate_left
    ·simp only [Act.put, List.setIfInBounds_toArray, List.set_cons_zero, List.set_cons_succ, i64_w, i32_w]
     rfl
    refine take_ (i := 7) (N := some 54) (v := ?_) (a' := ?_) #[true,true,true,true,true,false,true,true,false,false] rfl rfl (take_ofW HT_.out HW_.out (by kernel_rfl)) (fun _ _ _ h => h) (Or.inl ⟨by rfl, ?_⟩) hHeld ?_ ?_
    rotate_left
    ·rintro w' ⟨s0, s1, s2, s3⟩
     go_simp
     with_reducible rfl
    rotate_left
    ·simp only [Act.put, List.setIfInBounds_toArray, List.set_cons_zero, List.set_cons_succ, i64_w, i32_w]
     rfl
    refine one_ (i := 5) (N := some 52) #[true,true,true,true,true,true,true,true,false,false] rfl rfl (one_of HT_.out (by kernel_rfl)) (by decide) (fun K hK => ?_)
    refine goes_ Try.func51 (by kernel_rfl) rfl #[.slice A0 l0.length c0, .string a1_0, .string a1_1] (by rfl) rfl rfl (by (try simp only [List.map_toArray, List.map_cons, List.map_nil]); first | done | rfl | (simp only [List.length_drop, List.length_take]; rfl)) ?_
    with_reducible refine (pair_Del.calls _ _ l0 a1_0 a1_1 t901 _ ?side1 ?side2 A29.out).mono ?_
    (case side1 => repeat (first | exact (Kd.C_below HR0.out HB.out) | (with_reducible refine Kd.C_alloc ?_ _) | (with_reducible refine Kd.C_drewN ?_ _) | (with_reducible refine Kd.C_drew ?_)))
    (case side2 => exact HC0.out)
    rintro e w36 ⟨v902, rfl, ho0, hb⟩
    refine ⟨_, rfl, ?_⟩
    have n0_ := Aside0.mk (Kd.R_elder' (by (with_reducible repeat (first | apply Kd.R_alloc | apply Kd.R_drewN | apply Kd.R_drew)); exact HO897.out) (Kd.R_base ho0) hb)
    have n1_ := Aside0.mk (Kd.R_below (by (with_reducible repeat (first | apply Kd.R_alloc | apply Kd.R_drewN | apply Kd.R_drew)); exact HO900.out) hb)
    have n2_ := Aside0.mk (Kd.R_lower (Kd.R_newB (Kd.R_new' ho0 (Kd.R_lt (by (with_reducible repeat (first | apply Kd.R_alloc | apply Kd.R_drewN | apply Kd.R_drew)); exact HO897.out))) (g := gb883) (o := .cells #[.string a1_0, .string a1_1, .int .i64 a1_2, .int .i64 a1_3] 57 (0, 0)) (by (with_reducible repeat (first | refine blk_drewN ?_ _ | refine blk_drew ?_ | refine blk_alloc ?_ _)); exact BK883.out)) (below_size (by repeat (first | (with_reducible first | exact HB.out | apply below_alloc | apply pw_below_drewN | apply below_drew1 | refine below_set ?_ GE883.out) | exact HB.out))))
    have n3_ := Aside0.mk (blk_below (g := gb883) (o := .cells #[.string a1_0, .string a1_1, .int .i64 a1_2, .int .i64 a1_3] 57 (0, 0)) (by (with_reducible repeat (first | refine blk_drewN ?_ _ | refine blk_drew ?_ | refine blk_alloc ?_ _)); exact BK883.out) hb)
    have n4_ := Aside0.mk (below_step (by repeat (first | (with_reducible first | exact HB.out | apply below_alloc | apply pw_below_drewN | apply below_drew1 | refine below_set ?_ GE883.out) | exact HB.out)) hb)
    clear HO897
    clear HO900
    clear BK883
    clear HB
    have HO897 := n0_
    have HO900 := n1_
    have HO903 := n2_
    have BK883 := n3_
    have HB := n4_
    clear n0_ n1_ n2_ n3_ n4_
    (try clear hb)
    (try clear hb2)
    (try clear hk)
    (try clear hi)
    (try clear ho0)
    obtain ⟨Ao37, co37, eo37⟩ := Kd.R_slice HO903.out
    (first | subst eo37 | (injection eo37 with f1_ f2_ f3_; have f4_ := f1_.symm; have f5_ := f3_.symm; clear f1_ f2_ f3_; subst f4_; subst f5_))
    refine hK.out _ _ ⟨(blk_cell BK883.out 0).trans rfl, (blk_cell BK883.out 1).trans rfl, (blk_cell BK883.out 2).trans rfl, (blk_cell BK883.out 3).trans rfl⟩ (fun hHeld => ?_)
    clear hK K
    refine norm_ (a' := ?_) ?_ ?_
    rotate_left
    ·show Act.put _ (some 52) _ = _
     simp only [Act.put, List.setIfInBounds_toArray, List.set_cons_zero, List.set_cons_succ, i64_w, i32_w]
     rfl
    refine one_ (i := 8) (N := some 55) #[true,true,true,true,true,true,true,true,true,false] rfl rfl (one_of HT_.out (by kernel_rfl)) (by decide) (fun K hK => ?_)
    refine goes_ Try.func56 (by kernel_rfl) rfl #[.slice Ao37 t901.length co37, .string a1_0] (by rfl) rfl rfl (by (try simp only [List.map_toArray, List.map_cons, List.map_nil]); first | done | rfl | (simp only [List.length_drop, List.length_take]; rfl)) ?_
    with_reducible refine (pair_Elems.calls _ _ t901 a1_0 t904 _ ?side1 ?side2 A30.out).mono ?_
    (case side1 => repeat (first | exact (Kd.R_reads' HO903.out).2.2 | (with_reducible refine Kd.C_alloc ?_ _) | (with_reducible refine Kd.C_drewN ?_ _) | (with_reducible refine Kd.C_drew ?_)))
    (case side2 => exact (Kd.R_reads' HO903.out).2.1)
    rintro e w38 ⟨v905, rfl, ho0, hb⟩
    refine ⟨_, rfl, ?_⟩
    have n0_ := Aside0.mk (Kd.R_below (by (with_reducible repeat (first | apply Kd.R_alloc | apply Kd.R_drewN | apply Kd.R_drew)); exact HO897.out) hb)
    have n1_ := Aside0.mk (Kd.R_elder' (by (with_reducible repeat (first | apply Kd.R_alloc | apply Kd.R_drewN | apply Kd.R_drew)); exact HO900.out) (Kd.R_base ho0) hb)
    have n2_ := Aside0.mk (Kd.R_below (by (with_reducible repeat (first | apply Kd.R_alloc | apply Kd.R_drewN | apply Kd.R_drew)); exact HO903.out) hb)
    have n3_ := Aside0.mk (Kd.R_lower (Kd.R_new' ho0 (Kd.R_lt (by (with_reducible repeat (first | apply Kd.R_alloc | apply Kd.R_drewN | apply Kd.R_drew)); exact HO900.out))) (below_size (by repeat (first | (with_reducible first | exact HB.out | apply below_alloc | apply pw_below_drewN | apply below_drew1 | refine below_set ?_ GE883.out) | exact HB.out))))
    have n4_ := Aside0.mk (blk_below (g := gb883) (o := .cells #[.string a1_0, .string a1_1, .int .i64 a1_2, .int .i64 a1_3] 57 (0, 0)) (by (with_reducible repeat (first | refine blk_drewN ?_ _ | refine blk_drew ?_ | refine blk_alloc ?_ _)); exact BK883.out) hb)
    have n5_ := Aside0.mk (below_step (by repeat (first | (with_reducible first | exact HB.out | apply below_alloc | apply pw_below_drewN | apply below_drew1 | refine below_set ?_ GE883.out) | exact HB.out)) hb)
    clear HO897
    clear HO900
    clear HO903
    clear BK883
    clear HB
    have HO897 := n0_
    have HO900 := n1_
    have HO903 := n2_
    have HO906 := n3_
    have BK883 := n4_
    have HB := n5_
    clear n0_ n1_ n2_ n3_ n4_ n5_
    (try clear hb)
    (try clear hb2)
    (try clear hk)
    (try clear hi)
    (try clear ho0)
    refine hK.out _ _ ⟨(blk_cell BK883.out 0).trans rfl, (blk_cell BK883.out 1).trans rfl, (blk_cell BK883.out 2).trans rfl, (blk_cell BK883.out 3).trans rfl⟩ (fun hHeld => ?_)
    clear hK K
    refine norm_ (a' := ?_) ?_ ?_
    rotate_left
    ·show Act.put _ (some 55) _ = _
     simp only [Act.put, List.setIfInBounds_toArray, List.set_cons_zero, List.set_cons_succ, i64_w, i32_w]
     rfl
    refine pure_ (i := 9) (N := some 9) (v := ?_) (a' := ?_) #[true,true,true,true,true,true,true,true,true,true] rfl rfl (any_of HT_.out (by kernel_rfl)) (fun _ _ _ h => h) (Or.inl ⟨by rfl, ?_⟩) ?_ ?_
    rotate_left
    ·intro w'
     go_simp
     with_reducible rfl
    rotate_left
    ·simp only [Act.put, List.setIfInBounds_toArray, List.set_cons_zero, List.set_cons_succ, i64_w, i32_w]
     rfl
    refine done_ (done_of HT_.out (by kernel_rfl)) ?_
    try go_wp2
    go_loopg [10, 11] kj5 (fun kq v10 v11 w' => ∃ (x10_2 : Bool) (x11_2 : Int), v10 = .bool x10_2 ∧ v11 = .int .i64 x11_2 ∧ Aside0 (law08_PairElems.l0 kq t898 t904 x10_2 x11_2 a1_0 a1_1 a1_2 a1_3 = some r) ∧ Aside0 (kq ≤ kj5) ∧ Aside0 (Kd.R Kd.string 9 w' w.heap.size (fun k_ => some k_ ≠ (v905 : Value).ownBlock) v899 t898) ∧ Aside0 (Kd.R Kd.string 9 w' w.heap.size (fun k_ => some k_ ≠ (v899 : Value).ownBlock) v905 t904) ∧ Aside0 (w'.heap[gb883]? = some (.cells #[.string a1_0, .string a1_1, .int .i64 a1_2, .int .i64 a1_3] 57 (0, 0))) ∧ Aside0 (Below w.heap.size w w'))
    case atStart => exact ⟨(false), (0), (by first | rfl | (simp; done) | (simp [*]; done)), (by first | rfl | (simp; done) | (simp [*]; done)), H', ⟨Nat.le_refl _⟩, ⟨by (with_reducible repeat (first | apply Kd.R_alloc | apply Kd.R_drewN | apply Kd.R_drew)); exact Kd.R_mono HO900.out (fun _ hk => hk.2)⟩, ⟨by (with_reducible repeat (first | apply Kd.R_alloc | apply Kd.R_drewN | apply Kd.R_drew)); exact Kd.R_mono HO906.out (fun _ hk => hk.2)⟩, ⟨by (with_reducible repeat (first | refine blk_drewN ?_ _ | refine blk_drew ?_ | refine blk_alloc ?_ _)); exact BK883.out⟩, ⟨by repeat (first | (with_reducible first | exact HB.out | apply below_alloc | apply pw_below_drewN | apply below_drew1 | refine below_set ?_ GE883.out) | exact HB.out)⟩⟩
    case round =>
     clear H'
     try clear c1
     try clear c2
     try clear p2
     try clear c4
     try clear c5
     try clear c13
     try clear c14
     try clear c15
     try clear c17
     try clear c26
     try clear hcz20_0
     try clear hcz20_1
     try clear hcz20_2
     try clear hcz20_3
     try clear hcz9_0
     try clear hcz9_1
     try clear hcz9_2
     try clear hcz9_3
     try clear hfz20_0
     try clear hfz20_1
     try clear hfz20_2
     try clear hfz20_3
     try clear hfz9_0
     try clear hfz9_1
     try clear hfz9_2
     try clear hfz9_3
     try clear p2
     obtain ⟨x10_2, x11_2, rfl, rfl, HA, HK2, HO_8, HO_9, BK883, HB⟩ := hrel
     cases gk with
     | zero => exact absurd HA.out (by simp [law08_PairElems.l0])
     | succ k2 =>
      have H := HA.out
      clear HA
      simp only [law08_PairElems.l0] at H
      by_cases c39 : x11_2 < (t898.length : Int)
      ·rw [if_pos c39] at H
       have c39b0 : decide (x11_2 < (t898.length : Int)) = true := decide_eq_true c39
       clear c39
       by_cases c40 : x10_2 = true
       ·subst c40
        have H1 : (if x11_2 > 0 then (if 0 ≤ x11_2 then (if 0 ≤ (wrap64 (x11_2 - 1)) then (if (wrap64 (x11_2 - 1)) < (t898.length : Int) then (if ((Op.bytesLess ((rdOf ByteArray.empty t898 (wrap64 (x11_2 - 1))).toList) ((rdOf ByteArray.empty t898 x11_2).toList)) = true) then (law08_PairElems.l0 k2 t898 t904 true (wrap64 (x11_2 + 1)) a1_0 a1_1 a1_2 a1_3) else (some false)) else (none)) else (none)) else (none)) else (law08_PairElems.l0 k2 t898 t904 true (wrap64 (x11_2 + 1)) a1_0 a1_1 a1_2 a1_3)) = some r := by rw [if_pos rfl] at H; exact H
        clear H
        have H := H1
        clear H1
        by_cases c41 : x11_2 > 0
        ·rw [if_pos c41] at H
         have c41b0 : decide (0 < x11_2) = true := decide_eq_true c41
         clear c41
         by_cases c42 : 0 ≤ x11_2
         ·rw [if_pos c42] at H
          have c42b0 : decide (0 ≤ x11_2) = true := decide_eq_true c42
          clear c42
          obtain ⟨ji43, hji43⟩ : ∃ j_ : Int, (wrap64 (x11_2 - 1)) = j_ := ⟨_, rfl⟩
          replace H : (if 0 ≤ (ji43) then (if (ji43) < (t898.length : Int) then (if ((Op.bytesLess ((rdOf ByteArray.empty t898 (ji43)).toList) ((rdOf ByteArray.empty t898 x11_2).toList)) = true) then (law08_PairElems.l0 k2 t898 t904 true (wrap64 (x11_2 + 1)) a1_0 a1_1 a1_2 a1_3) else (some false)) else (none)) else (none)) = some r := by first | (rw [hji43] at H; exact H) | (simp only [hji43] at H ⊢; exact H)
          have hji43w : (IntKind.i64.wrap (x11_2 - 1)) = ji43 := (i64_w _).trans hji43
          by_cases c44 : 0 ≤ (ji43)
          ·rw [if_pos c44] at H
           have c44b0 : decide (0 ≤ (ji43)) = true := decide_eq_true c44
           clear c44
           by_cases c45 : (ji43) < (t898.length : Int)
           ·rw [if_pos c45] at H
            have c45b0 : decide ((ji43) < (t898.length : Int)) = true := decide_eq_true c45
            clear c45
            by_cases c46 : ((Op.bytesLess ((rdOf ByteArray.empty t898 (ji43)).toList) ((rdOf ByteArray.empty t898 x11_2).toList)) = true)
            ·rw [if_pos c46] at H
             have c46b0 : (Op.bytesLess ((rdOf ByteArray.empty t898 (ji43)).toList) ((rdOf ByteArray.empty t898 x11_2).toList)) = true := c46
             clear c46
             have H' := Aside0.mk H
             clear H
             obtain ⟨Ao47, co47, eo47⟩ := Kd.R_slice HO_8.out
             subst eo47
             try go_wp2
             have n0_ := Aside0.mk (Kd.R_drew HO_8.out)
             have n1_ := Aside0.mk (Kd.R_drew HO_9.out)
             have n2_ := Aside0.mk (blk_drew BK883.out)
             have n3_ := Aside0.mk (below_drew1 HB.out)
             clear HO_8
             clear HO_9
             clear BK883
             clear HB
             have HO_8 := n0_
             have HO_9 := n1_
             have BK883 := n2_
             have HB := n3_
             clear n0_ n1_ n2_ n3_
             refine start_ (n := 11) (S := fun w' => True) (ds := []) #[false,false,false,false,false,false,false,false,false,false,false] (by kernel_rfl) rfl rfl trivial (fun hHeld => ?_); refine with_tabW law08_PairElems.tab12 law08_PairElems.bits12 (fun HT_ HW_ => ?_)
             generalize wr.drew = w48 at HO_8 HO_9 BK883 HB hHeld ⊢
             refine pure_ (i := 0) (N := some 62) (v := ?_) (a' := ?_) #[true,false,false,false,false,false,false,false,false,false,false] rfl rfl (any_of HT_.out (by kernel_rfl)) (fun _ _ _ h => h) (Or.inl ⟨by rfl, ?_⟩) ?_ ?_
             rotate_left
             ·intro w'
              go_simp
              with_reducible rfl
             rotate_left
             ·simp only [Act.put, List.setIfInBounds_toArray, List.set_cons_zero, List.set_cons_succ, i64_w, i32_w]
              rfl
             refine pure_ (i := 1) (N := some 63) (v := ?_) (a' := ?_) #[true,true,false,false,false,false,false,false,false,false,false] rfl rfl (any_of HT_.out (by kernel_rfl)) (fun _ _ _ h => h) (Or.inl ⟨by rfl, ?_⟩) ?_ ?_
             rotate_left
             ·intro w'
              go_simp
              with_reducible rfl
             rotate_left
             ·simp only [Act.put, List.setIfInBounds_toArray, List.set_cons_zero, List.set_cons_succ, i64_w, i32_w]
              rfl
             refine pure_ (i := 2) (N := some 64) (v := undef) (a' := ?_) #[true,true,true,false,false,false,false,false,false,false,false] rfl rfl (any_of HT_.out (by kernel_rfl)) (fun _ _ _ h => h) (Or.inr ⟨by rfl, rfl⟩) ?_ ?_
             rotate_left
             ·simp only [Act.put, List.setIfInBounds_toArray, List.set_cons_zero, List.set_cons_succ, i64_w, i32_w]
              rfl
             refine pure_ (i := 3) (N := some 65) (v := undef) (a' := ?_) #[true,true,true,true,false,false,false,false,false,false,false] rfl rfl (any_of HT_.out (by kernel_rfl)) (fun _ _ _ h => h) (Or.inr ⟨by rfl, rfl⟩) ?_ ?_
             rotate_left
             ·simp only [Act.put, List.setIfInBounds_toArray, List.set_cons_zero, List.set_cons_succ, i64_w, i32_w]
              rfl
             refine pure_ (i := 4) (N := some 66) (v := undef) (a' := ?_) #[true,true,true,true,true,false,false,false,false,false,false] rfl rfl (any_of HT_.out (by kernel_rfl)) (fun _ _ _ h => h) (Or.inr ⟨by rfl, rfl⟩) ?_ ?_
             rotate_left
             ·simp only [Act.put, List.setIfInBounds_toArray, List.set_cons_zero, List.set_cons_succ, i64_w, i32_w]
              rfl
             refine pure_ (i := 5) (N := some 67) (v := undef) (a' := ?_) #[true,true,true,true,true,true,false,false,false,false,false] rfl rfl (any_of HT_.out (by kernel_rfl)) (fun _ _ _ h => h) (Or.inr ⟨by rfl, rfl⟩) ?_ ?_
             rotate_left
             ·simp only [Act.put, List.setIfInBounds_toArray, List.set_cons_zero, List.set_cons_succ, i64_w, i32_w]
              rfl
             refine pure_ (i := 6) (N := some 68) (v := undef) (a' := ?_) #[true,true,true,true,true,true,true,false,false,false,false] rfl rfl (any_of HT_.out (by kernel_rfl)) (fun _ _ _ h => h) (Or.inr ⟨by rfl, rfl⟩) ?_ ?_
             rotate_left
             ·simp only [Act.put, List.setIfInBounds_toArray, List.set_cons_zero, List.set_cons_succ, i64_w, i32_w]
              rfl
             refine pure_ (i := 7) (N := some 69) (v := undef) (a' := ?_) #[true,true,true,true,true,true,true,true,false,false,false] rfl rfl (any_of HT_.out (by kernel_rfl)) (fun _ _ _ h => h) (Or.inr ⟨by rfl, rfl⟩) ?_ ?_
             rotate_left
             ·simp only [Act.put, List.setIfInBounds_toArray, List.set_cons_zero, List.set_cons_succ, i64_w, i32_w]
              rfl
             refine pure_ (i := 8) (N := some 70) (v := undef) (a' := ?_) #[true,true,true,true,true,true,true,true,true,false,false] rfl rfl (any_of HT_.out (by kernel_rfl)) (fun _ _ _ h => h) (Or.inr ⟨by rfl, rfl⟩) ?_ ?_
             rotate_left
             ·simp only [Act.put, List.setIfInBounds_toArray, List.set_cons_zero, List.set_cons_succ, i64_w, i32_w]
              rfl
             refine pure_ (i := 9) (N := some 71) (v := ?_) (a' := ?_) #[true,true,true,true,true,true,true,true,true,true,false] rfl rfl (any_of HT_.out (by kernel_rfl)) (fun _ _ _ h => h) (Or.inl ⟨by rfl, ?_⟩) ?_ ?_
             rotate_left
             ·intro w'
              go_simp
              with_reducible rfl
             rotate_left
             ·simp only [Act.put, List.setIfInBounds_toArray, List.set_cons_zero, List.set_cons_succ, i64_w, i32_w]
              rfl
             refine pure_ (i := 10) (N := some 10) (v := ?_) (a' := ?_) #[true,true,true,true,true,true,true,true,true,true,true] rfl rfl (any_of HT_.out (by kernel_rfl)) (fun _ _ _ h => h) (Or.inl ⟨by rfl, ?_⟩) ?_ ?_
             rotate_left
             ·intro w'
              go_simp
              with_reducible rfl
             rotate_left
             ·simp only [Act.put, List.setIfInBounds_toArray, List.set_cons_zero, List.set_cons_succ, i64_w, i32_w]
              rfl
             refine done_ (done_of HT_.out (by kernel_rfl)) ?_
             try go_wp2
             have n0_ := Aside0.mk (Kd.R_drew HO_8.out)
             have n1_ := Aside0.mk (Kd.R_drew HO_9.out)
             have n2_ := Aside0.mk (blk_drew BK883.out)
             have n3_ := Aside0.mk (below_drew1 HB.out)
             clear HO_8
             clear HO_9
             clear BK883
             clear HB
             have HO_8 := n0_
             have HO_9 := n1_
             have BK883 := n2_
             have HB := n3_
             clear n0_ n1_ n2_ n3_
             have p907 : 0 ≤ (x11_2 : Int) := of_decide_eq_true (by first | (with_reducible assumption) | assumption)
             have q907 : x11_2 < (t898.length : Int) := of_decide_eq_true (by first | (with_reducible assumption) | assumption)
             obtain ⟨ad907, e907, hx907_0⟩ := Kd.at_string (Kd.R_reads' HO_8.out).2.2 x11_2 p907 q907
             cases e907
             replace p907 := eq_true p907
             replace q907 := eq_true q907
             have p908 : 0 ≤ ((ji43) : Int) := of_decide_eq_true (by first | (with_reducible assumption) | assumption)
             have q908 : (ji43) < (t898.length : Int) := of_decide_eq_true (by first | (with_reducible assumption) | assumption)
             obtain ⟨ad908, e908, hx908_0⟩ := Kd.at_string (Kd.R_reads' HO_8.out).2.2 (ji43) p908 q908
             obtain rfl : ad907 = ad908 := (by injection e908)
             replace p908 := eq_true p908
             replace q908 := eq_true q908
             refine start_ (n := 14) (S := fun w' => w'.cell? (ad907.add (x11_2).toNat) = some (.string (rdOf ByteArray.empty t898 x11_2)) ∧ w'.cell? (ad907.add ((ji43)).toNat) = some (.string (rdOf ByteArray.empty t898 (ji43)))) (ds := []) #[false,false,false,false,false,false,false,false,false,false,false,false,false,false] (by kernel_rfl) rfl rfl ⟨hx907_0, hx908_0⟩ (fun hHeld => ?_); refine with_tabW law08_PairElems.tab13 law08_PairElems.bits13 (fun HT_ HW_ => ?_)
             generalize w48.drew = w49 at HO_8 HO_9 BK883 HB hx907_0 hx908_0 hHeld ⊢
             refine pure_ (i := 0) (N := some 72) (v := ?_) (a' := ?_) #[true,false,false,false,false,false,false,false,false,false,false,false,false,false] rfl rfl (any_of HT_.out (by kernel_rfl)) (fun _ _ _ h => h) (Or.inl ⟨by rfl, ?_⟩) ?_ ?_
             rotate_left
             ·intro w'
              go_simp
              with_reducible rfl
             rotate_left
             ·simp only [Act.put, List.setIfInBounds_toArray, List.set_cons_zero, List.set_cons_succ, i64_w, i32_w]
              rfl
             refine pure_ (i := 1) (N := some 73) (v := ?_) (a' := ?_) #[true,true,false,false,false,false,false,false,false,false,false,false,false,false] rfl rfl (any_of HT_.out (by kernel_rfl)) (fun _ _ _ h => h) (Or.inl ⟨by rfl, ?_⟩) ?_ ?_
             rotate_left
             ·intro w'
              go_simp
              with_reducible rfl
             rotate_left
             ·simp only [Act.put, List.setIfInBounds_toArray, List.set_cons_zero, List.set_cons_succ, i64_w, i32_w]
              rfl
             refine pure_ (i := 2) (N := some 74) (v := ?_) (a' := ?_) #[true,true,true,false,false,false,false,false,false,false,false,false,false,false] rfl rfl (any_of HT_.out (by kernel_rfl)) (fun _ _ _ h => h) (Or.inl ⟨by rfl, ?_⟩) ?_ ?_
             rotate_left
             ·intro w'
              go_simp
              with_reducible rfl
             rotate_left
             ·simp only [Act.put, List.setIfInBounds_toArray, List.set_cons_zero, List.set_cons_succ, i64_w, i32_w]
              rfl
             refine pure_ (i := 3) (N := some 75) (v := ?_) (a' := ?_) #[true,true,true,true,false,false,false,false,false,false,false,false,false,false] rfl rfl (any_of HT_.out (by kernel_rfl)) (fun _ _ _ h => h) (Or.inl ⟨by rfl, ?_⟩) ?_ ?_
             rotate_left
             ·intro w'
              go_simp
              with_reducible rfl
             rotate_left
             ·simp only [Act.put, List.setIfInBounds_toArray, List.set_cons_zero, List.set_cons_succ, i64_w, i32_w]
              rfl
             refine pure_ (i := 4) (N := some 76) (v := ?_) (a' := ?_) #[true,true,true,true,true,false,false,false,false,false,false,false,false,false] rfl rfl (any_of HT_.out (by kernel_rfl)) (fun _ _ _ h => h) (Or.inl ⟨by rfl, ?_⟩) ?_ ?_
             rotate_left
             ·intro w'
              go_simp
              with_reducible rfl
             rotate_left
             ·simp only [Act.put, List.setIfInBounds_toArray, List.set_cons_zero, List.set_cons_succ, i64_w, i32_w]
              rfl
             refine pure_ (i := 5) (N := some 77) (v := ?_) (a' := ?_) #[true,true,true,true,true,true,false,false,false,false,false,false,false,false] rfl rfl (any_of HT_.out (by kernel_rfl)) (fun _ _ _ h => h) (Or.inl ⟨by rfl, ?_⟩) ?_ ?_
             rotate_left
             ·intro w'
              go_simp
              with_reducible rfl
             rotate_left
             ·simp only [Act.put, List.setIfInBounds_toArray, List.set_cons_zero, List.set_cons_succ, i64_w, i32_w]
              rfl
             refine pure_ (i := 7) (N := some 79) (v := ?_) (a' := ?_) #[true,true,true,true,true,true,false,true,false,false,false,false,false,false] rfl rfl (any_of HT_.out (by kernel_rfl)) (fun _ _ _ h => h) (Or.inl ⟨by rfl, ?_⟩) ?_ ?_
             rotate_left
             ·intro w'
              go_simp
              with_reducible rfl
             rotate_left
             ·simp only [Act.put, List.setIfInBounds_toArray, List.set_cons_zero, List.set_cons_succ, i64_w, i32_w]
              rfl
             refine pure_ (i := 8) (N := some 80) (v := ?_) (a' := ?_) #[true,true,true,true,true,true,false,true,true,false,false,false,false,false] rfl rfl (any_of HT_.out (by kernel_rfl)) (fun _ _ _ h => h) (Or.inl ⟨by rfl, ?_⟩) ?_ ?_
             rotate_left
             ·intro w'
              go_simp
              with_reducible rfl
             rotate_left
             ·simp only [Act.put, List.setIfInBounds_toArray, List.set_cons_zero, List.set_cons_succ, i64_w, i32_w]
              rfl
             refine pure_ (i := 9) (N := some 81) (v := ?_) (a' := ?_) #[true,true,true,true,true,true,false,true,true,true,false,false,false,false] rfl rfl (any_of HT_.out (by kernel_rfl)) (fun _ _ _ h => h) (Or.inl ⟨by rfl, ?_⟩) ?_ ?_
             rotate_left
             ·intro w'
              go_simp
              with_reducible rfl
             rotate_left
             ·simp only [Act.put, List.setIfInBounds_toArray, List.set_cons_zero, List.set_cons_succ, i64_w, i32_w]
              rfl
             refine pure_ (i := 10) (N := some 82) (v := ?_) (a' := ?_) #[true,true,true,true,true,true,false,true,true,true,true,false,false,false] rfl rfl (any_of HT_.out (by kernel_rfl)) (fun _ _ _ h => h) (Or.inl ⟨by rfl, ?_⟩) ?_ ?_
             rotate_left
             ·intro w'
              go_simp
              with_reducible rfl
             rotate_left
             ·simp only [Act.put, List.setIfInBounds_toArray, List.set_cons_zero, List.set_cons_succ, i64_w, i32_w]
              rfl
             refine take_ (i := 6) (N := some 78) (v := ?_) (a' := ?_) #[true,true,true,true,true,true,true,true,true,true,true,false,false,false] rfl rfl (take_ofW HT_.out HW_.out (by kernel_rfl)) (fun _ _ _ h => h) (Or.inl ⟨by rfl, ?_⟩) hHeld ?_ ?_
             rotate_left
             ·rintro w' ⟨s0, s1⟩
              go_simp
              with_reducible rfl
             rotate_left
             ·simp only [Act.put, List.setIfInBounds_toArray, List.set_cons_zero, List.set_cons_succ, i64_w, i32_w]
              rfl
             refine take_ (i := 11) (N := some 83) (v := ?_) (a' := ?_) #[true,true,true,true,true,true,true,true,true,true,true,true,false,false] rfl rfl (take_ofW HT_.out HW_.out (by kernel_rfl)) (fun _ _ _ h => h) (Or.inl ⟨by rfl, ?_⟩) hHeld ?_ ?_
             rotate_left
             ·rintro w' ⟨s0, s1⟩
              go_simp
              with_reducible rfl
             rotate_left
             ·simp only [Act.put, List.setIfInBounds_toArray, List.set_cons_zero, List.set_cons_succ, i64_w, i32_w]
              rfl
             refine pure_ (i := 12) (N := some 84) (v := ?_) (a' := ?_) #[true,true,true,true,true,true,true,true,true,true,true,true,true,false] rfl rfl (any_of HT_.out (by kernel_rfl)) (fun _ _ _ h => h) (Or.inl ⟨by rfl, ?_⟩) ?_ ?_
             rotate_left
             ·intro w'
              go_simp
              with_reducible rfl
             rotate_left
             ·simp only [Act.put, List.setIfInBounds_toArray, List.set_cons_zero, List.set_cons_succ, i64_w, i32_w]
              rfl
             refine pure_ (i := 13) (N := some 85) (v := ?_) (a' := ?_) #[true,true,true,true,true,true,true,true,true,true,true,true,true,true] rfl rfl (any_of HT_.out (by kernel_rfl)) (fun _ _ _ h => h) (Or.inl ⟨by rfl, ?_⟩) ?_ ?_
             rotate_left
             ·intro w'
              go_simp
              with_reducible rfl
             rotate_left
             ·simp only [Act.put, List.setIfInBounds_toArray, List.set_cons_zero, List.set_cons_succ, i64_w, i32_w]
              rfl
             refine done_ (done_of HT_.out (by kernel_rfl)) ?_
             try go_wp2
             go_roundg k2
             case measure => have := HJ5.out; have := HK2.out; omega
             case rel => exact ⟨(true), (wrap64 (x11_2 + 1)), (by first | rfl | (simp; done) | (simp [*]; done)), (by first | rfl | (simp; done) | (simp [*]; done)), H', ⟨by have := HJ5.out; have := HK2.out; omega⟩, ⟨by (with_reducible repeat (first | apply Kd.R_alloc | apply Kd.R_drewN | apply Kd.R_drew)); exact HO_8.out⟩, ⟨by (with_reducible repeat (first | apply Kd.R_alloc | apply Kd.R_drewN | apply Kd.R_drew)); exact HO_9.out⟩, ⟨by (with_reducible repeat (first | refine blk_drewN ?_ _ | refine blk_drew ?_ | refine blk_alloc ?_ _)); exact BK883.out⟩, ⟨by repeat (first | (with_reducible first | exact HB.out | apply below_alloc | apply pw_below_drewN | apply below_drew1 | refine below_set ?_ GE883.out) | exact HB.out)⟩⟩
            ·rw [if_neg c46] at H
             have c46b0 : (Op.bytesLess ((rdOf ByteArray.empty t898 (ji43)).toList) ((rdOf ByteArray.empty t898 x11_2).toList)) = false := by simpa using c46
             clear c46
             obtain rfl := Option.some.inj H
             obtain ⟨Ao50, co50, eo50⟩ := Kd.R_slice HO_8.out
             subst eo50
             try go_wp2
             have n0_ := Aside0.mk (Kd.R_drew HO_8.out)
             have n1_ := Aside0.mk (Kd.R_drew HO_9.out)
             have n2_ := Aside0.mk (blk_drew BK883.out)
             have n3_ := Aside0.mk (below_drew1 HB.out)
             clear HO_8
             clear HO_9
             clear BK883
             clear HB
             have HO_8 := n0_
             have HO_9 := n1_
             have BK883 := n2_
             have HB := n3_
             clear n0_ n1_ n2_ n3_
             refine start_ (n := 11) (S := fun w' => True) (ds := []) #[false,false,false,false,false,false,false,false,false,false,false] (by kernel_rfl) rfl rfl trivial (fun hHeld => ?_); refine with_tabW law08_PairElems.tab12 law08_PairElems.bits12 (fun HT_ HW_ => ?_)
             generalize wr.drew = w51 at HO_8 HO_9 BK883 HB hHeld ⊢
             refine pure_ (i := 0) (N := some 62) (v := ?_) (a' := ?_) #[true,false,false,false,false,false,false,false,false,false,false] rfl rfl (any_of HT_.out (by kernel_rfl)) (fun _ _ _ h => h) (Or.inl ⟨by rfl, ?_⟩) ?_ ?_
             rotate_left
             ·intro w'
              go_simp
              with_reducible rfl
             rotate_left
             ·simp only [Act.put, List.setIfInBounds_toArray, List.set_cons_zero, List.set_cons_succ, i64_w, i32_w]
              rfl
             refine pure_ (i := 1) (N := some 63) (v := ?_) (a' := ?_) #[true,true,false,false,false,false,false,false,false,false,false] rfl rfl (any_of HT_.out (by kernel_rfl)) (fun _ _ _ h => h) (Or.inl ⟨by rfl, ?_⟩) ?_ ?_
             rotate_left
             ·intro w'
              go_simp
              with_reducible rfl
             rotate_left
             ·simp only [Act.put, List.setIfInBounds_toArray, List.set_cons_zero, List.set_cons_succ, i64_w, i32_w]
              rfl
             refine pure_ (i := 2) (N := some 64) (v := undef) (a' := ?_) #[true,true,true,false,false,false,false,false,false,false,false] rfl rfl (any_of HT_.out (by kernel_rfl)) (fun _ _ _ h => h) (Or.inr ⟨by rfl, rfl⟩) ?_ ?_
             rotate_left
             ·simp only [Act.put, List.setIfInBounds_toArray, List.set_cons_zero, List.set_cons_succ, i64_w, i32_w]
              rfl
             refine pure_ (i := 3) (N := some 65) (v := undef) (a' := ?_) #[true,true,true,true,false,false,false,false,false,false,false] rfl rfl (any_of HT_.out (by kernel_rfl)) (fun _ _ _ h => h) (Or.inr ⟨by rfl, rfl⟩) ?_ ?_
             rotate_left
             ·simp only [Act.put, List.setIfInBounds_toArray, List.set_cons_zero, List.set_cons_succ, i64_w, i32_w]
              rfl
             refine pure_ (i := 4) (N := some 66) (v := undef) (a' := ?_) #[true,true,true,true,true,false,false,false,false,false,false] rfl rfl (any_of HT_.out (by kernel_rfl)) (fun _ _ _ h => h) (Or.inr ⟨by rfl, rfl⟩) ?_ ?_
             rotate_left
             ·simp only [Act.put, List.setIfInBounds_toArray, List.set_cons_zero, List.set_cons_succ, i64_w, i32_w]
              rfl
             refine pure_ (i := 5) (N := some 67) (v := undef) (a' := ?_) #[true,true,true,true,true,true,false,false,false,false,false] rfl rfl (any_of HT_.out (by kernel_rfl)) (fun _ _ _ h => h) (Or.inr ⟨by rfl, rfl⟩) ?_ ?_
             rotate_left
             ·simp only [Act.put, List.setIfInBounds_toArray, List.set_cons_zero, List.set_cons_succ, i64_w, i32_w]
              rfl
             refine pure_ (i := 6) (N := some 68) (v := undef) (a' := ?_) #[true,true,true,true,true,true,true,false,false,false,false] rfl rfl (any_of HT_.out (by kernel_rfl)) (fun _ _ _ h => h) (Or.inr ⟨by rfl, rfl⟩) ?_ ?_
             rotate_left
             ·simp only [Act.put, List.setIfInBounds_toArray, List.set_cons_zero, List.set_cons_succ, i64_w, i32_w]
              rfl
             refine pure_ (i := 7) (N := some 69) (v := undef) (a' := ?_) #[true,true,true,true,true,true,true,true,false,false,false] rfl rfl (any_of HT_.out (by kernel_rfl)) (fun _ _ _ h => h) (Or.inr ⟨by rfl, rfl⟩) ?_ ?_
             rotate_left
             ·simp only [Act.put, List.setIfInBounds_toArray, List.set_cons_zero, List.set_cons_succ, i64_w, i32_w]
              rfl
             refine pure_ (i := 8) (N := some 70) (v := undef) (a' := ?_) #[true,true,true,true,true,true,true,true,true,false,false] rfl rfl (any_of HT_.out (by kernel_rfl)) (fun _ _ _ h => h) (Or.inr ⟨by rfl, rfl⟩) ?_ ?_
             rotate_left
             ·simp only [Act.put, List.setIfInBounds_toArray, List.set_cons_zero, List.set_cons_succ, i64_w, i32_w]
              rfl
             refine pure_ (i := 9) (N := some 71) (v := ?_) (a' := ?_) #[true,true,true,true,true,true,true,true,true,true,false] rfl rfl (any_of HT_.out (by kernel_rfl)) (fun _ _ _ h => h) (Or.inl ⟨by rfl, ?_⟩) ?_ ?_
             rotate_left
             ·intro w'
              go_simp
              with_reducible rfl
             rotate_left
             ·simp only [Act.put, List.setIfInBounds_toArray, List.set_cons_zero, List.set_cons_succ, i64_w, i32_w]
              rfl
             refine pure_ (i := 10) (N := some 10) (v := ?_) (a' := ?_) #[true,true,true,true,true,true,true,true,true,true,true] rfl rfl (any_of HT_.out (by kernel_rfl)) (fun _ _ _ h => h) (Or.inl ⟨by rfl, ?_⟩) ?_ ?_
             rotate_left
             ·intro w'
              go_simp
              with_reducible rfl
             rotate_left
             ·simp only [Act.put, List.setIfInBounds_toArray, List.set_cons_zero, List.set_cons_succ, i64_w, i32_w]
              rfl
             refine done_ (done_of HT_.out (by kernel_rfl)) ?_
             try go_wp2
             have n0_ := Aside0.mk (Kd.R_drew HO_8.out)
             have n1_ := Aside0.mk (Kd.R_drew HO_9.out)
             have n2_ := Aside0.mk (blk_drew BK883.out)
             have n3_ := Aside0.mk (below_drew1 HB.out)
             clear HO_8
             clear HO_9
             clear BK883
             clear HB
             have HO_8 := n0_
             have HO_9 := n1_
             have BK883 := n2_
             have HB := n3_
             clear n0_ n1_ n2_ n3_
             have p907 : 0 ≤ (x11_2 : Int) := of_decide_eq_true (by first | (with_reducible assumption) | assumption)
             have q907 : x11_2 < (t898.length : Int) := of_decide_eq_true (by first | (with_reducible assumption) | assumption)
             obtain ⟨ad907, e907, hx907_0⟩ := Kd.at_string (Kd.R_reads' HO_8.out).2.2 x11_2 p907 q907
             cases e907
             replace p907 := eq_true p907
             replace q907 := eq_true q907
             have p908 : 0 ≤ ((ji43) : Int) := of_decide_eq_true (by first | (with_reducible assumption) | assumption)
             have q908 : (ji43) < (t898.length : Int) := of_decide_eq_true (by first | (with_reducible assumption) | assumption)
             obtain ⟨ad908, e908, hx908_0⟩ := Kd.at_string (Kd.R_reads' HO_8.out).2.2 (ji43) p908 q908
             obtain rfl : ad907 = ad908 := (by injection e908)
             replace p908 := eq_true p908
             replace q908 := eq_true q908
             refine start_ (n := 14) (S := fun w' => w'.cell? (ad907.add (x11_2).toNat) = some (.string (rdOf ByteArray.empty t898 x11_2)) ∧ w'.cell? (ad907.add ((ji43)).toNat) = some (.string (rdOf ByteArray.empty t898 (ji43)))) (ds := []) #[false,false,false,false,false,false,false,false,false,false,false,false,false,false] (by kernel_rfl) rfl rfl ⟨hx907_0, hx908_0⟩ (fun hHeld => ?_); refine with_tabW law08_PairElems.tab13 law08_PairElems.bits13 (fun HT_ HW_ => ?_)
             generalize w51.drew = w52 at HO_8 HO_9 BK883 HB hx907_0 hx908_0 hHeld ⊢
             refine pure_ (i := 0) (N := some 72) (v := ?_) (a' := ?_) #[true,false,false,false,false,false,false,false,false,false,false,false,false,false] rfl rfl (any_of HT_.out (by kernel_rfl)) (fun _ _ _ h => h) (Or.inl ⟨by rfl, ?_⟩) ?_ ?_
             rotate_left
             ·intro w'
              go_simp
              with_reducible rfl
             rotate_left
             ·simp only [Act.put, List.setIfInBounds_toArray, List.set_cons_zero, List.set_cons_succ, i64_w, i32_w]
              rfl
             refine pure_ (i := 1) (N := some 73) (v := ?_) (a' := ?_) #[true,true,false,false,false,false,false,false,false,false,false,false,false,false] rfl rfl (any_of HT_.out (by kernel_rfl)) (fun _ _ _ h => h) (Or.inl ⟨by rfl, ?_⟩) ?_ ?_
             rotate_left
             ·intro w'
              go_simp
              with_reducible rfl
             rotate_left
             ·simp only [Act.put, List.setIfInBounds_toArray, List.set_cons_zero, List.set_cons_succ, i64_w, i32_w]
              rfl
             refine pure_ (i := 2) (N := some 74) (v := ?_) (a' := ?_) #[true,true,true,false,false,false,false,false,false,false,false,false,false,false] rfl rfl (any_of HT_.out (by kernel_rfl)) (fun _ _ _ h => h) (Or.inl ⟨by rfl, ?_⟩) ?_ ?_
             rotate_left
             ·intro w'
              go_simp
              with_reducible rfl
             rotate_left
             ·simp only [Act.put, List.setIfInBounds_toArray, List.set_cons_zero, List.set_cons_succ, i64_w, i32_w]
              rfl
             refine pure_ (i := 3) (N := some 75) (v := ?_) (a' := ?_) #[true,true,true,true,false,false,false,false,false,false,false,false,false,false] rfl rfl (any_of HT_.out (by kernel_rfl)) (fun _ _ _ h => h) (Or.inl ⟨by rfl, ?_⟩) ?_ ?_
             rotate_left
             ·intro w'
              go_simp
              with_reducible rfl
             rotate_left
             ·simp only [Act.put, List.setIfInBounds_toArray, List.set_cons_zero, List.set_cons_succ, i64_w, i32_w]
              rfl
             refine pure_ (i := 4) (N := some 76) (v := ?_) (a' := ?_) #[true,true,true,true,true,false,false,false,false,false,false,false,false,false] rfl rfl (any_of HT_.out (by kernel_rfl)) (fun _ _ _ h => h) (Or.inl ⟨by rfl, ?_⟩) ?_ ?_
             rotate_left
             ·intro w'
              go_simp
              with_reducible rfl
             rotate_left
             ·simp only [Act.put, List.setIfInBounds_toArray, List.set_cons_zero, List.set_cons_succ, i64_w, i32_w]
              rfl
             refine pure_ (i := 5) (N := some 77) (v := ?_) (a' := ?_) #[true,true,true,true,true,true,false,false,false,false,false,false,false,false] rfl rfl (any_of HT_.out (by kernel_rfl)) (fun _ _ _ h => h) (Or.inl ⟨by rfl, ?_⟩) ?_ ?_
             rotate_left
             ·intro w'
              go_simp
              with_reducible rfl
             rotate_left
             ·simp only [Act.put, List.setIfInBounds_toArray, List.set_cons_zero, List.set_cons_succ, i64_w, i32_w]
              rfl
             refine pure_ (i := 7) (N := some 79) (v := ?_) (a' := ?_) #[true,true,true,true,true,true,false,true,false,false,false,false,false,false] rfl rfl (any_of HT_.out (by kernel_rfl)) (fun _ _ _ h => h) (Or.inl ⟨by rfl, ?_⟩) ?_ ?_
             rotate_left
             ·intro w'
              go_simp
              with_reducible rfl
             rotate_left
             ·simp only [Act.put, List.setIfInBounds_toArray, List.set_cons_zero, List.set_cons_succ, i64_w, i32_w]
              rfl
             refine pure_ (i := 8) (N := some 80) (v := ?_) (a' := ?_) #[true,true,true,true,true,true,false,true,true,false,false,false,false,false] rfl rfl (any_of HT_.out (by kernel_rfl)) (fun _ _ _ h => h) (Or.inl ⟨by rfl, ?_⟩) ?_ ?_
             rotate_left
             ·intro w'
              go_simp
              with_reducible rfl
             rotate_left
             ·simp only [Act.put, List.setIfInBounds_toArray, List.set_cons_zero, List.set_cons_succ, i64_w, i32_w]
              rfl
             refine pure_ (i := 9) (N := some 81) (v := ?_) (a' := ?_) #[true,true,true,true,true,true,false,true,true,true,false,false,false,false] rfl rfl (any_of HT_.out (by kernel_rfl)) (fun _ _ _ h => h) (Or.inl ⟨by rfl, ?_⟩) ?_ ?_
             rotate_left
             ·intro w'
              go_simp
              with_reducible rfl
             rotate_left
             ·simp only [Act.put, List.setIfInBounds_toArray, List.set_cons_zero, List.set_cons_succ, i64_w, i32_w]
              rfl
             refine pure_ (i := 10) (N := some 82) (v := ?_) (a' := ?_) #[true,true,true,true,true,true,false,true,true,true,true,false,false,false] rfl rfl (any_of HT_.out (by kernel_rfl)) (fun _ _ _ h => h) (Or.inl ⟨by rfl, ?_⟩) ?_ ?_
             rotate_left
             ·intro w'
              go_simp
              with_reducible rfl
             rotate_left
             ·simp only [Act.put, List.setIfInBounds_toArray, List.set_cons_zero, List.set_cons_succ, i64_w, i32_w]
              rfl
             refine take_ (i := 6) (N := some 78) (v := ?_) (a' := ?_) #[true,true,true,true,true,true,true,true,true,true,true,false,false,false] rfl rfl (take_ofW HT_.out HW_.out (by kernel_rfl)) (fun _ _ _ h => h) (Or.inl ⟨by rfl, ?_⟩) hHeld ?_ ?_
             rotate_left
             ·rintro w' ⟨s0, s1⟩
              go_simp
              with_reducible rfl
             rotate_left
             ·simp only [Act.put, List.setIfInBounds_toArray, List.set_cons_zero, List.set_cons_succ, i64_w, i32_w]
              rfl
             refine take_ (i := 11) (N := some 83) (v := ?_) (a' := ?_) #[true,true,true,true,true,true,true,true,true,true,true,true,false,false] rfl rfl (take_ofW HT_.out HW_.out (by kernel_rfl)) (fun _ _ _ h => h) (Or.inl ⟨by rfl, ?_⟩) hHeld ?_ ?_
             rotate_left
             ·rintro w' ⟨s0, s1⟩
              go_simp
              with_reducible rfl
             rotate_left
             ·simp only [Act.put, List.setIfInBounds_toArray, List.set_cons_zero, List.set_cons_succ, i64_w, i32_w]
              rfl
             refine pure_ (i := 12) (N := some 84) (v := ?_) (a' := ?_) #[true,true,true,true,true,true,true,true,true,true,true,true,true,false] rfl rfl (any_of HT_.out (by kernel_rfl)) (fun _ _ _ h => h) (Or.inl ⟨by rfl, ?_⟩) ?_ ?_
             rotate_left
             ·intro w'
              go_simp
              with_reducible rfl
             rotate_left
             ·simp only [Act.put, List.setIfInBounds_toArray, List.set_cons_zero, List.set_cons_succ, i64_w, i32_w]
              rfl
             refine pure_ (i := 13) (N := some 85) (v := ?_) (a' := ?_) #[true,true,true,true,true,true,true,true,true,true,true,true,true,true] rfl rfl (any_of HT_.out (by kernel_rfl)) (fun _ _ _ h => h) (Or.inl ⟨by rfl, ?_⟩) ?_ ?_
             rotate_left
             ·intro w'
              go_simp
              with_reducible rfl
             rotate_left
             ·simp only [Act.put, List.setIfInBounds_toArray, List.set_cons_zero, List.set_cons_succ, i64_w, i32_w]
              rfl
             refine done_ (done_of HT_.out (by kernel_rfl)) ?_
             try go_wp2
             go_ret
             exact ⟨by first | rfl | (simp [errW_none, errW_some] <;> rfl) | (simp only [← hji43]; first | rfl | (simp [errW_none, errW_some] <;> rfl)) | (simp [*, errW_none, errW_some] <;> rfl), by repeat (first | (with_reducible first | exact HB.out | apply below_alloc | apply pw_below_drewN | apply below_drew1 | refine below_set ?_ GE883.out) | exact HB.out)⟩
           ·rw [if_neg c45] at H
            exact absurd H (by simp)
          ·rw [if_neg c44] at H
           exact absurd H (by simp)
         ·rw [if_neg c42] at H
          exact absurd H (by simp)
        ·rw [if_neg c41] at H
         have c41b0 : decide (0 < x11_2) = false := decide_eq_false c41
         clear c41
         have H' := Aside0.mk H
         clear H
         obtain ⟨Ao53, co53, eo53⟩ := Kd.R_slice HO_8.out
         subst eo53
         try go_wp2
         have n0_ := Aside0.mk (Kd.R_drew HO_8.out)
         have n1_ := Aside0.mk (Kd.R_drew HO_9.out)
         have n2_ := Aside0.mk (blk_drew BK883.out)
         have n3_ := Aside0.mk (below_drew1 HB.out)
         clear HO_8
         clear HO_9
         clear BK883
         clear HB
         have HO_8 := n0_
         have HO_9 := n1_
         have BK883 := n2_
         have HB := n3_
         clear n0_ n1_ n2_ n3_
         refine start_ (n := 11) (S := fun w' => True) (ds := []) #[false,false,false,false,false,false,false,false,false,false,false] (by kernel_rfl) rfl rfl trivial (fun hHeld => ?_); refine with_tabW law08_PairElems.tab12 law08_PairElems.bits12 (fun HT_ HW_ => ?_)
         generalize wr.drew = w54 at HO_8 HO_9 BK883 HB hHeld ⊢
         refine pure_ (i := 0) (N := some 62) (v := ?_) (a' := ?_) #[true,false,false,false,false,false,false,false,false,false,false] rfl rfl (any_of HT_.out (by kernel_rfl)) (fun _ _ _ h => h) (Or.inl ⟨by rfl, ?_⟩) ?_ ?_
         rotate_left
         ·intro w'
          go_simp
          with_reducible rfl
         rotate_left
         ·simp only [Act.put, List.setIfInBounds_toArray, List.set_cons_zero, List.set_cons_succ, i64_w, i32_w]
          rfl
         refine pure_ (i := 1) (N := some 63) (v := ?_) (a' := ?_) #[true,true,false,false,false,false,false,false,false,false,false] rfl rfl (any_of HT_.out (by kernel_rfl)) (fun _ _ _ h => h) (Or.inl ⟨by rfl, ?_⟩) ?_ ?_
         rotate_left
         ·intro w'
          go_simp
          with_reducible rfl
         rotate_left
         ·simp only [Act.put, List.setIfInBounds_toArray, List.set_cons_zero, List.set_cons_succ, i64_w, i32_w]
          rfl
         refine pure_ (i := 2) (N := some 64) (v := undef) (a' := ?_) #[true,true,true,false,false,false,false,false,false,false,false] rfl rfl (any_of HT_.out (by kernel_rfl)) (fun _ _ _ h => h) (Or.inr ⟨by rfl, rfl⟩) ?_ ?_
         rotate_left
         ·simp only [Act.put, List.setIfInBounds_toArray, List.set_cons_zero, List.set_cons_succ, i64_w, i32_w]
          rfl
         refine pure_ (i := 3) (N := some 65) (v := undef) (a' := ?_) #[true,true,true,true,false,false,false,false,false,false,false] rfl rfl (any_of HT_.out (by kernel_rfl)) (fun _ _ _ h => h) (Or.inr ⟨by rfl, rfl⟩) ?_ ?_
         rotate_left
         ·simp only [Act.put, List.setIfInBounds_toArray, List.set_cons_zero, List.set_cons_succ, i64_w, i32_w]
          rfl
         refine pure_ (i := 4) (N := some 66) (v := undef) (a' := ?_) #[true,true,true,true,true,false,false,false,false,false,false] rfl rfl (any_of HT_.out (by kernel_rfl)) (fun _ _ _ h => h) (Or.inr ⟨by rfl, rfl⟩) ?_ ?_
         rotate_left
         ·simp only [Act.put, List.setIfInBounds_toArray, List.set_cons_zero, List.set_cons_succ, i64_w, i32_w]
          rfl
         refine pure_ (i := 5) (N := some 67) (v := undef) (a' := ?_) #[true,true,true,true,true,true,false,false,false,false,false] rfl rfl (any_of HT_.out (by kernel_rfl)) (fun _ _ _ h => h) (Or.inr ⟨by rfl, rfl⟩) ?_ ?_
         rotate_left
         ·simp only [Act.put, List.setIfInBounds_toArray, List.set_cons_zero, List.set_cons_succ, i64_w, i32_w]
          rfl
         refine pure_ (i := 6) (N := some 68) (v := undef) (a' := ?_) #[true,true,true,true,true,true,true,false,false,false,false] rfl rfl (any_of HT_.out (by kernel_rfl)) (fun _ _ _ h => h) (Or.inr ⟨by rfl, rfl⟩) ?_ ?_
         rotate_left
         ·simp only [Act.put, List.setIfInBounds_toArray, List.set_cons_zero, List.set_cons_succ, i64_w, i32_w]
          rfl
         refine pure_ (i := 7) (N := some 69) (v := undef) (a' := ?_) #[true,true,true,true,true,true,true,true,false,false,false] rfl rfl (any_of HT_.out (by kernel_rfl)) (fun _ _ _ h => h) (Or.inr ⟨by rfl, rfl⟩) ?_ ?_
         rotate_left
         ·simp only [Act.put, List.setIfInBounds_toArray, List.set_cons_zero, List.set_cons_succ, i64_w, i32_w]
          rfl
         refine pure_ (i := 8) (N := some 70) (v := undef) (a' := ?_) #[true,true,true,true,true,true,true,true,true,false,false] rfl rfl (any_of HT_.out (by kernel_rfl)) (fun _ _ _ h => h) (Or.inr ⟨by rfl, rfl⟩) ?_ ?_
         rotate_left
         ·simp only [Act.put, List.setIfInBounds_toArray, List.set_cons_zero, List.set_cons_succ, i64_w, i32_w]
          rfl
         refine pure_ (i := 9) (N := some 71) (v := ?_) (a' := ?_) #[true,true,true,true,true,true,true,true,true,true,false] rfl rfl (any_of HT_.out (by kernel_rfl)) (fun _ _ _ h => h) (Or.inl ⟨by rfl, ?_⟩) ?_ ?_
         rotate_left
         ·intro w'
          go_simp
          with_reducible rfl
         rotate_left
         ·simp only [Act.put, List.setIfInBounds_toArray, List.set_cons_zero, List.set_cons_succ, i64_w, i32_w]
          rfl
         refine pure_ (i := 10) (N := some 10) (v := ?_) (a' := ?_) #[true,true,true,true,true,true,true,true,true,true,true] rfl rfl (any_of HT_.out (by kernel_rfl)) (fun _ _ _ h => h) (Or.inl ⟨by rfl, ?_⟩) ?_ ?_
         rotate_left
         ·intro w'
          go_simp
          with_reducible rfl
         rotate_left
         ·simp only [Act.put, List.setIfInBounds_toArray, List.set_cons_zero, List.set_cons_succ, i64_w, i32_w]
          rfl
         refine done_ (done_of HT_.out (by kernel_rfl)) ?_
         try go_wp2
         have n0_ := Aside0.mk (Kd.R_drew HO_8.out)
         have n1_ := Aside0.mk (Kd.R_drew HO_9.out)
         have n2_ := Aside0.mk (blk_drew BK883.out)
         have n3_ := Aside0.mk (below_drew1 HB.out)
         clear HO_8
         clear HO_9
         clear BK883
         clear HB
         have HO_8 := n0_
         have HO_9 := n1_
         have BK883 := n2_
         have HB := n3_
         clear n0_ n1_ n2_ n3_
         refine start_ (n := 14) (S := fun w' => True) (ds := []) #[false,false,false,false,false,false,false,false,false,false,false,false,false,false] (by kernel_rfl) rfl rfl trivial (fun hHeld => ?_); refine with_tabW law08_PairElems.tab13 law08_PairElems.bits13 (fun HT_ HW_ => ?_)
         generalize w54.drew = w55 at HO_8 HO_9 BK883 HB hHeld ⊢
         refine pure_ (i := 0) (N := some 72) (v := ?_) (a' := ?_) #[true,false,false,false,false,false,false,false,false,false,false,false,false,false] rfl rfl (any_of HT_.out (by kernel_rfl)) (fun _ _ _ h => h) (Or.inl ⟨by rfl, ?_⟩) ?_ ?_
         rotate_left
         ·intro w'
          go_simp
          with_reducible rfl
         rotate_left
         ·simp only [Act.put, List.setIfInBounds_toArray, List.set_cons_zero, List.set_cons_succ, i64_w, i32_w]
          rfl
         refine pure_ (i := 1) (N := some 73) (v := ?_) (a' := ?_) #[true,true,false,false,false,false,false,false,false,false,false,false,false,false] rfl rfl (any_of HT_.out (by kernel_rfl)) (fun _ _ _ h => h) (Or.inl ⟨by rfl, ?_⟩) ?_ ?_
         rotate_left
         ·intro w'
          go_simp
          with_reducible rfl
         rotate_left
         ·simp only [Act.put, List.setIfInBounds_toArray, List.set_cons_zero, List.set_cons_succ, i64_w, i32_w]
          rfl
         refine pure_ (i := 2) (N := some 74) (v := ?_) (a' := ?_) #[true,true,true,false,false,false,false,false,false,false,false,false,false,false] rfl rfl (any_of HT_.out (by kernel_rfl)) (fun _ _ _ h => h) (Or.inl ⟨by rfl, ?_⟩) ?_ ?_
         rotate_left
         ·intro w'
          go_simp
          with_reducible rfl
         rotate_left
         ·simp only [Act.put, List.setIfInBounds_toArray, List.set_cons_zero, List.set_cons_succ, i64_w, i32_w]
          rfl
         refine pure_ (i := 3) (N := some 75) (v := undef) (a' := ?_) #[true,true,true,true,false,false,false,false,false,false,false,false,false,false] rfl rfl (any_of HT_.out (by kernel_rfl)) (fun _ _ _ h => h) (Or.inr ⟨by rfl, rfl⟩) ?_ ?_
         rotate_left
         ·simp only [Act.put, List.setIfInBounds_toArray, List.set_cons_zero, List.set_cons_succ, i64_w, i32_w]
          rfl
         refine pure_ (i := 4) (N := some 76) (v := undef) (a' := ?_) #[true,true,true,true,true,false,false,false,false,false,false,false,false,false] rfl rfl (any_of HT_.out (by kernel_rfl)) (fun _ _ _ h => h) (Or.inr ⟨by rfl, rfl⟩) ?_ ?_
         rotate_left
         ·simp only [Act.put, List.setIfInBounds_toArray, List.set_cons_zero, List.set_cons_succ, i64_w, i32_w]
          rfl
         refine pure_ (i := 5) (N := some 77) (v := undef) (a' := ?_) #[true,true,true,true,true,true,false,false,false,false,false,false,false,false] rfl rfl (any_of HT_.out (by kernel_rfl)) (fun _ _ _ h => h) (Or.inr ⟨by rfl, rfl⟩) ?_ ?_
         rotate_left
         ·simp only [Act.put, List.setIfInBounds_toArray, List.set_cons_zero, List.set_cons_succ, i64_w, i32_w]
          rfl
         refine pure_ (i := 6) (N := some 78) (v := undef) (a' := ?_) #[true,true,true,true,true,true,true,false,false,false,false,false,false,false] rfl rfl (any_of HT_.out (by kernel_rfl)) (fun _ _ _ h => h) (Or.inr ⟨by rfl, rfl⟩) ?_ ?_
         rotate_left
         ·simp only [Act.put, List.setIfInBounds_toArray, List.set_cons_zero, List.set_cons_succ, i64_w, i32_w]
          rfl
         refine pure_ (i := 7) (N := some 79) (v := undef) (a' := ?_) #[true,true,true,true,true,true,true,true,false,false,false,false,false,false] rfl rfl (any_of HT_.out (by kernel_rfl)) (fun _ _ _ h => h) (Or.inr ⟨by rfl, rfl⟩) ?_ ?_
         rotate_left
         ·simp only [Act.put, List.setIfInBounds_toArray, List.set_cons_zero, List.set_cons_succ, i64_w, i32_w]
          rfl
         refine pure_ (i := 8) (N := some 80) (v := undef) (a' := ?_) #[true,true,true,true,true,true,true,true,true,false,false,false,false,false] rfl rfl (any_of HT_.out (by kernel_rfl)) (fun _ _ _ h => h) (Or.inr ⟨by rfl, rfl⟩) ?_ ?_
         rotate_left
         ·simp only [Act.put, List.setIfInBounds_toArray, List.set_cons_zero, List.set_cons_succ, i64_w, i32_w]
          rfl
         refine pure_ (i := 9) (N := some 81) (v := undef) (a' := ?_) #[true,true,true,true,true,true,true,true,true,true,false,false,false,false] rfl rfl (any_of HT_.out (by kernel_rfl)) (fun _ _ _ h => h) (Or.inr ⟨by rfl, rfl⟩) ?_ ?_
         rotate_left
         ·simp only [Act.put, List.setIfInBounds_toArray, List.set_cons_zero, List.set_cons_succ, i64_w, i32_w]
          rfl
         refine pure_ (i := 10) (N := some 82) (v := undef) (a' := ?_) #[true,true,true,true,true,true,true,true,true,true,true,false,false,false] rfl rfl (any_of HT_.out (by kernel_rfl)) (fun _ _ _ h => h) (Or.inr ⟨by rfl, rfl⟩) ?_ ?_
         rotate_left
         ·simp only [Act.put, List.setIfInBounds_toArray, List.set_cons_zero, List.set_cons_succ, i64_w, i32_w]
          rfl
         refine pure_ (i := 11) (N := some 83) (v := undef) (a' := ?_) #[true,true,true,true,true,true,true,true,true,true,true,true,false,false] rfl rfl (any_of HT_.out (by kernel_rfl)) (fun _ _ _ h => h) (Or.inr ⟨by rfl, rfl⟩) ?_ ?_
         rotate_left
         ·simp only [Act.put, List.setIfInBounds_toArray, List.set_cons_zero, List.set_cons_succ, i64_w, i32_w]
          rfl
         refine pure_ (i := 12) (N := some 84) (v := undef) (a' := ?_) #[true,true,true,true,true,true,true,true,true,true,true,true,true,false] rfl rfl (any_of HT_.out (by kernel_rfl)) (fun _ _ _ h => h) (Or.inr ⟨by rfl, rfl⟩) ?_ ?_
         rotate_left
         ·simp only [Act.put, List.setIfInBounds_toArray, List.set_cons_zero, List.set_cons_succ, i64_w, i32_w]
          rfl
         refine pure_ (i := 13) (N := some 85) (v := ?_) (a' := ?_) #[true,true,true,true,true,true,true,true,true,true,true,true,true,true] rfl rfl (any_of HT_.out (by kernel_rfl)) (fun _ _ _ h => h) (Or.inl ⟨by rfl, ?_⟩) ?_ ?_
         rotate_left
         ·intro w'
          go_simp
          with_reducible rfl
         rotate_left
         ·simp only [Act.put, List.setIfInBounds_toArray, List.set_cons_zero, List.set_cons_succ, i64_w, i32_w]
          rfl
         refine done_ (done_of HT_.out (by kernel_rfl)) ?_
         try go_wp2
         go_roundg k2
         case measure => have := HJ5.out; have := HK2.out; omega
         case rel => exact ⟨(true), (wrap64 (x11_2 + 1)), (by first | rfl | (simp; done) | (simp [*]; done)), (by first | rfl | (simp; done) | (simp [*]; done)), H', ⟨by have := HJ5.out; have := HK2.out; omega⟩, ⟨by (with_reducible repeat (first | apply Kd.R_alloc | apply Kd.R_drewN | apply Kd.R_drew)); exact HO_8.out⟩, ⟨by (with_reducible repeat (first | apply Kd.R_alloc | apply Kd.R_drewN | apply Kd.R_drew)); exact HO_9.out⟩, ⟨by (with_reducible repeat (first | refine blk_drewN ?_ _ | refine blk_drew ?_ | refine blk_alloc ?_ _)); exact BK883.out⟩, ⟨by repeat (first | (with_reducible first | exact HB.out | apply below_alloc | apply pw_below_drewN | apply below_drew1 | refine below_set ?_ GE883.out) | exact HB.out)⟩⟩
       ·replace c40 := Bool.eq_false_iff.mpr c40
        subst c40
        have H1 : (if 0 ≤ x11_2 then (if x11_2 > 0 then (if 0 ≤ (wrap64 (x11_2 - 1)) then (if (wrap64 (x11_2 - 1)) < (t898.length : Int) then (if ((Op.bytesLess ((rdOf ByteArray.empty t898 (wrap64 (x11_2 - 1))).toList) ((rdOf ByteArray.empty t898 x11_2).toList)) = true) then (law08_PairElems.l0 k2 t898 t904 ((rdOf ByteArray.empty t898 x11_2).toList == a1_1.toList) (wrap64 (x11_2 + 1)) a1_0 a1_1 a1_2 a1_3) else (some false)) else (none)) else (none)) else (law08_PairElems.l0 k2 t898 t904 ((rdOf ByteArray.empty t898 x11_2).toList == a1_1.toList) (wrap64 (x11_2 + 1)) a1_0 a1_1 a1_2 a1_3)) else (none)) = some r := by rw [if_neg (show ¬ (false = true) by decide)] at H; exact H
        clear H
        have H := H1
        clear H1
        by_cases c56 : 0 ≤ x11_2
        ·rw [if_pos c56] at H
         have c56b0 : decide (0 ≤ x11_2) = true := decide_eq_true c56
         clear c56
         by_cases c57 : x11_2 > 0
         ·rw [if_pos c57] at H
          have c57b0 : decide (0 < x11_2) = true := decide_eq_true c57
          clear c57
          obtain ⟨ji58, hji58⟩ : ∃ j_ : Int, (wrap64 (x11_2 - 1)) = j_ := ⟨_, rfl⟩
          replace H : (if 0 ≤ (ji58) then (if (ji58) < (t898.length : Int) then (if ((Op.bytesLess ((rdOf ByteArray.empty t898 (ji58)).toList) ((rdOf ByteArray.empty t898 x11_2).toList)) = true) then (law08_PairElems.l0 k2 t898 t904 ((rdOf ByteArray.empty t898 x11_2).toList == a1_1.toList) (wrap64 (x11_2 + 1)) a1_0 a1_1 a1_2 a1_3) else (some false)) else (none)) else (none)) = some r := by first | (rw [hji58] at H; exact H) | (simp only [hji58] at H ⊢; exact H)
          have hji58w : (IntKind.i64.wrap (x11_2 - 1)) = ji58 := (i64_w _).trans hji58
          by_cases c59 : 0 ≤ (ji58)
          ·rw [if_pos c59] at H
           have c59b0 : decide (0 ≤ (ji58)) = true := decide_eq_true c59
           clear c59
           by_cases c60 : (ji58) < (t898.length : Int)
           ·rw [if_pos c60] at H
            have c60b0 : decide ((ji58) < (t898.length : Int)) = true := decide_eq_true c60
            clear c60
            by_cases c61 : ((Op.bytesLess ((rdOf ByteArray.empty t898 (ji58)).toList) ((rdOf ByteArray.empty t898 x11_2).toList)) = true)
            ·rw [if_pos c61] at H
             have c61b0 : (Op.bytesLess ((rdOf ByteArray.empty t898 (ji58)).toList) ((rdOf ByteArray.empty t898 x11_2).toList)) = true := c61
             clear c61
             have H' := Aside0.mk H
             clear H
             obtain ⟨Ao62, co62, eo62⟩ := Kd.R_slice HO_8.out
             subst eo62
             try go_wp2
             have n0_ := Aside0.mk (Kd.R_drew HO_8.out)
             have n1_ := Aside0.mk (Kd.R_drew HO_9.out)
             have n2_ := Aside0.mk (blk_drew BK883.out)
             have n3_ := Aside0.mk (below_drew1 HB.out)
             clear HO_8
             clear HO_9
             clear BK883
             clear HB
             have HO_8 := n0_
             have HO_9 := n1_
             have BK883 := n2_
             have HB := n3_
             clear n0_ n1_ n2_ n3_
             have p909 : 0 ≤ (x11_2 : Int) := of_decide_eq_true (by first | (with_reducible assumption) | assumption)
             have q909 : x11_2 < (t898.length : Int) := of_decide_eq_true (by first | (with_reducible assumption) | assumption)
             obtain ⟨ad909, e909, hx909_0⟩ := Kd.at_string (Kd.R_reads' HO_8.out).2.2 x11_2 p909 q909
             cases e909
             replace p909 := eq_true p909
             replace q909 := eq_true q909
             refine start_ (n := 11) (S := fun w' => w'.cell? ⟨gb883, 0, none⟩ = some (.string a1_0) ∧ w'.cell? ⟨gb883, 1, none⟩ = some (.string a1_1) ∧ w'.cell? ⟨gb883, 2, none⟩ = some (.int .i64 a1_2) ∧ w'.cell? ⟨gb883, 3, none⟩ = some (.int .i64 a1_3) ∧ w'.cell? (ad909.add (x11_2).toNat) = some (.string (rdOf ByteArray.empty t898 x11_2))) (ds := []) #[false,false,false,false,false,false,false,false,false,false,false] (by kernel_rfl) rfl rfl ⟨(blk_cell BK883.out 0).trans rfl, (blk_cell BK883.out 1).trans rfl, (blk_cell BK883.out 2).trans rfl, (blk_cell BK883.out 3).trans rfl, hx909_0⟩ (fun hHeld => ?_); refine with_tabW law08_PairElems.tab12 law08_PairElems.bits12 (fun HT_ HW_ => ?_)
             generalize wr.drew = w63 at HO_8 HO_9 BK883 HB hx909_0 hHeld ⊢
             refine pure_ (i := 0) (N := some 62) (v := ?_) (a' := ?_) #[true,false,false,false,false,false,false,false,false,false,false] rfl rfl (any_of HT_.out (by kernel_rfl)) (fun _ _ _ h => h) (Or.inl ⟨by rfl, ?_⟩) ?_ ?_
             rotate_left
             ·intro w'
              go_simp
              with_reducible rfl
             rotate_left
             ·simp only [Act.put, List.setIfInBounds_toArray, List.set_cons_zero, List.set_cons_succ, i64_w, i32_w]
              rfl
             refine pure_ (i := 1) (N := some 63) (v := ?_) (a' := ?_) #[true,true,false,false,false,false,false,false,false,false,false] rfl rfl (any_of HT_.out (by kernel_rfl)) (fun _ _ _ h => h) (Or.inl ⟨by rfl, ?_⟩) ?_ ?_
             rotate_left
             ·intro w'
              go_simp
              with_reducible rfl
             rotate_left
             ·simp only [Act.put, List.setIfInBounds_toArray, List.set_cons_zero, List.set_cons_succ, i64_w, i32_w]
              rfl
             refine pure_ (i := 2) (N := some 64) (v := ?_) (a' := ?_) #[true,true,true,false,false,false,false,false,false,false,false] rfl rfl (any_of HT_.out (by kernel_rfl)) (fun _ _ _ h => h) (Or.inl ⟨by rfl, ?_⟩) ?_ ?_
             rotate_left
             ·intro w'
              go_simp
              with_reducible rfl
             rotate_left
             ·simp only [Act.put, List.setIfInBounds_toArray, List.set_cons_zero, List.set_cons_succ, i64_w, i32_w]
              rfl
             refine pure_ (i := 3) (N := some 65) (v := ?_) (a' := ?_) #[true,true,true,true,false,false,false,false,false,false,false] rfl rfl (any_of HT_.out (by kernel_rfl)) (fun _ _ _ h => h) (Or.inl ⟨by rfl, ?_⟩) ?_ ?_
             rotate_left
             ·intro w'
              go_simp
              with_reducible rfl
             rotate_left
             ·simp only [Act.put, List.setIfInBounds_toArray, List.set_cons_zero, List.set_cons_succ, i64_w, i32_w]
              rfl
             refine pure_ (i := 4) (N := some 66) (v := ?_) (a' := ?_) #[true,true,true,true,true,false,false,false,false,false,false] rfl rfl (any_of HT_.out (by kernel_rfl)) (fun _ _ _ h => h) (Or.inl ⟨by rfl, ?_⟩) ?_ ?_
             rotate_left
             ·intro w'
              go_simp
              with_reducible rfl
             rotate_left
             ·simp only [Act.put, List.setIfInBounds_toArray, List.set_cons_zero, List.set_cons_succ, i64_w, i32_w]
              rfl
             refine pure_ (i := 6) (N := some 68) (v := ?_) (a' := ?_) #[true,true,true,true,true,false,true,false,false,false,false] rfl rfl (any_of HT_.out (by kernel_rfl)) (fun _ _ _ h => h) (Or.inl ⟨by rfl, ?_⟩) ?_ ?_
             rotate_left
             ·intro w'
              go_simp
              with_reducible rfl
             rotate_left
             ·simp only [Act.put, List.setIfInBounds_toArray, List.set_cons_zero, List.set_cons_succ, i64_w, i32_w]
              rfl
             refine take_ (i := 5) (N := some 67) (v := ?_) (a' := ?_) #[true,true,true,true,true,true,true,false,false,false,false] rfl rfl (take_ofW HT_.out HW_.out (by kernel_rfl)) (fun _ _ _ h => h) (Or.inl ⟨by rfl, ?_⟩) hHeld ?_ ?_
             rotate_left
             ·rintro w' ⟨s0, s1, s2, s3, s4⟩
              go_simp
              with_reducible rfl
             rotate_left
             ·simp only [Act.put, List.setIfInBounds_toArray, List.set_cons_zero, List.set_cons_succ, i64_w, i32_w]
              rfl
             refine take_ (i := 7) (N := some 69) (v := ?_) (a' := ?_) #[true,true,true,true,true,true,true,true,false,false,false] rfl rfl (take_ofW HT_.out HW_.out (by kernel_rfl)) (fun _ _ _ h => h) (Or.inl ⟨by rfl, ?_⟩) hHeld ?_ ?_
             rotate_left
             ·rintro w' ⟨s0, s1, s2, s3, s4⟩
              go_simp
              with_reducible rfl
             rotate_left
             ·simp only [Act.put, List.setIfInBounds_toArray, List.set_cons_zero, List.set_cons_succ, i64_w, i32_w]
              rfl
             refine pure_ (i := 8) (N := some 70) (v := ?_) (a' := ?_) #[true,true,true,true,true,true,true,true,true,false,false] rfl rfl (any_of HT_.out (by kernel_rfl)) (fun _ _ _ h => h) (Or.inl ⟨by rfl, ?_⟩) ?_ ?_
             rotate_left
             ·intro w'
              go_simp
              with_reducible rfl
             rotate_left
             ·simp only [Act.put, List.setIfInBounds_toArray, List.set_cons_zero, List.set_cons_succ, i64_w, i32_w]
              rfl
             refine pure_ (i := 9) (N := some 71) (v := ?_) (a' := ?_) #[true,true,true,true,true,true,true,true,true,true,false] rfl rfl (any_of HT_.out (by kernel_rfl)) (fun _ _ _ h => h) (Or.inl ⟨by rfl, ?_⟩) ?_ ?_
             rotate_left
             ·intro w'
              go_simp
              with_reducible rfl
             rotate_left
             ·simp only [Act.put, List.setIfInBounds_toArray, List.set_cons_zero, List.set_cons_succ, i64_w, i32_w]
              rfl
             refine pure_ (i := 10) (N := some 10) (v := ?_) (a' := ?_) #[true,true,true,true,true,true,true,true,true,true,true] rfl rfl (any_of HT_.out (by kernel_rfl)) (fun _ _ _ h => h) (Or.inl ⟨by rfl, ?_⟩) ?_ ?_
             rotate_left
             ·intro w'
              go_simp
              with_reducible rfl
             rotate_left
             ·simp only [Act.put, List.setIfInBounds_toArray, List.set_cons_zero, List.set_cons_succ, i64_w, i32_w]
              rfl
             refine done_ (done_of HT_.out (by kernel_rfl)) ?_
             try go_wp2
             have n0_ := Aside0.mk (Kd.R_drew HO_8.out)
             have n1_ := Aside0.mk (Kd.R_drew HO_9.out)
             have n2_ := Aside0.mk (blk_drew BK883.out)
             have n3_ := Aside0.mk (below_drew1 HB.out)
             clear HO_8
             clear HO_9
             clear BK883
             clear HB
             have HO_8 := n0_
             have HO_9 := n1_
             have BK883 := n2_
             have HB := n3_
             clear n0_ n1_ n2_ n3_
             have p910 : 0 ≤ (x11_2 : Int) := of_decide_eq_true (by first | (with_reducible assumption) | assumption)
             have q910 : x11_2 < (t898.length : Int) := of_decide_eq_true (by first | (with_reducible assumption) | assumption)
             obtain ⟨ad910, e910, hx910_0⟩ := Kd.at_string (Kd.R_reads' HO_8.out).2.2 x11_2 p910 q910
             obtain rfl : ad909 = ad910 := (by injection e910)
             replace p910 := eq_true p910
             replace q910 := eq_true q910
             have p911 : 0 ≤ ((ji58) : Int) := of_decide_eq_true (by first | (with_reducible assumption) | assumption)
             have q911 : (ji58) < (t898.length : Int) := of_decide_eq_true (by first | (with_reducible assumption) | assumption)
             obtain ⟨ad911, e911, hx911_0⟩ := Kd.at_string (Kd.R_reads' HO_8.out).2.2 (ji58) p911 q911
             obtain rfl : ad909 = ad911 := (by injection e911)
             replace p911 := eq_true p911
             replace q911 := eq_true q911
             refine start_ (n := 14) (S := fun w' => w'.cell? (ad909.add (x11_2).toNat) = some (.string (rdOf ByteArray.empty t898 x11_2)) ∧ w'.cell? (ad909.add ((ji58)).toNat) = some (.string (rdOf ByteArray.empty t898 (ji58)))) (ds := []) #[false,false,false,false,false,false,false,false,false,false,false,false,false,false] (by kernel_rfl) rfl rfl ⟨hx910_0, hx911_0⟩ (fun hHeld => ?_); refine with_tabW law08_PairElems.tab13 law08_PairElems.bits13 (fun HT_ HW_ => ?_)
             generalize w63.drew = w64 at HO_8 HO_9 BK883 HB hx910_0 hx911_0 hHeld ⊢
             refine pure_ (i := 0) (N := some 72) (v := ?_) (a' := ?_) #[true,false,false,false,false,false,false,false,false,false,false,false,false,false] rfl rfl (any_of HT_.out (by kernel_rfl)) (fun _ _ _ h => h) (Or.inl ⟨by rfl, ?_⟩) ?_ ?_
             rotate_left
             ·intro w'
              go_simp
              with_reducible rfl
             rotate_left
             ·simp only [Act.put, List.setIfInBounds_toArray, List.set_cons_zero, List.set_cons_succ, i64_w, i32_w]
              rfl
             refine pure_ (i := 1) (N := some 73) (v := ?_) (a' := ?_) #[true,true,false,false,false,false,false,false,false,false,false,false,false,false] rfl rfl (any_of HT_.out (by kernel_rfl)) (fun _ _ _ h => h) (Or.inl ⟨by rfl, ?_⟩) ?_ ?_
             rotate_left
             ·intro w'
              go_simp
              with_reducible rfl
             rotate_left
             ·simp only [Act.put, List.setIfInBounds_toArray, List.set_cons_zero, List.set_cons_succ, i64_w, i32_w]
              rfl
             refine pure_ (i := 2) (N := some 74) (v := ?_) (a' := ?_) #[true,true,true,false,false,false,false,false,false,false,false,false,false,false] rfl rfl (any_of HT_.out (by kernel_rfl)) (fun _ _ _ h => h) (Or.inl ⟨by rfl, ?_⟩) ?_ ?_
             rotate_left
             ·intro w'
              go_simp
              with_reducible rfl
             rotate_left
             ·simp only [Act.put, List.setIfInBounds_toArray, List.set_cons_zero, List.set_cons_succ, i64_w, i32_w]
              rfl
             refine pure_ (i := 3) (N := some 75) (v := ?_) (a' := ?_) #[true,true,true,true,false,false,false,false,false,false,false,false,false,false] rfl rfl (any_of HT_.out (by kernel_rfl)) (fun _ _ _ h => h) (Or.inl ⟨by rfl, ?_⟩) ?_ ?_
             rotate_left
             ·intro w'
              go_simp
              with_reducible rfl
             rotate_left
             ·simp only [Act.put, List.setIfInBounds_toArray, List.set_cons_zero, List.set_cons_succ, i64_w, i32_w]
              rfl
             refine pure_ (i := 4) (N := some 76) (v := ?_) (a' := ?_) #[true,true,true,true,true,false,false,false,false,false,false,false,false,false] rfl rfl (any_of HT_.out (by kernel_rfl)) (fun _ _ _ h => h) (Or.inl ⟨by rfl, ?_⟩) ?_ ?_
             rotate_left
             ·intro w'
              go_simp
              with_reducible rfl
             rotate_left
             ·simp only [Act.put, List.setIfInBounds_toArray, List.set_cons_zero, List.set_cons_succ, i64_w, i32_w]
              rfl
             refine pure_ (i := 5) (N := some 77) (v := ?_) (a' := ?_) #[true,true,true,true,true,true,false,false,false,false,false,false,false,false] rfl rfl (any_of HT_.out (by kernel_rfl)) (fun _ _ _ h => h) (Or.inl ⟨by rfl, ?_⟩) ?_ ?_
             rotate_left
             ·intro w'
              go_simp
              with_reducible rfl
             rotate_left
             ·simp only [Act.put, List.setIfInBounds_toArray, List.set_cons_zero, List.set_cons_succ, i64_w, i32_w]
              rfl
             refine pure_ (i := 7) (N := some 79) (v := ?_) (a' := ?_) #[true,true,true,true,true,true,false,true,false,false,false,false,false,false] rfl rfl (any_of HT_.out (by kernel_rfl)) (fun _ _ _ h => h) (Or.inl ⟨by rfl, ?_⟩) ?_ ?_
             rotate_left
             ·intro w'
              go_simp
              with_reducible rfl
             rotate_left
             ·simp only [Act.put, List.setIfInBounds_toArray, List.set_cons_zero, List.set_cons_succ, i64_w, i32_w]
              rfl
             refine pure_ (i := 8) (N := some 80) (v := ?_) (a' := ?_) #[true,true,true,true,true,true,false,true,true,false,false,false,false,false] rfl rfl (any_of HT_.out (by kernel_rfl)) (fun _ _ _ h => h) (Or.inl ⟨by rfl, ?_⟩) ?_ ?_
             rotate_left
             ·intro w'
              go_simp
              with_reducible rfl
             rotate_left
             ·simp only [Act.put, List.setIfInBounds_toArray, List.set_cons_zero, List.set_cons_succ, i64_w, i32_w]
              rfl
             refine pure_ (i := 9) (N := some 81) (v := ?_) (a' := ?_) #[true,true,true,true,true,true,false,true,true,true,false,false,false,false] rfl rfl (any_of HT_.out (by kernel_rfl)) (fun _ _ _ h => h) (Or.inl ⟨by rfl, ?_⟩) ?_ ?_
             rotate_left
             ·intro w'
              go_simp
              with_reducible rfl
             rotate_left
             ·simp only [Act.put, List.setIfInBounds_toArray, List.set_cons_zero, List.set_cons_succ, i64_w, i32_w]
              rfl
             refine pure_ (i := 10) (N := some 82) (v := ?_) (a' := ?_) #[true,true,true,true,true,true,false,true,true,true,true,false,false,false] rfl rfl (any_of HT_.out (by kernel_rfl)) (fun _ _ _ h => h) (Or.inl ⟨by rfl, ?_⟩) ?_ ?_
             rotate_left
             ·intro w'
              go_simp
              with_reducible rfl
             rotate_left
             ·simp only [Act.put, List.setIfInBounds_toArray, List.set_cons_zero, List.set_cons_succ, i64_w, i32_w]
              rfl
             refine take_ (i := 6) (N := some 78) (v := ?_) (a' := ?_) #[true,true,true,true,true,true,true,true,true,true,true,false,false,false] rfl rfl (take_ofW HT_.out HW_.out (by kernel_rfl)) (fun _ _ _ h => h) (Or.inl ⟨by rfl, ?_⟩) hHeld ?_ ?_
             rotate_left
             ·rintro w' ⟨s0, s1⟩
              go_simp
              with_reducible rfl
             rotate_left
             ·simp only [Act.put, List.setIfInBounds_toArray, List.set_cons_zero, List.set_cons_succ, i64_w, i32_w]
              rfl
             refine take_ (i := 11) (N := some 83) (v := ?_) (a' := ?_) #[true,true,true,true,true,true,true,true,true,true,true,true,false,false] rfl rfl (take_ofW HT_.out HW_.out (by kernel_rfl)) (fun _ _ _ h => h) (Or.inl ⟨by rfl, ?_⟩) hHeld ?_ ?_
             rotate_left
             ·rintro w' ⟨s0, s1⟩
              go_simp
              with_reducible rfl
             rotate_left
             ·simp only [Act.put, List.setIfInBounds_toArray, List.set_cons_zero, List.set_cons_succ, i64_w, i32_w]
              rfl
             refine pure_ (i := 12) (N := some 84) (v := ?_) (a' := ?_) #[true,true,true,true,true,true,true,true,true,true,true,true,true,false] rfl rfl (any_of HT_.out (by kernel_rfl)) (fun _ _ _ h => h) (Or.inl ⟨by rfl, ?_⟩) ?_ ?_
             rotate_left
             ·intro w'
              go_simp
              with_reducible rfl
             rotate_left
             ·simp only [Act.put, List.setIfInBounds_toArray, List.set_cons_zero, List.set_cons_succ, i64_w, i32_w]
              rfl
             refine pure_ (i := 13) (N := some 85) (v := ?_) (a' := ?_) #[true,true,true,true,true,true,true,true,true,true,true,true,true,true] rfl rfl (any_of HT_.out (by kernel_rfl)) (fun _ _ _ h => h) (Or.inl ⟨by rfl, ?_⟩) ?_ ?_
             rotate_left
             ·intro w'
              go_simp
              with_reducible rfl
             rotate_left
             ·simp only [Act.put, List.setIfInBounds_toArray, List.set_cons_zero, List.set_cons_succ, i64_w, i32_w]
              rfl
             refine done_ (done_of HT_.out (by kernel_rfl)) ?_
             try go_wp2
             go_roundg k2
             case measure => have := HJ5.out; have := HK2.out; omega
             case rel => exact ⟨(((rdOf ByteArray.empty t898 x11_2).toList == a1_1.toList)), (wrap64 (x11_2 + 1)), (by first | rfl | (simp; done) | (simp [*]; done)), (by first | rfl | (simp; done) | (simp [*]; done)), H', ⟨by have := HJ5.out; have := HK2.out; omega⟩, ⟨by (with_reducible repeat (first | apply Kd.R_alloc | apply Kd.R_drewN | apply Kd.R_drew)); exact HO_8.out⟩, ⟨by (with_reducible repeat (first | apply Kd.R_alloc | apply Kd.R_drewN | apply Kd.R_drew)); exact HO_9.out⟩, ⟨by (with_reducible repeat (first | refine blk_drewN ?_ _ | refine blk_drew ?_ | refine blk_alloc ?_ _)); exact BK883.out⟩, ⟨by repeat (first | (with_reducible first | exact HB.out | apply below_alloc | apply pw_below_drewN | apply below_drew1 | refine below_set ?_ GE883.out) | exact HB.out)⟩⟩
            ·rw [if_neg c61] at H
             have c61b0 : (Op.bytesLess ((rdOf ByteArray.empty t898 (ji58)).toList) ((rdOf ByteArray.empty t898 x11_2).toList)) = false := by simpa using c61
             clear c61
             obtain rfl := Option.some.inj H
             obtain ⟨Ao65, co65, eo65⟩ := Kd.R_slice HO_8.out
             subst eo65
             try go_wp2
             have n0_ := Aside0.mk (Kd.R_drew HO_8.out)
             have n1_ := Aside0.mk (Kd.R_drew HO_9.out)
             have n2_ := Aside0.mk (blk_drew BK883.out)
             have n3_ := Aside0.mk (below_drew1 HB.out)
             clear HO_8
             clear HO_9
             clear BK883
             clear HB
             have HO_8 := n0_
             have HO_9 := n1_
             have BK883 := n2_
             have HB := n3_
             clear n0_ n1_ n2_ n3_
             have p909 : 0 ≤ (x11_2 : Int) := of_decide_eq_true (by first | (with_reducible assumption) | assumption)
             have q909 : x11_2 < (t898.length : Int) := of_decide_eq_true (by first | (with_reducible assumption) | assumption)
             obtain ⟨ad909, e909, hx909_0⟩ := Kd.at_string (Kd.R_reads' HO_8.out).2.2 x11_2 p909 q909
             cases e909
             replace p909 := eq_true p909
             replace q909 := eq_true q909
             refine start_ (n := 11) (S := fun w' => w'.cell? ⟨gb883, 0, none⟩ = some (.string a1_0) ∧ w'.cell? ⟨gb883, 1, none⟩ = some (.string a1_1) ∧ w'.cell? ⟨gb883, 2, none⟩ = some (.int .i64 a1_2) ∧ w'.cell? ⟨gb883, 3, none⟩ = some (.int .i64 a1_3) ∧ w'.cell? (ad909.add (x11_2).toNat) = some (.string (rdOf ByteArray.empty t898 x11_2))) (ds := []) #[false,false,false,false,false,false,false,false,false,false,false] (by kernel_rfl) rfl rfl ⟨(blk_cell BK883.out 0).trans rfl, (blk_cell BK883.out 1).trans rfl, (blk_cell BK883.out 2).trans rfl, (blk_cell BK883.out 3).trans rfl, hx909_0⟩ (fun hHeld => ?_); refine with_tabW law08_PairElems.tab12 law08_PairElems.bits12 (fun HT_ HW_ => ?_)
             generalize wr.drew = w66 at HO_8 HO_9 BK883 HB hx909_0 hHeld ⊢
             refine pure_ (i := 0) (N := some 62) (v := ?_) (a' := ?_) #[true,false,false,false,false,false,false,false,false,false,false] rfl rfl (any_of HT_.out (by kernel_rfl)) (fun _ _ _ h => h) (Or.inl ⟨by rfl, ?_⟩) ?_ ?_
             rotate_left
             ·intro w'
              go_simp
              with_reducible rfl
             rotate_left
             ·simp only [Act.put, List.setIfInBounds_toArray, List.set_cons_zero, List.set_cons_succ, i64_w, i32_w]
              rfl
             refine pure_ (i := 1) (N := some 63) (v := ?_) (a' := ?_) #[true,true,false,false,false,false,false,false,false,false,false] rfl rfl (any_of HT_.out (by kernel_rfl)) (fun _ _ _ h => h) (Or.inl ⟨by rfl, ?_⟩) ?_ ?_
             rotate_left
             ·intro w'
              go_simp
              with_reducible rfl
             rotate_left
             ·simp only [Act.put, List.setIfInBounds_toArray, List.set_cons_zero, List.set_cons_succ, i64_w, i32_w]
              rfl
             refine pure_ (i := 2) (N := some 64) (v := ?_) (a' := ?_) #[true,true,true,false,false,false,false,false,false,false,false] rfl rfl (any_of HT_.out (by kernel_rfl)) (fun _ _ _ h => h) (Or.inl ⟨by rfl, ?_⟩) ?_ ?_
             rotate_left
             ·intro w'
              go_simp
              with_reducible rfl
             rotate_left
             ·simp only [Act.put, List.setIfInBounds_toArray, List.set_cons_zero, List.set_cons_succ, i64_w, i32_w]
              rfl
             refine pure_ (i := 3) (N := some 65) (v := ?_) (a' := ?_) #[true,true,true,true,false,false,false,false,false,false,false] rfl rfl (any_of HT_.out (by kernel_rfl)) (fun _ _ _ h => h) (Or.inl ⟨by rfl, ?_⟩) ?_ ?_
             rotate_left
             ·intro w'
              go_simp
              with_reducible rfl
             rotate_left
             ·simp only [Act.put, List.setIfInBounds_toArray, List.set_cons_zero, List.set_cons_succ, i64_w, i32_w]
              rfl
             refine pure_ (i := 4) (N := some 66) (v := ?_) (a' := ?_) #[true,true,true,true,true,false,false,false,false,false,false] rfl rfl (any_of HT_.out (by kernel_rfl)) (fun _ _ _ h => h) (Or.inl ⟨by rfl, ?_⟩) ?_ ?_
             rotate_left
             ·intro w'
              go_simp
              with_reducible rfl
             rotate_left
             ·simp only [Act.put, List.setIfInBounds_toArray, List.set_cons_zero, List.set_cons_succ, i64_w, i32_w]
              rfl
             refine pure_ (i := 6) (N := some 68) (v := ?_) (a' := ?_) #[true,true,true,true,true,false,true,false,false,false,false] rfl rfl (any_of HT_.out (by kernel_rfl)) (fun _ _ _ h => h) (Or.inl ⟨by rfl, ?_⟩) ?_ ?_
             rotate_left
             ·intro w'
              go_simp
              with_reducible rfl
             rotate_left
             ·simp only [Act.put, List.setIfInBounds_toArray, List.set_cons_zero, List.set_cons_succ, i64_w, i32_w]
              rfl
             refine take_ (i := 5) (N := some 67) (v := ?_) (a' := ?_) #[true,true,true,true,true,true,true,false,false,false,false] rfl rfl (take_ofW HT_.out HW_.out (by kernel_rfl)) (fun _ _ _ h => h) (Or.inl ⟨by rfl, ?_⟩) hHeld ?_ ?_
             rotate_left
             ·rintro w' ⟨s0, s1, s2, s3, s4⟩
              go_simp
              with_reducible rfl
             rotate_left
             ·simp only [Act.put, List.setIfInBounds_toArray, List.set_cons_zero, List.set_cons_succ, i64_w, i32_w]
              rfl
             refine take_ (i := 7) (N := some 69) (v := ?_) (a' := ?_) #[true,true,true,true,true,true,true,true,false,false,false] rfl rfl (take_ofW HT_.out HW_.out (by kernel_rfl)) (fun _ _ _ h => h) (Or.inl ⟨by rfl, ?_⟩) hHeld ?_ ?_
             rotate_left
             ·rintro w' ⟨s0, s1, s2, s3, s4⟩
              go_simp
              with_reducible rfl
             rotate_left
             ·simp only [Act.put, List.setIfInBounds_toArray, List.set_cons_zero, List.set_cons_succ, i64_w, i32_w]
              rfl
             refine pure_ (i := 8) (N := some 70) (v := ?_) (a' := ?_) #[true,true,true,true,true,true,true,true,true,false,false] rfl rfl (any_of HT_.out (by kernel_rfl)) (fun _ _ _ h => h) (Or.inl ⟨by rfl, ?_⟩) ?_ ?_
             rotate_left
             ·intro w'
              go_simp
              with_reducible rfl
             rotate_left
             ·simp only [Act.put, List.setIfInBounds_toArray, List.set_cons_zero, List.set_cons_succ, i64_w, i32_w]
              rfl
             refine pure_ (i := 9) (N := some 71) (v := ?_) (a' := ?_) #[true,true,true,true,true,true,true,true,true,true,false] rfl rfl (any_of HT_.out (by kernel_rfl)) (fun _ _ _ h => h) (Or.inl ⟨by rfl, ?_⟩) ?_ ?_
             rotate_left
             ·intro w'
              go_simp
              with_reducible rfl
             rotate_left
             ·simp only [Act.put, List.setIfInBounds_toArray, List.set_cons_zero, List.set_cons_succ, i64_w, i32_w]
              rfl
             refine pure_ (i := 10) (N := some 10) (v := ?_) (a' := ?_) #[true,true,true,true,true,true,true,true,true,true,true] rfl rfl (any_of HT_.out (by kernel_rfl)) (fun _ _ _ h => h) (Or.inl ⟨by rfl, ?_⟩) ?_ ?_
             rotate_left
             ·intro w'
              go_simp
              with_reducible rfl
             rotate_left
             ·simp only [Act.put, List.setIfInBounds_toArray, List.set_cons_zero, List.set_cons_succ, i64_w, i32_w]
              rfl
             refine done_ (done_of HT_.out (by kernel_rfl)) ?_
             try go_wp2
             have n0_ := Aside0.mk (Kd.R_drew HO_8.out)
             have n1_ := Aside0.mk (Kd.R_drew HO_9.out)
             have n2_ := Aside0.mk (blk_drew BK883.out)
             have n3_ := Aside0.mk (below_drew1 HB.out)
             clear HO_8
             clear HO_9
             clear BK883
             clear HB
             have HO_8 := n0_
             have HO_9 := n1_
             have BK883 := n2_
             have HB := n3_
             clear n0_ n1_ n2_ n3_
             have p910 : 0 ≤ (x11_2 : Int) := of_decide_eq_true (by first | (with_reducible assumption) | assumption)
             have q910 : x11_2 < (t898.length : Int) := of_decide_eq_true (by first | (with_reducible assumption) | assumption)
             obtain ⟨ad910, e910, hx910_0⟩ := Kd.at_string (Kd.R_reads' HO_8.out).2.2 x11_2 p910 q910
             obtain rfl : ad909 = ad910 := (by injection e910)
             replace p910 := eq_true p910
             replace q910 := eq_true q910
             have p911 : 0 ≤ ((ji58) : Int) := of_decide_eq_true (by first | (with_reducible assumption) | assumption)
             have q911 : (ji58) < (t898.length : Int) := of_decide_eq_true (by first | (with_reducible assumption) | assumption)
             obtain ⟨ad911, e911, hx911_0⟩ := Kd.at_string (Kd.R_reads' HO_8.out).2.2 (ji58) p911 q911
             obtain rfl : ad909 = ad911 := (by injection e911)
             replace p911 := eq_true p911
             replace q911 := eq_true q911
             refine start_ (n := 14) (S := fun w' => w'.cell? (ad909.add (x11_2).toNat) = some (.string (rdOf ByteArray.empty t898 x11_2)) ∧ w'.cell? (ad909.add ((ji58)).toNat) = some (.string (rdOf ByteArray.empty t898 (ji58)))) (ds := []) #[false,false,false,false,false,false,false,false,false,false,false,false,false,false] (by kernel_rfl) rfl rfl ⟨hx910_0, hx911_0⟩ (fun hHeld => ?_); refine with_tabW law08_PairElems.tab13 law08_PairElems.bits13 (fun HT_ HW_ => ?_)
             generalize w66.drew = w67 at HO_8 HO_9 BK883 HB hx910_0 hx911_0 hHeld ⊢
             refine pure_ (i := 0) (N := some 72) (v := ?_) (a' := ?_) #[true,false,false,false,false,false,false,false,false,false,false,false,false,false] rfl rfl (any_of HT_.out (by kernel_rfl)) (fun _ _ _ h => h) (Or.inl ⟨by rfl, ?_⟩) ?_ ?_
             rotate_left
             ·intro w'
              go_simp
              with_reducible rfl
             rotate_left
             ·simp only [Act.put, List.setIfInBounds_toArray, List.set_cons_zero, List.set_cons_succ, i64_w, i32_w]
              rfl
             refine pure_ (i := 1) (N := some 73) (v := ?_) (a' := ?_) #[true,true,false,false,false,false,false,false,false,false,false,false,false,false] rfl rfl (any_of HT_.out (by kernel_rfl)) (fun _ _ _ h => h) (Or.inl ⟨by rfl, ?_⟩) ?_ ?_
             rotate_left
             ·intro w'
              go_simp
              with_reducible rfl
             rotate_left
             ·simp only [Act.put, List.setIfInBounds_toArray, List.set_cons_zero, List.set_cons_succ, i64_w, i32_w]
              rfl
             refine pure_ (i := 2) (N := some 74) (v := ?_) (a' := ?_) #[true,true,true,false,false,false,false,false,false,false,false,false,false,false] rfl rfl (any_of HT_.out (by kernel_rfl)) (fun _ _ _ h => h) (Or.inl ⟨by rfl, ?_⟩) ?_ ?_
             rotate_left
             ·intro w'
              go_simp
              with_reducible rfl
             rotate_left
             ·simp only [Act.put, List.setIfInBounds_toArray, List.set_cons_zero, List.set_cons_succ, i64_w, i32_w]
              rfl
             refine pure_ (i := 3) (N := some 75) (v := ?_) (a' := ?_) #[true,true,true,true,false,false,false,false,false,false,false,false,false,false] rfl rfl (any_of HT_.out (by kernel_rfl)) (fun _ _ _ h => h) (Or.inl ⟨by rfl, ?_⟩) ?_ ?_
             rotate_left
             ·intro w'
              go_simp
              with_reducible rfl
             rotate_left
             ·simp only [Act.put, List.setIfInBounds_toArray, List.set_cons_zero, List.set_cons_succ, i64_w, i32_w]
              rfl
             refine pure_ (i := 4) (N := some 76) (v := ?_) (a' := ?_) #[true,true,true,true,true,false,false,false,false,false,false,false,false,false] rfl rfl (any_of HT_.out (by kernel_rfl)) (fun _ _ _ h => h) (Or.inl ⟨by rfl, ?_⟩) ?_ ?_
             rotate_left
             ·intro w'
              go_simp
              with_reducible rfl
             rotate_left
             ·simp only [Act.put, List.setIfInBounds_toArray, List.set_cons_zero, List.set_cons_succ, i64_w, i32_w]
              rfl
             refine pure_ (i := 5) (N := some 77) (v := ?_) (a' := ?_) #[true,true,true,true,true,true,false,false,false,false,false,false,false,false] rfl rfl (any_of HT_.out (by kernel_rfl)) (fun _ _ _ h => h) (Or.inl ⟨by rfl, ?_⟩) ?_ ?_
             rotate_left
             ·intro w'
              go_simp
              with_reducible rfl
             rotate_left
             ·simp only [Act.put, List.setIfInBounds_toArray, List.set_cons_zero, List.set_cons_succ, i64_w, i32_w]
              rfl
             refine pure_ (i := 7) (N := some 79) (v := ?_) (a' := ?_) #[true,true,true,true,true,true,false,true,false,false,false,false,false,false] rfl rfl (any_of HT_.out (by kernel_rfl)) (fun _ _ _ h => h) (Or.inl ⟨by rfl, ?_⟩) ?_ ?_
             rotate_left
             ·intro w'
              go_simp
              with_reducible rfl
             rotate_left
             ·simp only [Act.put, List.setIfInBounds_toArray, List.set_cons_zero, List.set_cons_succ, i64_w, i32_w]
              rfl
             refine pure_ (i := 8) (N := some 80) (v := ?_) (a' := ?_) #[true,true,true,true,true,true,false,true,true,false,false,false,false,false] rfl rfl (any_of HT_.out (by kernel_rfl)) (fun _ _ _ h => h) (Or.inl ⟨by rfl, ?_⟩) ?_ ?_
             rotate_left
             ·intro w'
              go_simp
              with_reducible rfl
             rotate_left
             ·simp only [Act.put, List.setIfInBounds_toArray, List.set_cons_zero, List.set_cons_succ, i64_w, i32_w]
              rfl
             refine pure_ (i := 9) (N := some 81) (v := ?_) (a' := ?_) #[true,true,true,true,true,true,false,true,true,true,false,false,false,false] rfl rfl (any_of HT_.out (by kernel_rfl)) (fun _ _ _ h => h) (Or.inl ⟨by rfl, ?_⟩) ?_ ?_
             rotate_left
             ·intro w'
              go_simp
              with_reducible rfl
             rotate_left
             ·simp only [Act.put, List.setIfInBounds_toArray, List.set_cons_zero, List.set_cons_succ, i64_w, i32_w]
              rfl
             refine pure_ (i := 10) (N := some 82) (v := ?_) (a' := ?_) #[true,true,true,true,true,true,false,true,true,true,true,false,false,false] rfl rfl (any_of HT_.out (by kernel_rfl)) (fun _ _ _ h => h) (Or.inl ⟨by rfl, ?_⟩) ?_ ?_
             rotate_left
             ·intro w'
              go_simp
              with_reducible rfl
             rotate_left
             ·simp only [Act.put, List.setIfInBounds_toArray, List.set_cons_zero, List.set_cons_succ, i64_w, i32_w]
              rfl
             refine take_ (i := 6) (N := some 78) (v := ?_) (a' := ?_) #[true,true,true,true,true,true,true,true,true,true,true,false,false,false] rfl rfl (take_ofW HT_.out HW_.out (by kernel_rfl)) (fun _ _ _ h => h) (Or.inl ⟨by rfl, ?_⟩) hHeld ?_ ?_
             rotate_left
             ·rintro w' ⟨s0, s1⟩
              go_simp
              with_reducible rfl
             rotate_left
             ·simp only [Act.put, List.setIfInBounds_toArray, List.set_cons_zero, List.set_cons_succ, i64_w, i32_w]
              rfl
             refine take_ (i := 11) (N := some 83) (v := ?_) (a' := ?_) #[true,true,true,true,true,true,true,true,true,true,true,true,false,false] rfl rfl (take_ofW HT_.out HW_.out (by kernel_rfl)) (fun _ _ _ h => h) (Or.inl ⟨by rfl, ?_⟩) hHeld ?_ ?_
             rotate_left
             ·rintro w' ⟨s0, s1⟩
              go_simp
              with_reducible rfl
             rotate_left
             ·simp only [Act.put, List.setIfInBounds_toArray, List.set_cons_zero, List.set_cons_succ, i64_w, i32_w]
              rfl
             refine pure_ (i := 12) (N := some 84) (v := ?_) (a' := ?_) #[true,true,true,true,true,true,true,true,true,true,true,true,true,false] rfl rfl (any_of HT_.out (by kernel_rfl)) (fun _ _ _ h => h) (Or.inl ⟨by rfl, ?_⟩) ?_ ?_
             rotate_left
             ·intro w'
              go_simp
              with_reducible rfl
             rotate_left
             ·simp only [Act.put, List.setIfInBounds_toArray, List.set_cons_zero, List.set_cons_succ, i64_w, i32_w]
              rfl
             refine pure_ (i := 13) (N := some 85) (v := ?_) (a' := ?_) #[true,true,true,true,true,true,true,true,true,true,true,true,true,true] rfl rfl (any_of HT_.out (by kernel_rfl)) (fun _ _ _ h => h) (Or.inl ⟨by rfl, ?_⟩) ?_ ?_
             rotate_left
             ·intro w'
              go_simp
              with_reducible rfl
             rotate_left
             ·simp only [Act.put, List.setIfInBounds_toArray, List.set_cons_zero, List.set_cons_succ, i64_w, i32_w]
              rfl
             refine done_ (done_of HT_.out (by kernel_rfl)) ?_
             try go_wp2
             go_ret
             exact ⟨by first | rfl | (simp [errW_none, errW_some] <;> rfl) | (simp only [← hji58]; first | rfl | (simp [errW_none, errW_some] <;> rfl)) | (simp [*, errW_none, errW_some] <;> rfl), by repeat (first | (with_reducible first | exact HB.out | apply below_alloc | apply pw_below_drewN | apply below_drew1 | refine below_set ?_ GE883.out) | exact HB.out)⟩
           ·rw [if_neg c60] at H
            exact absurd H (by simp)
          ·rw [if_neg c59] at H
           exact absurd H (by simp)
         ·rw [if_neg c57] at H
          have c57b0 : decide (0 < x11_2) = false := decide_eq_false c57
          clear c57
          have H' := Aside0.mk H
          clear H
          obtain ⟨Ao68, co68, eo68⟩ := Kd.R_slice HO_8.out
          subst eo68
          try go_wp2
          have n0_ := Aside0.mk (Kd.R_drew HO_8.out)
          have n1_ := Aside0.mk (Kd.R_drew HO_9.out)
          have n2_ := Aside0.mk (blk_drew BK883.out)
          have n3_ := Aside0.mk (below_drew1 HB.out)
          clear HO_8
          clear HO_9
          clear BK883
          clear HB
          have HO_8 := n0_
          have HO_9 := n1_
          have BK883 := n2_
          have HB := n3_
          clear n0_ n1_ n2_ n3_
          have p909 : 0 ≤ (x11_2 : Int) := of_decide_eq_true (by first | (with_reducible assumption) | assumption)
          have q909 : x11_2 < (t898.length : Int) := of_decide_eq_true (by first | (with_reducible assumption) | assumption)
          obtain ⟨ad909, e909, hx909_0⟩ := Kd.at_string (Kd.R_reads' HO_8.out).2.2 x11_2 p909 q909
          cases e909
          replace p909 := eq_true p909
          replace q909 := eq_true q909
          refine start_ (n := 11) (S := fun w' => w'.cell? ⟨gb883, 0, none⟩ = some (.string a1_0) ∧ w'.cell? ⟨gb883, 1, none⟩ = some (.string a1_1) ∧ w'.cell? ⟨gb883, 2, none⟩ = some (.int .i64 a1_2) ∧ w'.cell? ⟨gb883, 3, none⟩ = some (.int .i64 a1_3) ∧ w'.cell? (ad909.add (x11_2).toNat) = some (.string (rdOf ByteArray.empty t898 x11_2))) (ds := []) #[false,false,false,false,false,false,false,false,false,false,false] (by kernel_rfl) rfl rfl ⟨(blk_cell BK883.out 0).trans rfl, (blk_cell BK883.out 1).trans rfl, (blk_cell BK883.out 2).trans rfl, (blk_cell BK883.out 3).trans rfl, hx909_0⟩ (fun hHeld => ?_); refine with_tabW law08_PairElems.tab12 law08_PairElems.bits12 (fun HT_ HW_ => ?_)
          generalize wr.drew = w69 at HO_8 HO_9 BK883 HB hx909_0 hHeld ⊢
          refine pure_ (i := 0) (N := some 62) (v := ?_) (a' := ?_) #[true,false,false,false,false,false,false,false,false,false,false] rfl rfl (any_of HT_.out (by kernel_rfl)) (fun _ _ _ h => h) (Or.inl ⟨by rfl, ?_⟩) ?_ ?_
          rotate_left
          ·intro w'
           go_simp
           with_reducible rfl
          rotate_left
          ·simp only [Act.put, List.setIfInBounds_toArray, List.set_cons_zero, List.set_cons_succ, i64_w, i32_w]
           rfl
          refine pure_ (i := 1) (N := some 63) (v := ?_) (a' := ?_) #[true,true,false,false,false,false,false,false,false,false,false] rfl rfl (any_of HT_.out (by kernel_rfl)) (fun _ _ _ h => h) (Or.inl ⟨by rfl, ?_⟩) ?_ ?_
          rotate_left
          ·intro w'
           go_simp
           with_reducible rfl
          rotate_left
          ·simp only [Act.put, List.setIfInBounds_toArray, List.set_cons_zero, List.set_cons_succ, i64_w, i32_w]
           rfl
          refine pure_ (i := 2) (N := some 64) (v := ?_) (a' := ?_) #[true,true,true,false,false,false,false,false,false,false,false] rfl rfl (any_of HT_.out (by kernel_rfl)) (fun _ _ _ h => h) (Or.inl ⟨by rfl, ?_⟩) ?_ ?_
          rotate_left
          ·intro w'
           go_simp
           with_reducible rfl
          rotate_left
          ·simp only [Act.put, List.setIfInBounds_toArray, List.set_cons_zero, List.set_cons_succ, i64_w, i32_w]
           rfl
          refine pure_ (i := 3) (N := some 65) (v := ?_) (a' := ?_) #[true,true,true,true,false,false,false,false,false,false,false] rfl rfl (any_of HT_.out (by kernel_rfl)) (fun _ _ _ h => h) (Or.inl ⟨by rfl, ?_⟩) ?_ ?_
          rotate_left
          ·intro w'
           go_simp
           with_reducible rfl
          rotate_left
          ·simp only [Act.put, List.setIfInBounds_toArray, List.set_cons_zero, List.set_cons_succ, i64_w, i32_w]
           rfl
          refine pure_ (i := 4) (N := some 66) (v := ?_) (a' := ?_) #[true,true,true,true,true,false,false,false,false,false,false] rfl rfl (any_of HT_.out (by kernel_rfl)) (fun _ _ _ h => h) (Or.inl ⟨by rfl, ?_⟩) ?_ ?_
          rotate_left
          ·intro w'
           go_simp
           with_reducible rfl
          rotate_left
          ·simp only [Act.put, List.setIfInBounds_toArray, List.set_cons_zero, List.set_cons_succ, i64_w, i32_w]
           rfl
          refine pure_ (i := 6) (N := some 68) (v := ?_) (a' := ?_) #[true,true,true,true,true,false,true,false,false,false,false] rfl rfl (any_of HT_.out (by kernel_rfl)) (fun _ _ _ h => h) (Or.inl ⟨by rfl, ?_⟩) ?_ ?_
          rotate_left
          ·intro w'
           go_simp
           with_reducible rfl
          rotate_left
          ·simp only [Act.put, List.setIfInBounds_toArray, List.set_cons_zero, List.set_cons_succ, i64_w, i32_w]
           rfl
          refine take_ (i := 5) (N := some 67) (v := ?_) (a' := ?_) #[true,true,true,true,true,true,true,false,false,false,false] rfl rfl (take_ofW HT_.out HW_.out (by kernel_rfl)) (fun _ _ _ h => h) (Or.inl ⟨by rfl, ?_⟩) hHeld ?_ ?_
          rotate_left
          ·rintro w' ⟨s0, s1, s2, s3, s4⟩
           go_simp
           with_reducible rfl
          rotate_left
          ·simp only [Act.put, List.setIfInBounds_toArray, List.set_cons_zero, List.set_cons_succ, i64_w, i32_w]
           rfl
          refine take_ (i := 7) (N := some 69) (v := ?_) (a' := ?_) #[true,true,true,true,true,true,true,true,false,false,false] rfl rfl (take_ofW HT_.out HW_.out (by kernel_rfl)) (fun _ _ _ h => h) (Or.inl ⟨by rfl, ?_⟩) hHeld ?_ ?_
          rotate_left
          ·rintro w' ⟨s0, s1, s2, s3, s4⟩
           go_simp
           with_reducible rfl
          rotate_left
          ·simp only [Act.put, List.setIfInBounds_toArray, List.set_cons_zero, List.set_cons_succ, i64_w, i32_w]
           rfl
          refine pure_ (i := 8) (N := some 70) (v := ?_) (a' := ?_) #[true,true,true,true,true,true,true,true,true,false,false] rfl rfl (any_of HT_.out (by kernel_rfl)) (fun _ _ _ h => h) (Or.inl ⟨by rfl, ?_⟩) ?_ ?_
          rotate_left
          ·intro w'
           go_simp
           with_reducible rfl
          rotate_left
          ·simp only [Act.put, List.setIfInBounds_toArray, List.set_cons_zero, List.set_cons_succ, i64_w, i32_w]
           rfl
          refine pure_ (i := 9) (N := some 71) (v := ?_) (a' := ?_) #[true,true,true,true,true,true,true,true,true,true,false] rfl rfl (any_of HT_.out (by kernel_rfl)) (fun _ _ _ h => h) (Or.inl ⟨by rfl, ?_⟩) ?_ ?_
          rotate_left
          ·intro w'
           go_simp
           with_reducible rfl
          rotate_left
          ·simp only [Act.put, List.setIfInBounds_toArray, List.set_cons_zero, List.set_cons_succ, i64_w, i32_w]
           rfl
          refine pure_ (i := 10) (N := some 10) (v := ?_) (a' := ?_) #[true,true,true,true,true,true,true,true,true,true,true] rfl rfl (any_of HT_.out (by kernel_rfl)) (fun _ _ _ h => h) (Or.inl ⟨by rfl, ?_⟩) ?_ ?_
          rotate_left
          ·intro w'
           go_simp
           with_reducible rfl
          rotate_left
          ·simp only [Act.put, List.setIfInBounds_toArray, List.set_cons_zero, List.set_cons_succ, i64_w, i32_w]
           rfl
          refine done_ (done_of HT_.out (by kernel_rfl)) ?_
          try go_wp2
          have n0_ := Aside0.mk (Kd.R_drew HO_8.out)
          have n1_ := Aside0.mk (Kd.R_drew HO_9.out)
          have n2_ := Aside0.mk (blk_drew BK883.out)
          have n3_ := Aside0.mk (below_drew1 HB.out)
          clear HO_8
          clear HO_9
          clear BK883
          clear HB
          have HO_8 := n0_
          have HO_9 := n1_
          have BK883 := n2_
          have HB := n3_
          clear n0_ n1_ n2_ n3_
          refine start_ (n := 14) (S := fun w' => True) (ds := []) #[false,false,false,false,false,false,false,false,false,false,false,false,false,false] (by kernel_rfl) rfl rfl trivial (fun hHeld => ?_); refine with_tabW law08_PairElems.tab13 law08_PairElems.bits13 (fun HT_ HW_ => ?_)
          generalize w69.drew = w70 at HO_8 HO_9 BK883 HB hHeld ⊢
          refine pure_ (i := 0) (N := some 72) (v := ?_) (a' := ?_) #[true,false,false,false,false,false,false,false,false,false,false,false,false,false] rfl rfl (any_of HT_.out (by kernel_rfl)) (fun _ _ _ h => h) (Or.inl ⟨by rfl, ?_⟩) ?_ ?_
          rotate_left
          ·intro w'
           go_simp
           with_reducible rfl
          rotate_left
          ·simp only [Act.put, List.setIfInBounds_toArray, List.set_cons_zero, List.set_cons_succ, i64_w, i32_w]
           rfl
          refine pure_ (i := 1) (N := some 73) (v := ?_) (a' := ?_) #[true,true,false,false,false,false,false,false,false,false,false,false,false,false] rfl rfl (any_of HT_.out (by kernel_rfl)) (fun _ _ _ h => h) (Or.inl ⟨by rfl, ?_⟩) ?_ ?_
          rotate_left
          ·intro w'
           go_simp
           with_reducible rfl
          rotate_left
          ·simp only [Act.put, List.setIfInBounds_toArray, List.set_cons_zero, List.set_cons_succ, i64_w, i32_w]
           rfl
          refine pure_ (i := 2) (N := some 74) (v := ?_) (a' := ?_) #[true,true,true,false,false,false,false,false,false,false,false,false,false,false] rfl rfl (any_of HT_.out (by kernel_rfl)) (fun _ _ _ h => h) (Or.inl ⟨by rfl, ?_⟩) ?_ ?_
          rotate_left
          ·intro w'
           go_simp
           with_reducible rfl
          rotate_left
          ·simp only [Act.put, List.setIfInBounds_toArray, List.set_cons_zero, List.set_cons_succ, i64_w, i32_w]
           rfl
          refine pure_ (i := 3) (N := some 75) (v := undef) (a' := ?_) #[true,true,true,true,false,false,false,false,false,false,false,false,false,false] rfl rfl (any_of HT_.out (by kernel_rfl)) (fun _ _ _ h => h) (Or.inr ⟨by rfl, rfl⟩) ?_ ?_
          rotate_left
          ·simp only [Act.put, List.setIfInBounds_toArray, List.set_cons_zero, List.set_cons_succ, i64_w, i32_w]
           rfl
          refine pure_ (i := 4) (N := some 76) (v := undef) (a' := ?_) #[true,true,true,true,true,false,false,false,false,false,false,false,false,false] rfl rfl (any_of HT_.out (by kernel_rfl)) (fun _ _ _ h => h) (Or.inr ⟨by rfl, rfl⟩) ?_ ?_
          rotate_left
          ·simp only [Act.put, List.setIfInBounds_toArray, List.set_cons_zero, List.set_cons_succ, i64_w, i32_w]
           rfl
          refine pure_ (i := 5) (N := some 77) (v := undef) (a' := ?_) #[true,true,true,true,true,true,false,false,false,false,false,false,false,false] rfl rfl (any_of HT_.out (by kernel_rfl)) (fun _ _ _ h => h) (Or.inr ⟨by rfl, rfl⟩) ?_ ?_
          rotate_left
          ·simp only [Act.put, List.setIfInBounds_toArray, List.set_cons_zero, List.set_cons_succ, i64_w, i32_w]
           rfl
          refine pure_ (i := 6) (N := some 78) (v := undef) (a' := ?_) #[true,true,true,true,true,true,true,false,false,false,false,false,false,false] rfl rfl (any_of HT_.out (by kernel_rfl)) (fun _ _ _ h => h) (Or.inr ⟨by rfl, rfl⟩) ?_ ?_
          rotate_left
          ·simp only [Act.put, List.setIfInBounds_toArray, List.set_cons_zero, List.set_cons_succ, i64_w, i32_w]
           rfl
          refine pure_ (i := 7) (N := some 79) (v := undef) (a' := ?_) #[true,true,true,true,true,true,true,true,false,false,false,false,false,false] rfl rfl (any_of HT_.out (by kernel_rfl)) (fun _ _ _ h => h) (Or.inr ⟨by rfl, rfl⟩) ?_ ?_
          rotate_left
          ·simp only [Act.put, List.setIfInBounds_toArray, List.set_cons_zero, List.set_cons_succ, i64_w, i32_w]
           rfl
          refine pure_ (i := 8) (N := some 80) (v := undef) (a' := ?_) #[true,true,true,true,true,true,true,true,true,false,false,false,false,false] rfl rfl (any_of HT_.out (by kernel_rfl)) (fun _ _ _ h => h) (Or.inr ⟨by rfl, rfl⟩) ?_ ?_
          rotate_left
          ·simp only [Act.put, List.setIfInBounds_toArray, List.set_cons_zero, List.set_cons_succ, i64_w, i32_w]
           rfl
          refine pure_ (i := 9) (N := some 81) (v := undef) (a' := ?_) #[true,true,true,true,true,true,true,true,true,true,false,false,false,false] rfl rfl (any_of HT_.out (by kernel_rfl)) (fun _ _ _ h => h) (Or.inr ⟨by rfl, rfl⟩) ?_ ?_
          rotate_left
          ·simp only [Act.put, List.setIfInBounds_toArray, List.set_cons_zero, List.set_cons_succ, i64_w, i32_w]
           rfl
          refine pure_ (i := 10) (N := some 82) (v := undef) (a' := ?_) #[true,true,true,true,true,true,true,true,true,true,true,false,false,false] rfl rfl (any_of HT_.out (by kernel_rfl)) (fun _ _ _ h => h) (Or.inr ⟨by rfl, rfl⟩) ?_ ?_
          rotate_left
          ·simp only [Act.put, List.setIfInBounds_toArray, List.set_cons_zero, List.set_cons_succ, i64_w, i32_w]
           rfl
          refine pure_ (i := 11) (N := some 83) (v := undef) (a' := ?_) #[true,true,true,true,true,true,true,true,true,true,true,true,false,false] rfl rfl (any_of HT_.out (by kernel_rfl)) (fun _ _ _ h => h) (Or.inr ⟨by rfl, rfl⟩) ?_ ?_
          rotate_left
          ·simp only [Act.put, List.setIfInBounds_toArray, List.set_cons_zero, List.set_cons_succ, i64_w, i32_w]
           rfl
          refine pure_ (i := 12) (N := some 84) (v := undef) (a' := ?_) #[true,true,true,true,true,true,true,true,true,true,true,true,true,false] rfl rfl (any_of HT_.out (by kernel_rfl)) (fun _ _ _ h => h) (Or.inr ⟨by rfl, rfl⟩) ?_ ?_
          rotate_left
          ·simp only [Act.put, List.setIfInBounds_toArray, List.set_cons_zero, List.set_cons_succ, i64_w, i32_w]
           rfl
          refine pure_ (i := 13) (N := some 85) (v := ?_) (a' := ?_) #[true,true,true,true,true,true,true,true,true,true,true,true,true,true] rfl rfl (any_of HT_.out (by kernel_rfl)) (fun _ _ _ h => h) (Or.inl ⟨by rfl, ?_⟩) ?_ ?_
          rotate_left
          ·intro w'
           go_simp
           with_reducible rfl
          rotate_left
          ·simp only [Act.put, List.setIfInBounds_toArray, List.set_cons_zero, List.set_cons_succ, i64_w, i32_w]
           rfl
          refine done_ (done_of HT_.out (by kernel_rfl)) ?_
          try go_wp2
          go_roundg k2
          case measure => have := HJ5.out; have := HK2.out; omega
          case rel => exact ⟨(((rdOf ByteArray.empty t898 x11_2).toList == a1_1.toList)), (wrap64 (x11_2 + 1)), (by first | rfl | (simp; done) | (simp [*]; done)), (by first | rfl | (simp; done) | (simp [*]; done)), H', ⟨by have := HJ5.out; have := HK2.out; omega⟩, ⟨by (with_reducible repeat (first | apply Kd.R_alloc | apply Kd.R_drewN | apply Kd.R_drew)); exact HO_8.out⟩, ⟨by (with_reducible repeat (first | apply Kd.R_alloc | apply Kd.R_drewN | apply Kd.R_drew)); exact HO_9.out⟩, ⟨by (with_reducible repeat (first | refine blk_drewN ?_ _ | refine blk_drew ?_ | refine blk_alloc ?_ _)); exact BK883.out⟩, ⟨by repeat (first | (with_reducible first | exact HB.out | apply below_alloc | apply pw_below_drewN | apply below_drew1 | refine below_set ?_ GE883.out) | exact HB.out)⟩⟩
        ·rw [if_neg c56] at H
         exact absurd H (by simp)
      ·rw [if_neg c39] at H
       have c39b0 : decide (x11_2 < (t898.length : Int)) = false := decide_eq_false c39
       clear c39
       have H' := Aside0.mk H
       clear H
       obtain ⟨Ao71, co71, eo71⟩ := Kd.R_slice HO_8.out
       subst eo71
       go_wp2
       go_loopg [12] k2 (fun kq v12 w' => ∃ (x12_3 : Int), v12 = .int .i64 x12_3 ∧ Aside0 (law08_PairElems.l1 kq t898 t904 x10_2 x12_3 a1_0 a1_1 a1_2 a1_3 = some r) ∧ Aside0 (kq ≤ k2) ∧ Aside0 (Kd.R Kd.string 9 w' w.heap.size (fun k_ => some k_ ≠ (v905 : Value).ownBlock) (.slice Ao71 t898.length co71) t898) ∧ Aside0 (Kd.R Kd.string 9 w' w.heap.size (fun k_ => some k_ ≠ ((.slice Ao71 t898.length co71) : Value).ownBlock) v905 t904) ∧ Aside0 (w'.heap[gb883]? = some (.cells #[.string a1_0, .string a1_1, .int .i64 a1_2, .int .i64 a1_3] 57 (0, 0))) ∧ Aside0 (Below w.heap.size w w'))
       case atStart => exact ⟨(0), (by first | rfl | (simp; done) | (simp [*]; done)), H', ⟨Nat.le_refl _⟩, ⟨by (with_reducible repeat (first | apply Kd.R_alloc | apply Kd.R_drewN | apply Kd.R_drew)); exact HO_8.out⟩, ⟨by (with_reducible repeat (first | apply Kd.R_alloc | apply Kd.R_drewN | apply Kd.R_drew)); exact HO_9.out⟩, ⟨by (with_reducible repeat (first | refine blk_drewN ?_ _ | refine blk_drew ?_ | refine blk_alloc ?_ _)); exact BK883.out⟩, ⟨by repeat (first | (with_reducible first | exact HB.out | apply below_alloc | apply pw_below_drewN | apply below_drew1 | refine below_set ?_ GE883.out) | exact HB.out)⟩⟩
       case round =>
        clear H'
        try clear p2
        try clear c3
        try clear c5
        try clear c6
        try clear p6
        try clear p9
        try clear q9
        try clear hx9
        try clear c39
        try clear c39b0
        try clear c56
        try clear c57
        try clear c57b0
        try clear c59
        try clear c60
        try clear c61
        try clear c61b0
        try clear p64
        try clear hx909_0
        try clear hx910_0
        try clear hx911_0
        try clear p909
        try clear p910
        try clear p911
        try clear q909
        try clear q910
        try clear q911
        obtain ⟨x12_3, rfl, HA, HK3, HO_8, HO_9, BK883, HB⟩ := hrel
        cases gk with
        | zero => exact absurd HA.out (by simp [law08_PairElems.l1])
        | succ k3 =>
         have H := HA.out
         clear HA
         simp only [law08_PairElems.l1] at H
         by_cases c72 : x12_3 < (t904.length : Int)
         ·rw [if_pos c72] at H
          have c72b0 : decide (x12_3 < (t904.length : Int)) = true := decide_eq_true c72
          clear c72
          by_cases c73 : 0 ≤ x12_3
          ·rw [if_pos c73] at H
           have c73b0 : decide (0 ≤ x12_3) = true := decide_eq_true c73
           clear c73
           by_cases c74 : (rdOf ByteArray.empty t904 x12_3).toList = a1_1.toList
           ·rw [if_pos c74] at H
            have c74b0 : ((rdOf ByteArray.empty t904 x12_3).toList == a1_1.toList) = true := beq_iff_eq.mpr c74
            have c74b1 : ((rdOf ByteArray.empty t904 x12_3).toList != a1_1.toList) = false := bne_eq_false_iff_eq.mpr c74
            clear c74
            obtain rfl := Option.some.inj H
            obtain ⟨Ao75, co75, eo75⟩ := Kd.R_slice HO_9.out
            subst eo75
            try go_wp2
            have n0_ := Aside0.mk (Kd.R_drew HO_8.out)
            have n1_ := Aside0.mk (Kd.R_drew HO_9.out)
            have n2_ := Aside0.mk (blk_drew BK883.out)
            have n3_ := Aside0.mk (below_drew1 HB.out)
            clear HO_8
            clear HO_9
            clear BK883
            clear HB
            have HO_8 := n0_
            have HO_9 := n1_
            have BK883 := n2_
            have HB := n3_
            clear n0_ n1_ n2_ n3_
            have p912 : 0 ≤ (x12_3 : Int) := of_decide_eq_true (by first | (with_reducible assumption) | assumption)
            have q912 : x12_3 < (t904.length : Int) := of_decide_eq_true (by first | (with_reducible assumption) | assumption)
            obtain ⟨ad912, e912, hx912_0⟩ := Kd.at_string (Kd.R_reads' HO_9.out).2.2 x12_3 p912 q912
            cases e912
            replace p912 := eq_true p912
            replace q912 := eq_true q912
            refine start_ (n := 7) (S := fun w' => w'.cell? ⟨gb883, 0, none⟩ = some (.string a1_0) ∧ w'.cell? ⟨gb883, 1, none⟩ = some (.string a1_1) ∧ w'.cell? ⟨gb883, 2, none⟩ = some (.int .i64 a1_2) ∧ w'.cell? ⟨gb883, 3, none⟩ = some (.int .i64 a1_3) ∧ w'.cell? (ad912.add (x12_3).toNat) = some (.string (rdOf ByteArray.empty t904 x12_3))) (ds := []) #[false,false,false,false,false,false,false] (by kernel_rfl) rfl rfl ⟨(blk_cell BK883.out 0).trans rfl, (blk_cell BK883.out 1).trans rfl, (blk_cell BK883.out 2).trans rfl, (blk_cell BK883.out 3).trans rfl, hx912_0⟩ (fun hHeld => ?_)
            generalize wr.drew = w76 at HO_8 HO_9 BK883 HB hx912_0 hHeld ⊢
            refine pure_ (i := 0) (N := some 92) (v := ?_) (a' := ?_) #[true,false,false,false,false,false,false] rfl rfl (by kernel_rfl) (fun _ _ _ h => h) (Or.inl ⟨by rfl, ?_⟩) ?_ ?_
            rotate_left
            ·intro w'
             go_simp
             with_reducible rfl
            rotate_left
            ·simp only [Act.put, List.setIfInBounds_toArray, List.set_cons_zero, List.set_cons_succ, i64_w, i32_w]
             rfl
            refine pure_ (i := 1) (N := some 93) (v := ?_) (a' := ?_) #[true,true,false,false,false,false,false] rfl rfl (by kernel_rfl) (fun _ _ _ h => h) (Or.inl ⟨by rfl, ?_⟩) ?_ ?_
            rotate_left
            ·intro w'
             go_simp
             with_reducible rfl
            rotate_left
            ·simp only [Act.put, List.setIfInBounds_toArray, List.set_cons_zero, List.set_cons_succ, i64_w, i32_w]
             rfl
            refine pure_ (i := 2) (N := some 94) (v := ?_) (a' := ?_) #[true,true,true,false,false,false,false] rfl rfl (by kernel_rfl) (fun _ _ _ h => h) (Or.inl ⟨by rfl, ?_⟩) ?_ ?_
            rotate_left
            ·intro w'
             go_simp
             with_reducible rfl
            rotate_left
            ·simp only [Act.put, List.setIfInBounds_toArray, List.set_cons_zero, List.set_cons_succ, i64_w, i32_w]
             rfl
            refine pure_ (i := 4) (N := some 96) (v := ?_) (a' := ?_) #[true,true,true,false,true,false,false] rfl rfl (by kernel_rfl) (fun _ _ _ h => h) (Or.inl ⟨by rfl, ?_⟩) ?_ ?_
            rotate_left
            ·intro w'
             go_simp
             with_reducible rfl
            rotate_left
            ·simp only [Act.put, List.setIfInBounds_toArray, List.set_cons_zero, List.set_cons_succ, i64_w, i32_w]
             rfl
            refine take_ (i := 3) (N := some 95) (v := ?_) (a' := ?_) #[true,true,true,true,true,false,false] rfl rfl (by kernel_rfl) (fun _ _ _ h => h) (Or.inl ⟨by rfl, ?_⟩) hHeld ?_ ?_
            rotate_left
            ·rintro w' ⟨s0, s1, s2, s3, s4⟩
             go_simp
             with_reducible rfl
            rotate_left
            ·simp only [Act.put, List.setIfInBounds_toArray, List.set_cons_zero, List.set_cons_succ, i64_w, i32_w]
             rfl
            refine take_ (i := 5) (N := some 97) (v := ?_) (a' := ?_) #[true,true,true,true,true,true,false] rfl rfl (by kernel_rfl) (fun _ _ _ h => h) (Or.inl ⟨by rfl, ?_⟩) hHeld ?_ ?_
            rotate_left
            ·rintro w' ⟨s0, s1, s2, s3, s4⟩
             go_simp
             with_reducible rfl
            rotate_left
            ·simp only [Act.put, List.setIfInBounds_toArray, List.set_cons_zero, List.set_cons_succ, i64_w, i32_w]
             rfl
            refine pure_ (i := 6) (N := some 98) (v := ?_) (a' := ?_) #[true,true,true,true,true,true,true] rfl rfl (by kernel_rfl) (fun _ _ _ h => h) (Or.inl ⟨by rfl, ?_⟩) ?_ ?_
            rotate_left
            ·intro w'
             go_simp
             with_reducible rfl
            rotate_left
            ·simp only [Act.put, List.setIfInBounds_toArray, List.set_cons_zero, List.set_cons_succ, i64_w, i32_w]
             rfl
            refine done_ (by kernel_rfl) ?_
            try go_wp2
            go_ret
            exact ⟨by first | rfl | (simp [errW_none, errW_some] <;> rfl) | (simp [*, errW_none, errW_some] <;> rfl), by repeat (first | (with_reducible first | exact HB.out | apply below_alloc | apply pw_below_drewN | apply below_drew1 | refine below_set ?_ GE883.out) | exact HB.out)⟩
           ·rw [if_neg c74] at H
            have c74b0 : ((rdOf ByteArray.empty t904 x12_3).toList == a1_1.toList) = false := beq_eq_false_iff_ne.mpr c74
            have c74b1 : ((rdOf ByteArray.empty t904 x12_3).toList != a1_1.toList) = true := bne_iff_ne.mpr c74
            have H' := Aside0.mk H
            clear H
            obtain ⟨Ao77, co77, eo77⟩ := Kd.R_slice HO_9.out
            subst eo77
            try go_wp2
            have n0_ := Aside0.mk (Kd.R_drew HO_8.out)
            have n1_ := Aside0.mk (Kd.R_drew HO_9.out)
            have n2_ := Aside0.mk (blk_drew BK883.out)
            have n3_ := Aside0.mk (below_drew1 HB.out)
            clear HO_8
            clear HO_9
            clear BK883
            clear HB
            have HO_8 := n0_
            have HO_9 := n1_
            have BK883 := n2_
            have HB := n3_
            clear n0_ n1_ n2_ n3_
            have p912 : 0 ≤ (x12_3 : Int) := of_decide_eq_true (by first | (with_reducible assumption) | assumption)
            have q912 : x12_3 < (t904.length : Int) := of_decide_eq_true (by first | (with_reducible assumption) | assumption)
            obtain ⟨ad912, e912, hx912_0⟩ := Kd.at_string (Kd.R_reads' HO_9.out).2.2 x12_3 p912 q912
            cases e912
            replace p912 := eq_true p912
            replace q912 := eq_true q912
            refine start_ (n := 7) (S := fun w' => w'.cell? ⟨gb883, 0, none⟩ = some (.string a1_0) ∧ w'.cell? ⟨gb883, 1, none⟩ = some (.string a1_1) ∧ w'.cell? ⟨gb883, 2, none⟩ = some (.int .i64 a1_2) ∧ w'.cell? ⟨gb883, 3, none⟩ = some (.int .i64 a1_3) ∧ w'.cell? (ad912.add (x12_3).toNat) = some (.string (rdOf ByteArray.empty t904 x12_3))) (ds := []) #[false,false,false,false,false,false,false] (by kernel_rfl) rfl rfl ⟨(blk_cell BK883.out 0).trans rfl, (blk_cell BK883.out 1).trans rfl, (blk_cell BK883.out 2).trans rfl, (blk_cell BK883.out 3).trans rfl, hx912_0⟩ (fun hHeld => ?_)
            generalize wr.drew = w78 at HO_8 HO_9 BK883 HB hx912_0 hHeld ⊢
            refine pure_ (i := 0) (N := some 92) (v := ?_) (a' := ?_) #[true,false,false,false,false,false,false] rfl rfl (by kernel_rfl) (fun _ _ _ h => h) (Or.inl ⟨by rfl, ?_⟩) ?_ ?_
            rotate_left
            ·intro w'
             go_simp
             with_reducible rfl
            rotate_left
            ·simp only [Act.put, List.setIfInBounds_toArray, List.set_cons_zero, List.set_cons_succ, i64_w, i32_w]
             rfl
            refine pure_ (i := 1) (N := some 93) (v := ?_) (a' := ?_) #[true,true,false,false,false,false,false] rfl rfl (by kernel_rfl) (fun _ _ _ h => h) (Or.inl ⟨by rfl, ?_⟩) ?_ ?_
            rotate_left
            ·intro w'
             go_simp
             with_reducible rfl
            rotate_left
            ·simp only [Act.put, List.setIfInBounds_toArray, List.set_cons_zero, List.set_cons_succ, i64_w, i32_w]
             rfl
            refine pure_ (i := 2) (N := some 94) (v := ?_) (a' := ?_) #[true,true,true,false,false,false,false] rfl rfl (by kernel_rfl) (fun _ _ _ h => h) (Or.inl ⟨by rfl, ?_⟩) ?_ ?_
            rotate_left
            ·intro w'
             go_simp
             with_reducible rfl
            rotate_left
            ·simp only [Act.put, List.setIfInBounds_toArray, List.set_cons_zero, List.set_cons_succ, i64_w, i32_w]
             rfl
            refine pure_ (i := 4) (N := some 96) (v := ?_) (a' := ?_) #[true,true,true,false,true,false,false] rfl rfl (by kernel_rfl) (fun _ _ _ h => h) (Or.inl ⟨by rfl, ?_⟩) ?_ ?_
            rotate_left
            ·intro w'
             go_simp
             with_reducible rfl
            rotate_left
            ·simp only [Act.put, List.setIfInBounds_toArray, List.set_cons_zero, List.set_cons_succ, i64_w, i32_w]
             rfl
            refine take_ (i := 3) (N := some 95) (v := ?_) (a' := ?_) #[true,true,true,true,true,false,false] rfl rfl (by kernel_rfl) (fun _ _ _ h => h) (Or.inl ⟨by rfl, ?_⟩) hHeld ?_ ?_
            rotate_left
            ·rintro w' ⟨s0, s1, s2, s3, s4⟩
             go_simp
             with_reducible rfl
            rotate_left
            ·simp only [Act.put, List.setIfInBounds_toArray, List.set_cons_zero, List.set_cons_succ, i64_w, i32_w]
             rfl
            refine take_ (i := 5) (N := some 97) (v := ?_) (a' := ?_) #[true,true,true,true,true,true,false] rfl rfl (by kernel_rfl) (fun _ _ _ h => h) (Or.inl ⟨by rfl, ?_⟩) hHeld ?_ ?_
            rotate_left
            ·rintro w' ⟨s0, s1, s2, s3, s4⟩
             go_simp
             with_reducible rfl
            rotate_left
            ·simp only [Act.put, List.setIfInBounds_toArray, List.set_cons_zero, List.set_cons_succ, i64_w, i32_w]
             rfl
            refine pure_ (i := 6) (N := some 98) (v := ?_) (a' := ?_) #[true,true,true,true,true,true,true] rfl rfl (by kernel_rfl) (fun _ _ _ h => h) (Or.inl ⟨by rfl, ?_⟩) ?_ ?_
            rotate_left
            ·intro w'
             go_simp
             with_reducible rfl
            rotate_left
            ·simp only [Act.put, List.setIfInBounds_toArray, List.set_cons_zero, List.set_cons_succ, i64_w, i32_w]
             rfl
            refine done_ (by kernel_rfl) ?_
            try go_wp2
            go_roundg k3
            case measure => have := HJ5.out; have := HK2.out; have := HK3.out; omega
            case rel => exact ⟨(wrap64 (x12_3 + 1)), (by first | rfl | (simp; done) | (simp [*]; done)), H', ⟨by have := HJ5.out; have := HK2.out; have := HK3.out; omega⟩, ⟨by (with_reducible repeat (first | apply Kd.R_alloc | apply Kd.R_drewN | apply Kd.R_drew)); exact HO_8.out⟩, ⟨by (with_reducible repeat (first | apply Kd.R_alloc | apply Kd.R_drewN | apply Kd.R_drew)); exact HO_9.out⟩, ⟨by (with_reducible repeat (first | refine blk_drewN ?_ _ | refine blk_drew ?_ | refine blk_alloc ?_ _)); exact BK883.out⟩, ⟨by repeat (first | (with_reducible first | exact HB.out | apply below_alloc | apply pw_below_drewN | apply below_drew1 | refine below_set ?_ GE883.out) | exact HB.out)⟩⟩
          ·rw [if_neg c73] at H
           exact absurd H (by simp)
         ·rw [if_neg c72] at H
          have c72b0 : decide (x12_3 < (t904.length : Int)) = false := decide_eq_false c72
          clear c72
          by_cases c79 : x10_2 = true
          ·subst c79
           have H1 : (some ((t898.length : Int) == (wrap64 ((t904.length : Int) + 1)))) = some r := by rw [if_pos rfl] at H; exact H
           clear H
           have H := H1
           clear H1
           obtain rfl := Option.some.inj H
           obtain ⟨Ao80, co80, eo80⟩ := Kd.R_slice HO_9.out
           subst eo80
           go_wp2
           go_ret
           exact ⟨by first | rfl | (simp [errW_none, errW_some] <;> rfl) | (simp [*, errW_none, errW_some] <;> rfl), by repeat (first | (with_reducible first | exact HB.out | apply below_alloc | apply pw_below_drewN | apply below_drew1 | refine below_set ?_ GE883.out) | exact HB.out)⟩
          ·replace c79 := Bool.eq_false_iff.mpr c79
           subst c79
           have H1 : (some false) = some r := by rw [if_neg (show ¬ (false = true) by decide)] at H; exact H
           clear H
           have H := H1
           clear H1
           obtain rfl := Option.some.inj H
           obtain ⟨Ao81, co81, eo81⟩ := Kd.R_slice HO_9.out
           subst eo81
           go_wp2
           go_ret
           exact ⟨by first | rfl | (simp [errW_none, errW_some] <;> rfl) | (simp [*, errW_none, errW_some] <;> rfl), by repeat (first | (with_reducible first | exact HB.out | apply below_alloc | apply pw_below_drewN | apply below_drew1 | refine below_set ?_ GE883.out) | exact HB.out)⟩

end Go.Proofs.Ytannmdngejdjkaa.L
