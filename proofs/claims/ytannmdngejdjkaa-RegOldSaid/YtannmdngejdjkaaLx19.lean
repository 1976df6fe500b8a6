-- PRINTED by print.py (a twelfth state) out of the translation. Not trusted: Lean checks it.
import Derived.Test.YtannmdngejdjkaaLx0
import Derived.Test.YtannmdngejdjkaaLx5
import Derived.Test.YtannmdngejdjkaaLx8
import Derived.Test.YtannmdngejdjkaaLx9
import Derived.Test.YtannmdngejdjkaaLx10
import Derived.Test.YtannmdngejdjkaaLx12
namespace Go.Proofs.Ytannmdngejdjkaa.L
open Go.Proofs.YtannmdngejdjkaaW.PrintWords.Kd (R_alloc R_base R_below R_drew R_drewN R_elder' R_lit R_lower R_lt R_mono R_new' R_newB R_reads' R_slice)
open Go.RowKit Go.Proofs.YtannmdngejdjkaaW.PrintWords Go.Proofs.YtannmdngejdjkaaW.PrintLast Go.Proofs.YtannmdngejdjkaaW.PrintMore
attribute [local go_sem] max2_int min2_int max_two min_two max_three min_three max_four min_four   -- for this text's walks alone
set_option linter.unusedVariables false
set_option linter.unusedSimpArgs false

/-! ### law07_RegOld: function 7 -/
def law07_RegOld.j0 : Nat → List (S26) → Bool → Bool → ByteArray → ByteArray → Int → Int → Int → ByteArray → ByteArray → Int → Int → Int → Option (Bool)
 | 0, _, _, _, _, _, _, _, _, _, _, _, _, _ => none
 | k + 1, x0, x7, x49, x364000, x364001, x364002, x364003, x364004, x365000, x365001, x365002, x365003, x365004 => if x49 = true then (some x7) else ((reg_Put.f k x0 x364000 x364001 x364002 x364003 x364004).bind fun t380 => ((reg_Put.f k x0 x365000 x365001 x365002 x365003 x365004).bind fun t383 => ((reg_Merge.f k t380 x0).bind fun t386 => ((ref07_Same.f k t386 t380).bind fun t389 => ((reg_Merge.f k x0 t380).bind fun t390 => ((ref07_Same.f k t390 t380).bind fun t393 => ((reg_Merge.f k t380 t383).bind fun t394 => ((reg_Put.f k t380 x365000 x365001 x365002 x365003 x365004).bind fun t397 => ((ref07_Same.f k t394 t397).bind fun t400 => ((reg_Merge.f k t380 t383).bind fun t401 => ((reg_Put.f k t383 x364000 x364001 x364002 x364003 x364004).bind fun t404 => ((ref07_Same.f k t401 t404).bind fun t407 => (if t389 = true then (if t393 = true then (if t400 = true then (some t407) else (some false)) else (some false)) else (some false))))))))))))))
def law07_RegOld.f (k : Nat) (l0 : List (S26)) (a1_0 : ByteArray) (a1_1 : ByteArray) (a1_2 : Int) (a1_3 : Int) (a1_4 : Int) (a2_0 : ByteArray) (a2_1 : ByteArray) (a2_2 : Int) (a2_3 : Int) (a2_4 : Int) : Option (Bool) := (law07_awake.f k).bind fun t365 => ((law07_Few.f k l0).bind fun t366 => ((law07_Few.f k (([(⟨a1_0, a1_1, a1_2, (⟨a1_3, a1_4⟩ : S24)⟩ : S26), (⟨a2_0, a2_1, a2_2, (⟨a2_3, a2_4⟩ : S24)⟩ : S26)] : List (S26)))).bind fun t370 => (if t365 = true then (if t366 = true then (if t370 = true then ((reg_May.f k l0).bind fun t371 => (if t371 = true then ((reg_May.f k (([(⟨a1_0, a1_1, a1_2, (⟨a1_3, a1_4⟩ : S24)⟩ : S26)] : List (S26)))).bind fun t375 => (if t375 = true then ((reg_May.f k (([(⟨a2_0, a2_1, a2_2, (⟨a2_3, a2_4⟩ : S24)⟩ : S26)] : List (S26)))).bind fun t379 => (law07_RegOld.j0 k l0 t365 (!t379) a1_0 a1_1 a1_2 a1_3 a1_4 a2_0 a2_1 a2_2 a2_3 a2_4)) else (law07_RegOld.j0 k l0 t365 true a1_0 a1_1 a1_2 a1_3 a1_4 a2_0 a2_1 a2_2 a2_3 a2_4))) else (law07_RegOld.j0 k l0 t365 true a1_0 a1_1 a1_2 a1_3 a1_4 a2_0 a2_1 a2_2 a2_3 a2_4))) else (law07_RegOld.j0 k l0 t365 true a1_0 a1_1 a1_2 a1_3 a1_4 a2_0 a2_1 a2_2 a2_3 a2_4)) else (law07_RegOld.j0 k l0 t365 true a1_0 a1_1 a1_2 a1_3 a1_4 a2_0 a2_1 a2_2 a2_3 a2_4)) else (law07_RegOld.j0 k l0 t365 true a1_0 a1_1 a1_2 a1_3 a1_4 a2_0 a2_1 a2_2 a2_3 a2_4))))
theorem law07_RegOld.mono_l : ∀ k, (∀ y0 y1 y2 y3 y4 y5 y6 y7 y8 y9 y10 y11 y12, LeO (law07_RegOld.j0 k y0 y1 y2 y3 y4 y5 y6 y7 y8 y9 y10 y11 y12) (law07_RegOld.j0 (k + 1) y0 y1 y2 y3 y4 y5 y6 y7 y8 y9 y10 y11 y12))
 | 0 => fun _ _ _ _ _ _ _ _ _ _ _ _ _ r h => by simp [law07_RegOld.j0] at h
 | k + 1 => by
  have ih0 := law07_RegOld.mono_l k
  ·intro y0 y1 y2 y3 y4 y5 y6 y7 y8 y9 y10 y11 y12
   unfold law07_RegOld.j0
   repeat' first
   | (with_reducible exact ih0 _ _ _ _ _ _ _ _ _ _ _ _ _)
   | (with_reducible exact law07_Few.mono _ _)
   | (with_reducible exact law07_awake.mono _)
   | (with_reducible exact ref07_Same.mono _ _ _)
   | (with_reducible exact reg_May.mono _ _)
   | (with_reducible exact reg_Merge.mono _ _ _)
   | (with_reducible exact reg_Put.mono _ _ _ _ _ _ _)
   | (with_reducible exact LeO.refl _)
   | (with_reducible exact LeO.none _)
   | (with_reducible refine LeO.ite ?_ ?_)
   | (with_reducible refine LeO.bind ?_ (fun _ => ?_))
   | exact ih0 _ _ _ _ _ _ _ _ _ _ _ _ _
   | exact law07_Few.mono _ _
   | exact law07_awake.mono _
   | exact ref07_Same.mono _ _ _
   | exact reg_May.mono _ _
   | exact reg_Merge.mono _ _ _
   | exact reg_Put.mono _ _ _ _ _ _ _
   | exact LeO.none _
   | refine LeO.ite ?_ ?_
   | refine LeO.bind ?_ (fun _ => ?_)
theorem law07_RegOld.mono : ∀ a0 a1 a2 a3 a4 a5 a6 a7 a8 a9 a10 k, LeO (law07_RegOld.f k a0 a1 a2 a3 a4 a5 a6 a7 a8 a9 a10) (law07_RegOld.f (k + 1) a0 a1 a2 a3 a4 a5 a6 a7 a8 a9 a10) := by
 intro a0 a1 a2 a3 a4 a5 a6 a7 a8 a9 a10 k
 have ih0 := law07_RegOld.mono_l k
 unfold law07_RegOld.f
 repeat' first
   | (with_reducible exact ih0 _ _ _ _ _ _ _ _ _ _ _ _ _)
   | (with_reducible exact law07_Few.mono _ _)
   | (with_reducible exact law07_awake.mono _)
   | (with_reducible exact ref07_Same.mono _ _ _)
   | (with_reducible exact reg_May.mono _ _)
   | (with_reducible exact reg_Merge.mono _ _ _)
   | (with_reducible exact reg_Put.mono _ _ _ _ _ _ _)
   | (with_reducible exact LeO.refl _)
   | (with_reducible exact LeO.none _)
   | (with_reducible refine LeO.ite ?_ ?_)
   | (with_reducible refine LeO.bind ?_ (fun _ => ?_))
   | exact ih0 _ _ _ _ _ _ _ _ _ _ _ _ _
   | exact law07_Few.mono _ _
   | exact law07_awake.mono _
   | exact ref07_Same.mono _ _ _
   | exact reg_May.mono _ _
   | exact reg_Merge.mono _ _ _
   | exact reg_Put.mono _ _ _ _ _ _ _
   | exact LeO.none _
   | refine LeO.ite ?_ ?_
   | refine LeO.bind ?_ (fun _ => ?_)
def law07_RegOld.T10 : Bool × List (List Nat × List Nat) := (true, [([], []), ([], []), ([0, 1], [0, 1]), ([], []), ([], []), ([3, 4, 2], [3, 4]), ([2, 5, 5], [2, 5]), ([6, 6, 0, 1, 2, 3, 4, 5, 6], [6])])
def law07_RegOld.B10 : List Nat := [0, 0, 3, 0, 0, 31, 63, 127]
theorem law07_RegOld.tab10 : rtab .any (opsOf Try.f7 10) = law07_RegOld.T10 := by kernel_rfl
theorem law07_RegOld.bits10 : waitsOk law07_RegOld.T10.2 law07_RegOld.B10 = true := by kernel_rfl
def law07_RegOld.T11 : Bool × List (List Nat × List Nat) := (true, [([], []), ([], []), ([0, 1], [0, 1]), ([], []), ([], []), ([3, 4, 2], [3, 4]), ([2, 5, 5], [2, 5]), ([6, 6, 0, 1, 2, 3, 4, 5, 6], [6])])
def law07_RegOld.B11 : List Nat := [0, 0, 3, 0, 0, 31, 63, 127]
theorem law07_RegOld.tab11 : rtab .any (opsOf Try.f7 11) = law07_RegOld.T11 := by kernel_rfl
theorem law07_RegOld.bits11 : waitsOk law07_RegOld.T11.2 law07_RegOld.B11 = true := by kernel_rfl
set_option maxHeartbeats 8000000 in
set_option maxRecDepth 100000 in
theorem law07_RegOld.calls (k : Nat) (A0 : Option Addr) (c0 : Nat) (l0 : List (S26)) (a1_0 : ByteArray) (a1_1 : ByteArray) (a1_2 : Int) (a1_3 : Int) (a1_4 : Int) (a2_0 : ByteArray) (a2_1 : ByteArray) (a2_2 : Int) (a2_3 : Int) (a2_4 : Int) (r : Bool) (w : World) (hr0 : Kd.C k26 w A0 l0.length l0) (hc0 : l0.length ≤ c0) (h : law07_RegOld.f k l0 a1_0 a1_1 a1_2 a1_3 a1_4 a2_0 a2_1 a2_2 a2_3 a2_4 = some r) :
  Calls Try.prog 7 #[.slice A0 l0.length c0, .agg #[.string a1_0, .string a1_1, .int .i64 a1_2, .int .i64 a1_3, .int .i64 a1_4], .agg #[.string a2_0, .string a2_1, .int .i64 a2_2, .int .i64 a2_3, .int .i64 a2_4]] w fun e w' => e = .returned (.bool r) ∧ Below w.heap.size w w' := by
 have hu26 := Try.underlying26
 have HR0 := Aside0.mk hr0
 have HC0 := Aside0.mk hc0
 clear hr0 hc0
 have HB := Aside0.mk (Below.refl w.heap.size w)
 have H : ((law07_awake.f k).bind fun t365 => ((law07_Few.f k l0).bind fun t366 => ((law07_Few.f k (([(⟨a1_0, a1_1, a1_2, (⟨a1_3, a1_4⟩ : S24)⟩ : S26), (⟨a2_0, a2_1, a2_2, (⟨a2_3, a2_4⟩ : S24)⟩ : S26)] : List (S26)))).bind fun t370 => (if t365 = true then (if t366 = true then (if t370 = true then ((reg_May.f k l0).bind fun t371 => (if t371 = true then ((reg_May.f k (([(⟨a1_0, a1_1, a1_2, (⟨a1_3, a1_4⟩ : S24)⟩ : S26)] : List (S26)))).bind fun t375 => (if t375 = true then ((reg_May.f k (([(⟨a2_0, a2_1, a2_2, (⟨a2_3, a2_4⟩ : S24)⟩ : S26)] : List (S26)))).bind fun t379 => (law07_RegOld.j0 k l0 t365 (!t379) a1_0 a1_1 a1_2 a1_3 a1_4 a2_0 a2_1 a2_2 a2_3 a2_4)) else (law07_RegOld.j0 k l0 t365 true a1_0 a1_1 a1_2 a1_3 a1_4 a2_0 a2_1 a2_2 a2_3 a2_4))) else (law07_RegOld.j0 k l0 t365 true a1_0 a1_1 a1_2 a1_3 a1_4 a2_0 a2_1 a2_2 a2_3 a2_4))) else (law07_RegOld.j0 k l0 t365 true a1_0 a1_1 a1_2 a1_3 a1_4 a2_0 a2_1 a2_2 a2_3 a2_4)) else (law07_RegOld.j0 k l0 t365 true a1_0 a1_1 a1_2 a1_3 a1_4 a2_0 a2_1 a2_2 a2_3 a2_4)) else (law07_RegOld.j0 k l0 t365 true a1_0 a1_1 a1_2 a1_3 a1_4 a2_0 a2_1 a2_2 a2_3 a2_4))))) = some r := h
 clear h
 replace H := Option.bind_eq_some_iff.mp H
 obtain ⟨t365, A40, H⟩ := H
 replace H : ((law07_Few.f k l0).bind fun t366 => ((law07_Few.f k (([(⟨a1_0, a1_1, a1_2, (⟨a1_3, a1_4⟩ : S24)⟩ : S26), (⟨a2_0, a2_1, a2_2, (⟨a2_3, a2_4⟩ : S24)⟩ : S26)] : List (S26)))).bind fun t370 => (if t365 = true then (if t366 = true then (if t370 = true then ((reg_May.f k l0).bind fun t371 => (if t371 = true then ((reg_May.f k (([(⟨a1_0, a1_1, a1_2, (⟨a1_3, a1_4⟩ : S24)⟩ : S26)] : List (S26)))).bind fun t375 => (if t375 = true then ((reg_May.f k (([(⟨a2_0, a2_1, a2_2, (⟨a2_3, a2_4⟩ : S24)⟩ : S26)] : List (S26)))).bind fun t379 => (law07_RegOld.j0 k l0 t365 (!t379) a1_0 a1_1 a1_2 a1_3 a1_4 a2_0 a2_1 a2_2 a2_3 a2_4)) else (law07_RegOld.j0 k l0 t365 true a1_0 a1_1 a1_2 a1_3 a1_4 a2_0 a2_1 a2_2 a2_3 a2_4))) else (law07_RegOld.j0 k l0 t365 true a1_0 a1_1 a1_2 a1_3 a1_4 a2_0 a2_1 a2_2 a2_3 a2_4))) else (law07_RegOld.j0 k l0 t365 true a1_0 a1_1 a1_2 a1_3 a1_4 a2_0 a2_1 a2_2 a2_3 a2_4)) else (law07_RegOld.j0 k l0 t365 true a1_0 a1_1 a1_2 a1_3 a1_4 a2_0 a2_1 a2_2 a2_3 a2_4)) else (law07_RegOld.j0 k l0 t365 true a1_0 a1_1 a1_2 a1_3 a1_4 a2_0 a2_1 a2_2 a2_3 a2_4)))) = some r := H
 have A4 := Aside0.mk A40
 clear A40
 replace H := Option.bind_eq_some_iff.mp H
 obtain ⟨t366, A50, H⟩ := H
 replace H : ((law07_Few.f k (([(⟨a1_0, a1_1, a1_2, (⟨a1_3, a1_4⟩ : S24)⟩ : S26), (⟨a2_0, a2_1, a2_2, (⟨a2_3, a2_4⟩ : S24)⟩ : S26)] : List (S26)))).bind fun t370 => (if t365 = true then (if t366 = true then (if t370 = true then ((reg_May.f k l0).bind fun t371 => (if t371 = true then ((reg_May.f k (([(⟨a1_0, a1_1, a1_2, (⟨a1_3, a1_4⟩ : S24)⟩ : S26)] : List (S26)))).bind fun t375 => (if t375 = true then ((reg_May.f k (([(⟨a2_0, a2_1, a2_2, (⟨a2_3, a2_4⟩ : S24)⟩ : S26)] : List (S26)))).bind fun t379 => (law07_RegOld.j0 k l0 t365 (!t379) a1_0 a1_1 a1_2 a1_3 a1_4 a2_0 a2_1 a2_2 a2_3 a2_4)) else (law07_RegOld.j0 k l0 t365 true a1_0 a1_1 a1_2 a1_3 a1_4 a2_0 a2_1 a2_2 a2_3 a2_4))) else (law07_RegOld.j0 k l0 t365 true a1_0 a1_1 a1_2 a1_3 a1_4 a2_0 a2_1 a2_2 a2_3 a2_4))) else (law07_RegOld.j0 k l0 t365 true a1_0 a1_1 a1_2 a1_3 a1_4 a2_0 a2_1 a2_2 a2_3 a2_4)) else (law07_RegOld.j0 k l0 t365 true a1_0 a1_1 a1_2 a1_3 a1_4 a2_0 a2_1 a2_2 a2_3 a2_4)) else (law07_RegOld.j0 k l0 t365 true a1_0 a1_1 a1_2 a1_3 a1_4 a2_0 a2_1 a2_2 a2_3 a2_4))) = some r := H
 have A5 := Aside0.mk A50
 clear A50
 obtain ⟨y367, hy367⟩ : ∃ y_ : List (S26), y_ = (([(⟨a1_0, a1_1, a1_2, (⟨a1_3, a1_4⟩ : S24)⟩ : S26), (⟨a2_0, a2_1, a2_2, (⟨a2_3, a2_4⟩ : S24)⟩ : S26)] : List (S26))) := ⟨_, rfl⟩
 replace H : ((law07_Few.f k y367).bind fun t370 => (if t365 = true then (if t366 = true then (if t370 = true then ((reg_May.f k l0).bind fun t371 => (if t371 = true then ((reg_May.f k (([(⟨a1_0, a1_1, a1_2, (⟨a1_3, a1_4⟩ : S24)⟩ : S26)] : List (S26)))).bind fun t375 => (if t375 = true then ((reg_May.f k (([(⟨a2_0, a2_1, a2_2, (⟨a2_3, a2_4⟩ : S24)⟩ : S26)] : List (S26)))).bind fun t379 => (law07_RegOld.j0 k l0 t365 (!t379) a1_0 a1_1 a1_2 a1_3 a1_4 a2_0 a2_1 a2_2 a2_3 a2_4)) else (law07_RegOld.j0 k l0 t365 true a1_0 a1_1 a1_2 a1_3 a1_4 a2_0 a2_1 a2_2 a2_3 a2_4))) else (law07_RegOld.j0 k l0 t365 true a1_0 a1_1 a1_2 a1_3 a1_4 a2_0 a2_1 a2_2 a2_3 a2_4))) else (law07_RegOld.j0 k l0 t365 true a1_0 a1_1 a1_2 a1_3 a1_4 a2_0 a2_1 a2_2 a2_3 a2_4)) else (law07_RegOld.j0 k l0 t365 true a1_0 a1_1 a1_2 a1_3 a1_4 a2_0 a2_1 a2_2 a2_3 a2_4)) else (law07_RegOld.j0 k l0 t365 true a1_0 a1_1 a1_2 a1_3 a1_4 a2_0 a2_1 a2_2 a2_3 a2_4))) = some r := by first | (rw [hy367]; with_reducible exact H) | (have H2_ := (Option.bind_some _ _).symm.trans H; rw [hy367]; with_reducible exact H2_) | (have H2_ := (Option.bind_some _ _).symm.trans H; with_reducible exact H2_) | with_reducible exact H | (rw [hy367]; exact H) | exact H
 have Ny367 := Aside0.mk hy367
 clear hy367
 replace H := Option.bind_eq_some_iff.mp H
 obtain ⟨t370, A60, H⟩ := H
 replace H : (if t365 = true then (if t366 = true then (if t370 = true then ((reg_May.f k l0).bind fun t371 => (if t371 = true then ((reg_May.f k (([(⟨a1_0, a1_1, a1_2, (⟨a1_3, a1_4⟩ : S24)⟩ : S26)] : List (S26)))).bind fun t375 => (if t375 = true then ((reg_May.f k (([(⟨a2_0, a2_1, a2_2, (⟨a2_3, a2_4⟩ : S24)⟩ : S26)] : List (S26)))).bind fun t379 => (law07_RegOld.j0 k l0 t365 (!t379) a1_0 a1_1 a1_2 a1_3 a1_4 a2_0 a2_1 a2_2 a2_3 a2_4)) else (law07_RegOld.j0 k l0 t365 true a1_0 a1_1 a1_2 a1_3 a1_4 a2_0 a2_1 a2_2 a2_3 a2_4))) else (law07_RegOld.j0 k l0 t365 true a1_0 a1_1 a1_2 a1_3 a1_4 a2_0 a2_1 a2_2 a2_3 a2_4))) else (law07_RegOld.j0 k l0 t365 true a1_0 a1_1 a1_2 a1_3 a1_4 a2_0 a2_1 a2_2 a2_3 a2_4)) else (law07_RegOld.j0 k l0 t365 true a1_0 a1_1 a1_2 a1_3 a1_4 a2_0 a2_1 a2_2 a2_3 a2_4)) else (law07_RegOld.j0 k l0 t365 true a1_0 a1_1 a1_2 a1_3 a1_4 a2_0 a2_1 a2_2 a2_3 a2_4)) = some r := H
 have A6 := Aside0.mk A60
 clear A60
 have HC7 := Aside0.mk H
 clear H
 go_enter Try.func7, Try.ntmps7
 go_upto_region 4 with (first | ((with_reducible refine gate_dst (N := 4) rfl ?_); (try (refine gate_guard (by rfl) ?_; dsimp only)); refine box_event ?hg (N := 4) ?hd (cs := #[.string a1_0, .string a1_1, .int .i64 a1_2, .int .i64 a1_3, .int .i64 a1_4]) (t := 26) ?hr ?_; (case hd => rfl); (case hg => rfl); (case hr => first | (go_simp; done) | (go_simp; rfl)); intro gb363 hg w8 hbox hb; have n0_ := Aside0.mk (below_step (by repeat (first | (with_reducible first | exact HB.out | apply below_alloc | apply pw_below_drewN | apply below_drew1) | exact HB.out)) hb); have n1_ := Aside0.mk (hbox); have n2_ := Aside0.mk ((by rw [hg]; exact (below_size (by repeat (first | (with_reducible first | exact HB.out | apply below_alloc | apply pw_below_drewN | apply below_drew1) | exact HB.out))) : w.heap.size ≤ gb363)); have n3_ := Aside0.mk ((by rw [hg]; exact (below_size (by repeat (first | (with_reducible first | exact HB.out | apply below_alloc | apply pw_below_drewN | apply below_drew1) | exact HB.out))) : w.heap.size ≤ gb363)); clear HB; have HB := n0_; have BK363 := n1_; have GW363 := n2_; have GE363 := n3_; clear n0_ n1_ n2_ n3_; clear hb hbox hg) | ((with_reducible refine gate_dst (N := 5) rfl ?_); (try (refine gate_guard (by rfl) ?_; dsimp only)); refine box_event ?hg (N := 5) ?hd (cs := #[.string a2_0, .string a2_1, .int .i64 a2_2, .int .i64 a2_3, .int .i64 a2_4]) (t := 26) ?hr ?_; (case hd => rfl); (case hg => rfl); (case hr => first | (go_simp; done) | (go_simp; rfl)); intro gb364 hg w9 hbox hb; have n0_ := Aside0.mk (blk_below (g := gb363) (o := .cells #[.string a1_0, .string a1_1, .int .i64 a1_2, .int .i64 a1_3, .int .i64 a1_4] 26 (0, 0)) (by (with_reducible repeat (first | refine blk_drewN ?_ _ | refine blk_drew ?_ | refine blk_alloc ?_ _)); exact BK363.out) hb); have n1_ := Aside0.mk (below_step (by repeat (first | (with_reducible first | exact HB.out | apply below_alloc | apply pw_below_drewN | apply below_drew1 | refine below_set ?_ GE363.out) | exact HB.out)) hb); have n2_ := Aside0.mk (hbox); have n3_ := Aside0.mk ((by rw [hg]; exact (below_size (by repeat (first | (with_reducible first | exact HB.out | apply below_alloc | apply pw_below_drewN | apply below_drew1 | refine below_set ?_ GE363.out) | exact HB.out))) : w.heap.size ≤ gb364)); have n4_ := Aside0.mk ((by rw [hg]; exact (below_size (by repeat (first | (with_reducible first | exact HB.out | apply below_alloc | apply pw_below_drewN | apply below_drew1 | refine below_set ?_ GE363.out) | exact HB.out))) : w.heap.size ≤ gb364)); have n5_ := Aside0.mk ((by rw [hg]; exact Nat.ne_of_lt (blk_lt (g := gb363) (o := .cells #[.string a1_0, .string a1_1, .int .i64 a1_2, .int .i64 a1_3, .int .i64 a1_4] 26 (0, 0)) (by (with_reducible repeat (first | refine blk_drewN ?_ _ | refine blk_drew ?_ | refine blk_alloc ?_ _)); exact BK363.out)) : gb363 ≠ gb364)); have n6_ := Aside0.mk ((by rw [hg]; exact Nat.ne_of_gt (blk_lt (g := gb363) (o := .cells #[.string a1_0, .string a1_1, .int .i64 a1_2, .int .i64 a1_3, .int .i64 a1_4] 26 (0, 0)) (by (with_reducible repeat (first | refine blk_drewN ?_ _ | refine blk_drew ?_ | refine blk_alloc ?_ _)); exact BK363.out)) : gb364 ≠ gb363)); clear BK363; clear HB; have BK363 := n0_; have HB := n1_; have BK364 := n2_; have GW364 := n3_; have GE364 := n4_; have NB363_364 := n5_; have NB364_363 := n6_; clear n0_ n1_ n2_ n3_ n4_ n5_ n6_; clear hb hbox hg) | ((with_reducible refine gate_callee (f := 20) rfl ?_); refine goesL_ (some 16) rfl rfl Try.func20 (by kernel_rfl) rfl #[] rfl (by (try simp only [List.map_toArray, List.map_cons, List.map_nil]); first | done | rfl | (simp only [List.length_drop, List.length_take]; rfl)) ?_; (with_reducible refine (law07_awake.calls k  t365 _ A4.out).mono ?_); rintro e w10 ⟨rfl, hb⟩; refine ⟨_, rfl, ?_⟩; have n0_ := Aside0.mk (blk_below (g := gb363) (o := .cells #[.string a1_0, .string a1_1, .int .i64 a1_2, .int .i64 a1_3, .int .i64 a1_4] 26 (0, 0)) (by (with_reducible repeat (first | refine blk_drewN ?_ _ | refine blk_drew ?_ | refine blk_alloc ?_ _)); exact BK363.out) hb); have n1_ := Aside0.mk (blk_below (g := gb364) (o := .cells #[.string a2_0, .string a2_1, .int .i64 a2_2, .int .i64 a2_3, .int .i64 a2_4] 26 (0, 0)) (by (with_reducible repeat (first | refine blk_drewN ?_ _ | refine blk_drew ?_ | refine blk_alloc ?_ _)); exact BK364.out) hb); have n2_ := Aside0.mk (below_step (by repeat (first | (with_reducible first | exact HB.out | apply below_alloc | apply pw_below_drewN | apply below_drew1 | refine below_set ?_ GE363.out | refine below_set ?_ GE364.out) | exact HB.out)) hb); clear BK363; clear BK364; clear HB; have BK363 := n0_; have BK364 := n1_; have HB := n2_; clear n0_ n1_ n2_; (try clear hb); (try clear hb2); (try clear hk); (try clear hi)) | ((with_reducible refine gate_callee (f := 21) rfl ?_); refine goesL_ (some 18) rfl rfl Try.func21 (by kernel_rfl) rfl #[.slice A0 l0.length c0] rfl (by (try simp only [List.map_toArray, List.map_cons, List.map_nil]); first | done | rfl | (simp only [List.length_drop, List.length_take]; rfl)) ?_; (with_reducible refine (law07_Few.calls k _ _ l0 t366 _ ?side1 ?side2 A5.out).mono ?_); (case side1 => repeat (first | exact (Kd.C_below HR0.out HB.out) | (with_reducible refine Kd.C_alloc ?_ _) | (with_reducible refine Kd.C_drewN ?_ _) | (with_reducible refine Kd.C_drew ?_))); (case side2 => exact HC0.out); rintro e w' ⟨rfl, ⟨nd, rfl⟩⟩; refine ⟨_, rfl, ?_⟩; have hnb11 := NB363_364.out; have hnc11 := NB364_363.out; have hcz12_0 : w10.cell? ⟨gb363, 0, none⟩ = some (.string a1_0) := (blk_cell BK363.out 0).trans rfl; have hcz12_1 : w10.cell? ⟨gb363, 1, none⟩ = some (.string a1_1) := (blk_cell BK363.out 1).trans rfl; have hcz12_2 : w10.cell? ⟨gb363, 2, none⟩ = some (.int .i64 a1_2) := (blk_cell BK363.out 2).trans rfl; have hcz12_3 : w10.cell? ⟨gb363, 3, none⟩ = some (.int .i64 a1_3) := (blk_cell BK363.out 3).trans rfl; have hcz12_4 : w10.cell? ⟨gb363, 4, none⟩ = some (.int .i64 a1_4) := (blk_cell BK363.out 4).trans rfl; have hfz12_0 := blk_frozen BK363.out 0; have hfz12_1 := blk_frozen BK363.out 1; have hfz12_2 := blk_frozen BK363.out 2; have hfz12_3 := blk_frozen BK363.out 3; have hfz12_4 := blk_frozen BK363.out 4; have hcz13_0 : w10.cell? ⟨gb364, 0, none⟩ = some (.string a2_0) := (blk_cell BK364.out 0).trans rfl; have hcz13_1 : w10.cell? ⟨gb364, 1, none⟩ = some (.string a2_1) := (blk_cell BK364.out 1).trans rfl; have hcz13_2 : w10.cell? ⟨gb364, 2, none⟩ = some (.int .i64 a2_2) := (blk_cell BK364.out 2).trans rfl; have hcz13_3 : w10.cell? ⟨gb364, 3, none⟩ = some (.int .i64 a2_3) := (blk_cell BK364.out 3).trans rfl; have hcz13_4 : w10.cell? ⟨gb364, 4, none⟩ = some (.int .i64 a2_4) := (blk_cell BK364.out 4).trans rfl; have hfz13_0 := blk_frozen BK364.out 0; have hfz13_1 := blk_frozen BK364.out 1; have hfz13_2 := blk_frozen BK364.out 2; have hfz13_3 := blk_frozen BK364.out 3; have hfz13_4 := blk_frozen BK364.out 4) | ((with_reducible refine gate_dst (N := 21) rfl ?_); (try (refine gate_guard (by rfl) ?_; dsimp only)); refine R_lit k26 _ 26 ?hg (N := 21) ?hd (xs := ([(⟨a1_0, a1_1, a1_2, (⟨a1_3, a1_4⟩ : S24)⟩ : S26), (⟨a2_0, a2_1, a2_2, (⟨a2_3, a2_4⟩ : S24)⟩ : S26)] : List (S26))) (inner := [.string a1_0, .string a1_1, .int .i64 a1_2, .int .i64 a1_3, .int .i64 a1_4, .string a2_0, .string a2_1, .int .i64 a2_2, .int .i64 a2_3, .int .i64 a2_4]) (ok := fun _ => True) (okp := fun _ => True) ?hr ?hp (fun _ hk => hk) trivial (Below.refl _ _) (Nat.le_refl _) (by simp) ?_; (case hd => rfl); (case hg => rfl); (case hr => first | (go_simp; done) | (go_simp; rfl)); (case hp => exact (Reps.c5 (show Kd.M k26 _ _ _ (⟨a1_0, a1_1, a1_2, (⟨a1_3, a1_4⟩ : S24)⟩ : S26) [.string a1_0, .string a1_1, .int .i64 a1_2, .int .i64 a1_3, .int .i64 a1_4] from (k26_mkM _ _ _ (⟨a1_0, a1_1, a1_2, (⟨a1_3, a1_4⟩ : S24)⟩ : S26) )) (Reps.c5 (show Kd.M k26 _ _ _ (⟨a2_0, a2_1, a2_2, (⟨a2_3, a2_4⟩ : S24)⟩ : S26) [.string a2_0, .string a2_1, .int .i64 a2_2, .int .i64 a2_3, .int .i64 a2_4] from (k26_mkM _ _ _ (⟨a2_0, a2_1, a2_2, (⟨a2_3, a2_4⟩ : S24)⟩ : S26) )) (Reps.none _ _)))); intro v368 w14 ho15 hb hg_ hnew_; clear hg_ hnew_; (first | rw [← Ny367.out] at ho15 | (simp only [Int.reduceToNat] at ho15; rw [← Ny367.out] at ho15)); have n0_ := Aside0.mk (R_lower (R_newB (R_newB ho15 (g := gb363) (o := .cells #[.string a1_0, .string a1_1, .int .i64 a1_2, .int .i64 a1_3, .int .i64 a1_4] 26 (0, 0)) (by (with_reducible repeat (first | refine blk_drewN ?_ _ | refine blk_drew ?_ | refine blk_alloc ?_ _)); exact BK363.out)) (g := gb364) (o := .cells #[.string a2_0, .string a2_1, .int .i64 a2_2, .int .i64 a2_3, .int .i64 a2_4] 26 (0, 0)) (by (with_reducible repeat (first | refine blk_drewN ?_ _ | refine blk_drew ?_ | refine blk_alloc ?_ _)); exact BK364.out)) (below_size (by repeat (first | (with_reducible first | exact HB.out | apply below_alloc | apply pw_below_drewN | apply below_drew1 | refine below_set ?_ GE363.out | refine below_set ?_ GE364.out) | exact HB.out)))); have n1_ := Aside0.mk (blk_below (g := gb363) (o := .cells #[.string a1_0, .string a1_1, .int .i64 a1_2, .int .i64 a1_3, .int .i64 a1_4] 26 (0, 0)) (by (with_reducible repeat (first | refine blk_drewN ?_ _ | refine blk_drew ?_ | refine blk_alloc ?_ _)); exact BK363.out) hb); have n2_ := Aside0.mk (blk_below (g := gb364) (o := .cells #[.string a2_0, .string a2_1, .int .i64 a2_2, .int .i64 a2_3, .int .i64 a2_4] 26 (0, 0)) (by (with_reducible repeat (first | refine blk_drewN ?_ _ | refine blk_drew ?_ | refine blk_alloc ?_ _)); exact BK364.out) hb); have n3_ := Aside0.mk (below_step (by repeat (first | (with_reducible first | exact HB.out | apply below_alloc | apply pw_below_drewN | apply below_drew1 | refine below_set ?_ GE363.out | refine below_set ?_ GE364.out) | exact HB.out)) hb); clear BK363; clear BK364; clear HB; have HO369 := n0_; have BK363 := n1_; have BK364 := n2_; have HB := n3_; clear n0_ n1_ n2_ n3_; clear hb ho15; obtain ⟨Ao16, co16, eo16⟩ := R_slice HO369.out; subst eo16) | ((with_reducible refine gate_callee (f := 21) rfl ?_); refine goesL_ (some 22) rfl rfl Try.func21 (by kernel_rfl) rfl #[.slice Ao16 y367.length co16] rfl (by (try simp only [List.map_toArray, List.map_cons, List.map_nil]); first | done | rfl | (simp only [List.length_drop, List.length_take]; rfl)) ?_; (with_reducible refine (law07_Few.calls k _ _ y367 t370 _ ?side1 ?side2 A6.out).mono ?_); (case side1 => repeat (first | exact (R_reads' HO369.out).2.2 | (with_reducible refine Kd.C_alloc ?_ _) | (with_reducible refine Kd.C_drewN ?_ _) | (with_reducible refine Kd.C_drew ?_))); (case side2 => exact (R_reads' HO369.out).2.1); rintro e w' ⟨rfl, ⟨nd, rfl⟩⟩; refine ⟨_, rfl, ?_⟩))
 (try simp only [Act.put, List.setIfInBounds_toArray, List.set_cons_zero, List.set_cons_succ])
 go_cut [49] (fun v49 wc => ∃ (kq : Nat) (x49_6 : Bool), v49 = .bool x49_6 ∧ Aside0 (law07_RegOld.j0 kq l0 t365 x49_6 a1_0 a1_1 a1_2 a1_3 a1_4 a2_0 a2_1 a2_2 a2_3 a2_4 = some r) ∧ Aside0 (kq ≤ k) ∧ Aside0 (wc.heap[gb363]? = some (.cells #[.string a1_0, .string a1_1, .int .i64 a1_2, .int .i64 a1_3, .int .i64 a1_4] 26 (0, 0))) ∧ Aside0 (wc.heap[gb364]? = some (.cells #[.string a2_0, .string a2_1, .int .i64 a2_2, .int .i64 a2_3, .int .i64 a2_4] 26 (0, 0))) ∧ Aside0 (Below w.heap.size w wc))
 case first =>
  have H := HC7.out
  clear HC7
  by_cases c17 : t365 = true
  ·subst c17
   have H1 : (if t366 = true then (if t370 = true then ((reg_May.f k l0).bind fun t371 => (if t371 = true then ((reg_May.f k (([(⟨a1_0, a1_1, a1_2, (⟨a1_3, a1_4⟩ : S24)⟩ : S26)] : List (S26)))).bind fun t375 => (if t375 = true then ((reg_May.f k (([(⟨a2_0, a2_1, a2_2, (⟨a2_3, a2_4⟩ : S24)⟩ : S26)] : List (S26)))).bind fun t379 => (law07_RegOld.j0 k l0 true (!t379) a1_0 a1_1 a1_2 a1_3 a1_4 a2_0 a2_1 a2_2 a2_3 a2_4)) else (law07_RegOld.j0 k l0 true true a1_0 a1_1 a1_2 a1_3 a1_4 a2_0 a2_1 a2_2 a2_3 a2_4))) else (law07_RegOld.j0 k l0 true true a1_0 a1_1 a1_2 a1_3 a1_4 a2_0 a2_1 a2_2 a2_3 a2_4))) else (law07_RegOld.j0 k l0 true true a1_0 a1_1 a1_2 a1_3 a1_4 a2_0 a2_1 a2_2 a2_3 a2_4)) else (law07_RegOld.j0 k l0 true true a1_0 a1_1 a1_2 a1_3 a1_4 a2_0 a2_1 a2_2 a2_3 a2_4)) = some r := by rw [if_pos rfl] at H; exact H
   clear H
   have H := H1
   clear H1
   by_cases c18 : t366 = true
   ·subst c18
    have H1 : (if t370 = true then ((reg_May.f k l0).bind fun t371 => (if t371 = true then ((reg_May.f k (([(⟨a1_0, a1_1, a1_2, (⟨a1_3, a1_4⟩ : S24)⟩ : S26)] : List (S26)))).bind fun t375 => (if t375 = true then ((reg_May.f k (([(⟨a2_0, a2_1, a2_2, (⟨a2_3, a2_4⟩ : S24)⟩ : S26)] : List (S26)))).bind fun t379 => (law07_RegOld.j0 k l0 true (!t379) a1_0 a1_1 a1_2 a1_3 a1_4 a2_0 a2_1 a2_2 a2_3 a2_4)) else (law07_RegOld.j0 k l0 true true a1_0 a1_1 a1_2 a1_3 a1_4 a2_0 a2_1 a2_2 a2_3 a2_4))) else (law07_RegOld.j0 k l0 true true a1_0 a1_1 a1_2 a1_3 a1_4 a2_0 a2_1 a2_2 a2_3 a2_4))) else (law07_RegOld.j0 k l0 true true a1_0 a1_1 a1_2 a1_3 a1_4 a2_0 a2_1 a2_2 a2_3 a2_4)) = some r := by rw [if_pos rfl] at H; exact H
    clear H
    have H := H1
    clear H1
    by_cases c19 : t370 = true
    ·subst c19
     have H1 : ((reg_May.f k l0).bind fun t371 => (if t371 = true then ((reg_May.f k (([(⟨a1_0, a1_1, a1_2, (⟨a1_3, a1_4⟩ : S24)⟩ : S26)] : List (S26)))).bind fun t375 => (if t375 = true then ((reg_May.f k (([(⟨a2_0, a2_1, a2_2, (⟨a2_3, a2_4⟩ : S24)⟩ : S26)] : List (S26)))).bind fun t379 => (law07_RegOld.j0 k l0 true (!t379) a1_0 a1_1 a1_2 a1_3 a1_4 a2_0 a2_1 a2_2 a2_3 a2_4)) else (law07_RegOld.j0 k l0 true true a1_0 a1_1 a1_2 a1_3 a1_4 a2_0 a2_1 a2_2 a2_3 a2_4))) else (law07_RegOld.j0 k l0 true true a1_0 a1_1 a1_2 a1_3 a1_4 a2_0 a2_1 a2_2 a2_3 a2_4))) = some r := by rw [if_pos rfl] at H; exact H
     clear H
     have H := H1
     clear H1
     replace H := Option.bind_eq_some_iff.mp H
     obtain ⟨t371, A200, H⟩ := H
     replace H : (if t371 = true then ((reg_May.f k (([(⟨a1_0, a1_1, a1_2, (⟨a1_3, a1_4⟩ : S24)⟩ : S26)] : List (S26)))).bind fun t375 => (if t375 = true then ((reg_May.f k (([(⟨a2_0, a2_1, a2_2, (⟨a2_3, a2_4⟩ : S24)⟩ : S26)] : List (S26)))).bind fun t379 => (law07_RegOld.j0 k l0 true (!t379) a1_0 a1_1 a1_2 a1_3 a1_4 a2_0 a2_1 a2_2 a2_3 a2_4)) else (law07_RegOld.j0 k l0 true true a1_0 a1_1 a1_2 a1_3 a1_4 a2_0 a2_1 a2_2 a2_3 a2_4))) else (law07_RegOld.j0 k l0 true true a1_0 a1_1 a1_2 a1_3 a1_4 a2_0 a2_1 a2_2 a2_3 a2_4)) = some r := H
     have A20 := Aside0.mk A200
     clear A200
     by_cases c21 : t371 = true
     ·subst c21
      have H1 : ((reg_May.f k (([(⟨a1_0, a1_1, a1_2, (⟨a1_3, a1_4⟩ : S24)⟩ : S26)] : List (S26)))).bind fun t375 => (if t375 = true then ((reg_May.f k (([(⟨a2_0, a2_1, a2_2, (⟨a2_3, a2_4⟩ : S24)⟩ : S26)] : List (S26)))).bind fun t379 => (law07_RegOld.j0 k l0 true (!t379) a1_0 a1_1 a1_2 a1_3 a1_4 a2_0 a2_1 a2_2 a2_3 a2_4)) else (law07_RegOld.j0 k l0 true true a1_0 a1_1 a1_2 a1_3 a1_4 a2_0 a2_1 a2_2 a2_3 a2_4))) = some r := by rw [if_pos rfl] at H; exact H
      clear H
      have H := H1
      clear H1
      obtain ⟨y372, hy372⟩ : ∃ y_ : List (S26), y_ = (([(⟨a1_0, a1_1, a1_2, (⟨a1_3, a1_4⟩ : S24)⟩ : S26)] : List (S26))) := ⟨_, rfl⟩
      replace H : ((reg_May.f k y372).bind fun t375 => (if t375 = true then ((reg_May.f k (([(⟨a2_0, a2_1, a2_2, (⟨a2_3, a2_4⟩ : S24)⟩ : S26)] : List (S26)))).bind fun t379 => (law07_RegOld.j0 k l0 true (!t379) a1_0 a1_1 a1_2 a1_3 a1_4 a2_0 a2_1 a2_2 a2_3 a2_4)) else (law07_RegOld.j0 k l0 true true a1_0 a1_1 a1_2 a1_3 a1_4 a2_0 a2_1 a2_2 a2_3 a2_4))) = some r := by first | (rw [hy372]; with_reducible exact H) | (have H2_ := (Option.bind_some _ _).symm.trans H; rw [hy372]; with_reducible exact H2_) | (have H2_ := (Option.bind_some _ _).symm.trans H; with_reducible exact H2_) | with_reducible exact H | (rw [hy372]; exact H) | exact H
      have Ny372 := Aside0.mk hy372
      clear hy372
      replace H := Option.bind_eq_some_iff.mp H
      obtain ⟨t375, A220, H⟩ := H
      replace H : (if t375 = true then ((reg_May.f k (([(⟨a2_0, a2_1, a2_2, (⟨a2_3, a2_4⟩ : S24)⟩ : S26)] : List (S26)))).bind fun t379 => (law07_RegOld.j0 k l0 true (!t379) a1_0 a1_1 a1_2 a1_3 a1_4 a2_0 a2_1 a2_2 a2_3 a2_4)) else (law07_RegOld.j0 k l0 true true a1_0 a1_1 a1_2 a1_3 a1_4 a2_0 a2_1 a2_2 a2_3 a2_4)) = some r := H
      have A22 := Aside0.mk A220
      clear A220
      by_cases c23 : t375 = true
      ·subst c23
       have H1 : ((reg_May.f k (([(⟨a2_0, a2_1, a2_2, (⟨a2_3, a2_4⟩ : S24)⟩ : S26)] : List (S26)))).bind fun t379 => (law07_RegOld.j0 k l0 true (!t379) a1_0 a1_1 a1_2 a1_3 a1_4 a2_0 a2_1 a2_2 a2_3 a2_4)) = some r := by rw [if_pos rfl] at H; exact H
       clear H
       have H := H1
       clear H1
       obtain ⟨y376, hy376⟩ : ∃ y_ : List (S26), y_ = (([(⟨a2_0, a2_1, a2_2, (⟨a2_3, a2_4⟩ : S24)⟩ : S26)] : List (S26))) := ⟨_, rfl⟩
       replace H : ((reg_May.f k y376).bind fun t379 => (law07_RegOld.j0 k l0 true (!t379) a1_0 a1_1 a1_2 a1_3 a1_4 a2_0 a2_1 a2_2 a2_3 a2_4)) = some r := by first | (rw [hy376]; with_reducible exact H) | (have H2_ := (Option.bind_some _ _).symm.trans H; rw [hy376]; with_reducible exact H2_) | (have H2_ := (Option.bind_some _ _).symm.trans H; with_reducible exact H2_) | with_reducible exact H | (rw [hy376]; exact H) | exact H
       have Ny376 := Aside0.mk hy376
       clear hy376
       replace H := Option.bind_eq_some_iff.mp H
       obtain ⟨t379, A240, H⟩ := H
       replace H : (law07_RegOld.j0 k l0 true (!t379) a1_0 a1_1 a1_2 a1_3 a1_4 a2_0 a2_1 a2_2 a2_3 a2_4) = some r := H
       have A24 := Aside0.mk A240
       clear A240
       have H' := Aside0.mk H
       clear H
       go_wp2_with (first | (go_at_call 32; (with_reducible refine (reg_May.calls k _ _ l0 true _ ?side1 ?side2 A20.out).mono ?_); (case side1 => repeat (first | exact (Kd.C_below HR0.out HB.out) | (with_reducible refine Kd.C_alloc ?_ _) | (with_reducible refine Kd.C_drewN ?_ _) | (with_reducible refine Kd.C_drew ?_))); (case side2 => exact HC0.out); rintro e w25 ⟨rfl, hb⟩; have n0_ := Aside0.mk (R_below (by (with_reducible repeat (first | apply R_alloc | apply R_drewN | apply R_drew)); exact HO369.out) hb); have n1_ := Aside0.mk (blk_below (g := gb363) (o := .cells #[.string a1_0, .string a1_1, .int .i64 a1_2, .int .i64 a1_3, .int .i64 a1_4] 26 (0, 0)) (by (with_reducible repeat (first | refine blk_drewN ?_ _ | refine blk_drew ?_ | refine blk_alloc ?_ _)); exact BK363.out) hb); have n2_ := Aside0.mk (blk_below (g := gb364) (o := .cells #[.string a2_0, .string a2_1, .int .i64 a2_2, .int .i64 a2_3, .int .i64 a2_4] 26 (0, 0)) (by (with_reducible repeat (first | refine blk_drewN ?_ _ | refine blk_drew ?_ | refine blk_alloc ?_ _)); exact BK364.out) hb); have n3_ := Aside0.mk (below_step (by repeat (first | (with_reducible first | exact HB.out | apply below_alloc | apply pw_below_drewN | apply below_drew1 | refine below_set ?_ GE363.out | refine below_set ?_ GE364.out) | exact HB.out)) hb); clear HO369; clear BK363; clear BK364; clear HB; have HO369 := n0_; have BK363 := n1_; have BK364 := n2_; have HB := n3_; clear n0_ n1_ n2_ n3_; (try clear hb); (try clear hb2); (try clear hk); (try clear hi); have hnb26 := NB363_364.out; have hnc26 := NB364_363.out; have hcz27_0 : w25.cell? ⟨gb363, 0, none⟩ = some (.string a1_0) := (blk_cell BK363.out 0).trans rfl; have hcz27_1 : w25.cell? ⟨gb363, 1, none⟩ = some (.string a1_1) := (blk_cell BK363.out 1).trans rfl; have hcz27_2 : w25.cell? ⟨gb363, 2, none⟩ = some (.int .i64 a1_2) := (blk_cell BK363.out 2).trans rfl; have hcz27_3 : w25.cell? ⟨gb363, 3, none⟩ = some (.int .i64 a1_3) := (blk_cell BK363.out 3).trans rfl; have hcz27_4 : w25.cell? ⟨gb363, 4, none⟩ = some (.int .i64 a1_4) := (blk_cell BK363.out 4).trans rfl; have hfz27_0 := blk_frozen BK363.out 0; have hfz27_1 := blk_frozen BK363.out 1; have hfz27_2 := blk_frozen BK363.out 2; have hfz27_3 := blk_frozen BK363.out 3; have hfz27_4 := blk_frozen BK363.out 4) | ((with_reducible refine gate_dst (N := 40) rfl ?_); (try (refine gate_guard (by rfl) ?_; dsimp only)); refine R_lit k26 _ 26 ?hg (N := 40) ?hd (xs := ([(⟨a1_0, a1_1, a1_2, (⟨a1_3, a1_4⟩ : S24)⟩ : S26)] : List (S26))) (inner := [.string a1_0, .string a1_1, .int .i64 a1_2, .int .i64 a1_3, .int .i64 a1_4]) (ok := fun _ => True) (okp := fun _ => True) ?hr ?hp (fun _ hk => hk) trivial (Below.refl _ _) (Nat.le_refl _) (by simp) ?_; (case hd => rfl); (case hg => rfl); (case hr => first | (go_simp; done) | (go_simp; rfl)); (case hp => exact (Reps.c5 (show Kd.M k26 _ _ _ (⟨a1_0, a1_1, a1_2, (⟨a1_3, a1_4⟩ : S24)⟩ : S26) [.string a1_0, .string a1_1, .int .i64 a1_2, .int .i64 a1_3, .int .i64 a1_4] from (k26_mkM _ _ _ (⟨a1_0, a1_1, a1_2, (⟨a1_3, a1_4⟩ : S24)⟩ : S26) )) (Reps.none _ _))); intro v373 w28 ho29 hb hg_ hnew_; clear hg_ hnew_; (first | rw [← Ny372.out] at ho29 | (simp only [Int.reduceToNat] at ho29; rw [← Ny372.out] at ho29)); have n0_ := Aside0.mk (R_elder' (by (with_reducible repeat (first | apply R_alloc | apply R_drewN | apply R_drew)); exact HO369.out) (R_base ho29) hb); have n1_ := Aside0.mk (R_lower (R_newB (R_newB (R_new' ho29 (R_lt (by (with_reducible repeat (first | apply R_alloc | apply R_drewN | apply R_drew)); exact HO369.out))) (g := gb363) (o := .cells #[.string a1_0, .string a1_1, .int .i64 a1_2, .int .i64 a1_3, .int .i64 a1_4] 26 (0, 0)) (by (with_reducible repeat (first | refine blk_drewN ?_ _ | refine blk_drew ?_ | refine blk_alloc ?_ _)); exact BK363.out)) (g := gb364) (o := .cells #[.string a2_0, .string a2_1, .int .i64 a2_2, .int .i64 a2_3, .int .i64 a2_4] 26 (0, 0)) (by (with_reducible repeat (first | refine blk_drewN ?_ _ | refine blk_drew ?_ | refine blk_alloc ?_ _)); exact BK364.out)) (below_size (by repeat (first | (with_reducible first | exact HB.out | apply below_alloc | apply pw_below_drewN | apply below_drew1 | refine below_set ?_ GE363.out | refine below_set ?_ GE364.out) | exact HB.out)))); have n2_ := Aside0.mk (blk_below (g := gb363) (o := .cells #[.string a1_0, .string a1_1, .int .i64 a1_2, .int .i64 a1_3, .int .i64 a1_4] 26 (0, 0)) (by (with_reducible repeat (first | refine blk_drewN ?_ _ | refine blk_drew ?_ | refine blk_alloc ?_ _)); exact BK363.out) hb); have n3_ := Aside0.mk (blk_below (g := gb364) (o := .cells #[.string a2_0, .string a2_1, .int .i64 a2_2, .int .i64 a2_3, .int .i64 a2_4] 26 (0, 0)) (by (with_reducible repeat (first | refine blk_drewN ?_ _ | refine blk_drew ?_ | refine blk_alloc ?_ _)); exact BK364.out) hb); have n4_ := Aside0.mk (below_step (by repeat (first | (with_reducible first | exact HB.out | apply below_alloc | apply pw_below_drewN | apply below_drew1 | refine below_set ?_ GE363.out | refine below_set ?_ GE364.out) | exact HB.out)) hb); clear HO369; clear BK363; clear BK364; clear HB; have HO369 := n0_; have HO374 := n1_; have BK363 := n2_; have BK364 := n3_; have HB := n4_; clear n0_ n1_ n2_ n3_ n4_; clear hb ho29; obtain ⟨Ao30, co30, eo30⟩ := R_slice HO374.out; subst eo30) | (go_at_call 32; (with_reducible refine (reg_May.calls k _ _ y372 true _ ?side1 ?side2 A22.out).mono ?_); (case side1 => repeat (first | exact (R_reads' HO374.out).2.2 | (with_reducible refine Kd.C_alloc ?_ _) | (with_reducible refine Kd.C_drewN ?_ _) | (with_reducible refine Kd.C_drew ?_))); (case side2 => exact (R_reads' HO374.out).2.1); rintro e w31 ⟨rfl, hb⟩; have n0_ := Aside0.mk (R_below (by (with_reducible repeat (first | apply R_alloc | apply R_drewN | apply R_drew)); exact HO369.out) hb); have n1_ := Aside0.mk (R_below (by (with_reducible repeat (first | apply R_alloc | apply R_drewN | apply R_drew)); exact HO374.out) hb); have n2_ := Aside0.mk (blk_below (g := gb363) (o := .cells #[.string a1_0, .string a1_1, .int .i64 a1_2, .int .i64 a1_3, .int .i64 a1_4] 26 (0, 0)) (by (with_reducible repeat (first | refine blk_drewN ?_ _ | refine blk_drew ?_ | refine blk_alloc ?_ _)); exact BK363.out) hb); have n3_ := Aside0.mk (blk_below (g := gb364) (o := .cells #[.string a2_0, .string a2_1, .int .i64 a2_2, .int .i64 a2_3, .int .i64 a2_4] 26 (0, 0)) (by (with_reducible repeat (first | refine blk_drewN ?_ _ | refine blk_drew ?_ | refine blk_alloc ?_ _)); exact BK364.out) hb); have n4_ := Aside0.mk (below_step (by repeat (first | (with_reducible first | exact HB.out | apply below_alloc | apply pw_below_drewN | apply below_drew1 | refine below_set ?_ GE363.out | refine below_set ?_ GE364.out) | exact HB.out)) hb); clear HO369; clear HO374; clear BK363; clear BK364; clear HB; have HO369 := n0_; have HO374 := n1_; have BK363 := n2_; have BK364 := n3_; have HB := n4_; clear n0_ n1_ n2_ n3_ n4_; (try clear hb); (try clear hb2); (try clear hk); (try clear hi); have hcz32_0 : w31.cell? ⟨gb364, 0, none⟩ = some (.string a2_0) := (blk_cell BK364.out 0).trans rfl; have hcz32_1 : w31.cell? ⟨gb364, 1, none⟩ = some (.string a2_1) := (blk_cell BK364.out 1).trans rfl; have hcz32_2 : w31.cell? ⟨gb364, 2, none⟩ = some (.int .i64 a2_2) := (blk_cell BK364.out 2).trans rfl; have hcz32_3 : w31.cell? ⟨gb364, 3, none⟩ = some (.int .i64 a2_3) := (blk_cell BK364.out 3).trans rfl; have hcz32_4 : w31.cell? ⟨gb364, 4, none⟩ = some (.int .i64 a2_4) := (blk_cell BK364.out 4).trans rfl; have hfz32_0 := blk_frozen BK364.out 0; have hfz32_1 := blk_frozen BK364.out 1; have hfz32_2 := blk_frozen BK364.out 2; have hfz32_3 := blk_frozen BK364.out 3; have hfz32_4 := blk_frozen BK364.out 4) | ((with_reducible refine gate_dst (N := 46) rfl ?_); (try (refine gate_guard (by rfl) ?_; dsimp only)); refine R_lit k26 _ 26 ?hg (N := 46) ?hd (xs := ([(⟨a2_0, a2_1, a2_2, (⟨a2_3, a2_4⟩ : S24)⟩ : S26)] : List (S26))) (inner := [.string a2_0, .string a2_1, .int .i64 a2_2, .int .i64 a2_3, .int .i64 a2_4]) (ok := fun _ => True) (okp := fun _ => True) ?hr ?hp (fun _ hk => hk) trivial (Below.refl _ _) (Nat.le_refl _) (by simp) ?_; (case hd => rfl); (case hg => rfl); (case hr => first | (go_simp; done) | (go_simp; rfl)); (case hp => exact (Reps.c5 (show Kd.M k26 _ _ _ (⟨a2_0, a2_1, a2_2, (⟨a2_3, a2_4⟩ : S24)⟩ : S26) [.string a2_0, .string a2_1, .int .i64 a2_2, .int .i64 a2_3, .int .i64 a2_4] from (k26_mkM _ _ _ (⟨a2_0, a2_1, a2_2, (⟨a2_3, a2_4⟩ : S24)⟩ : S26) )) (Reps.none _ _))); intro v377 w33 ho34 hb hg_ hnew_; clear hg_ hnew_; (first | rw [← Ny376.out] at ho34 | (simp only [Int.reduceToNat] at ho34; rw [← Ny376.out] at ho34)); have n0_ := Aside0.mk (R_elder' (by (with_reducible repeat (first | apply R_alloc | apply R_drewN | apply R_drew)); exact HO369.out) (R_base ho34) hb); have n1_ := Aside0.mk (R_elder' (by (with_reducible repeat (first | apply R_alloc | apply R_drewN | apply R_drew)); exact HO374.out) (R_base ho34) hb); have n2_ := Aside0.mk (R_lower (R_newB (R_newB (R_new' (R_new' ho34 (R_lt (by (with_reducible repeat (first | apply R_alloc | apply R_drewN | apply R_drew)); exact HO369.out))) (R_lt (by (with_reducible repeat (first | apply R_alloc | apply R_drewN | apply R_drew)); exact HO374.out))) (g := gb363) (o := .cells #[.string a1_0, .string a1_1, .int .i64 a1_2, .int .i64 a1_3, .int .i64 a1_4] 26 (0, 0)) (by (with_reducible repeat (first | refine blk_drewN ?_ _ | refine blk_drew ?_ | refine blk_alloc ?_ _)); exact BK363.out)) (g := gb364) (o := .cells #[.string a2_0, .string a2_1, .int .i64 a2_2, .int .i64 a2_3, .int .i64 a2_4] 26 (0, 0)) (by (with_reducible repeat (first | refine blk_drewN ?_ _ | refine blk_drew ?_ | refine blk_alloc ?_ _)); exact BK364.out)) (below_size (by repeat (first | (with_reducible first | exact HB.out | apply below_alloc | apply pw_below_drewN | apply below_drew1 | refine below_set ?_ GE363.out | refine below_set ?_ GE364.out) | exact HB.out)))); have n3_ := Aside0.mk (blk_below (g := gb363) (o := .cells #[.string a1_0, .string a1_1, .int .i64 a1_2, .int .i64 a1_3, .int .i64 a1_4] 26 (0, 0)) (by (with_reducible repeat (first | refine blk_drewN ?_ _ | refine blk_drew ?_ | refine blk_alloc ?_ _)); exact BK363.out) hb); have n4_ := Aside0.mk (blk_below (g := gb364) (o := .cells #[.string a2_0, .string a2_1, .int .i64 a2_2, .int .i64 a2_3, .int .i64 a2_4] 26 (0, 0)) (by (with_reducible repeat (first | refine blk_drewN ?_ _ | refine blk_drew ?_ | refine blk_alloc ?_ _)); exact BK364.out) hb); have n5_ := Aside0.mk (below_step (by repeat (first | (with_reducible first | exact HB.out | apply below_alloc | apply pw_below_drewN | apply below_drew1 | refine below_set ?_ GE363.out | refine below_set ?_ GE364.out) | exact HB.out)) hb); clear HO369; clear HO374; clear BK363; clear BK364; clear HB; have HO369 := n0_; have HO374 := n1_; have HO378 := n2_; have BK363 := n3_; have BK364 := n4_; have HB := n5_; clear n0_ n1_ n2_ n3_ n4_ n5_; clear hb ho34; obtain ⟨Ao35, co35, eo35⟩ := R_slice HO378.out; subst eo35) | (go_at_call 32; (with_reducible refine (reg_May.calls k _ _ y376 t379 _ ?side1 ?side2 A24.out).mono ?_); (case side1 => repeat (first | exact (R_reads' HO378.out).2.2 | (with_reducible refine Kd.C_alloc ?_ _) | (with_reducible refine Kd.C_drewN ?_ _) | (with_reducible refine Kd.C_drew ?_))); (case side2 => exact (R_reads' HO378.out).2.1); rintro e w36 ⟨rfl, hb⟩; have n0_ := Aside0.mk (R_below (by (with_reducible repeat (first | apply R_alloc | apply R_drewN | apply R_drew)); exact HO369.out) hb); have n1_ := Aside0.mk (R_below (by (with_reducible repeat (first | apply R_alloc | apply R_drewN | apply R_drew)); exact HO374.out) hb); have n2_ := Aside0.mk (R_below (by (with_reducible repeat (first | apply R_alloc | apply R_drewN | apply R_drew)); exact HO378.out) hb); have n3_ := Aside0.mk (blk_below (g := gb363) (o := .cells #[.string a1_0, .string a1_1, .int .i64 a1_2, .int .i64 a1_3, .int .i64 a1_4] 26 (0, 0)) (by (with_reducible repeat (first | refine blk_drewN ?_ _ | refine blk_drew ?_ | refine blk_alloc ?_ _)); exact BK363.out) hb); have n4_ := Aside0.mk (blk_below (g := gb364) (o := .cells #[.string a2_0, .string a2_1, .int .i64 a2_2, .int .i64 a2_3, .int .i64 a2_4] 26 (0, 0)) (by (with_reducible repeat (first | refine blk_drewN ?_ _ | refine blk_drew ?_ | refine blk_alloc ?_ _)); exact BK364.out) hb); have n5_ := Aside0.mk (below_step (by repeat (first | (with_reducible first | exact HB.out | apply below_alloc | apply pw_below_drewN | apply below_drew1 | refine below_set ?_ GE363.out | refine below_set ?_ GE364.out) | exact HB.out)) hb); clear HO369; clear HO374; clear HO378; clear BK363; clear BK364; clear HB; have HO369 := n0_; have HO374 := n1_; have HO378 := n2_; have BK363 := n3_; have BK364 := n4_; have HB := n5_; clear n0_ n1_ n2_ n3_ n4_ n5_; (try clear hb); (try clear hb2); (try clear hk); (try clear hi)))
       go_meet
       case rel => exact ⟨_, (!t379), (by first | rfl | (simp; done) | (simp [*]; done)), H', ⟨by first | omega | exact Nat.le_refl _⟩, ⟨by (with_reducible repeat (first | refine blk_drewN ?_ _ | refine blk_drew ?_ | refine blk_alloc ?_ _)); exact BK363.out⟩, ⟨by (with_reducible repeat (first | refine blk_drewN ?_ _ | refine blk_drew ?_ | refine blk_alloc ?_ _)); exact BK364.out⟩, ⟨by repeat (first | (with_reducible first | exact HB.out | apply below_alloc | apply pw_below_drewN | apply below_drew1 | refine below_set ?_ GE363.out | refine below_set ?_ GE364.out) | exact HB.out)⟩⟩
      ·replace c23 := Bool.eq_false_iff.mpr c23
       subst c23
       have H1 : (law07_RegOld.j0 k l0 true true a1_0 a1_1 a1_2 a1_3 a1_4 a2_0 a2_1 a2_2 a2_3 a2_4) = some r := by rw [if_neg (show ¬ (false = true) by decide)] at H; exact H
       clear H
       have H := H1
       clear H1
       have H' := Aside0.mk H
       clear H
       go_wp2_with (first | (go_at_call 32; (with_reducible refine (reg_May.calls k _ _ l0 true _ ?side1 ?side2 A20.out).mono ?_); (case side1 => repeat (first | exact (Kd.C_below HR0.out HB.out) | (with_reducible refine Kd.C_alloc ?_ _) | (with_reducible refine Kd.C_drewN ?_ _) | (with_reducible refine Kd.C_drew ?_))); (case side2 => exact HC0.out); rintro e w37 ⟨rfl, hb⟩; have n0_ := Aside0.mk (R_below (by (with_reducible repeat (first | apply R_alloc | apply R_drewN | apply R_drew)); exact HO369.out) hb); have n1_ := Aside0.mk (blk_below (g := gb363) (o := .cells #[.string a1_0, .string a1_1, .int .i64 a1_2, .int .i64 a1_3, .int .i64 a1_4] 26 (0, 0)) (by (with_reducible repeat (first | refine blk_drewN ?_ _ | refine blk_drew ?_ | refine blk_alloc ?_ _)); exact BK363.out) hb); have n2_ := Aside0.mk (blk_below (g := gb364) (o := .cells #[.string a2_0, .string a2_1, .int .i64 a2_2, .int .i64 a2_3, .int .i64 a2_4] 26 (0, 0)) (by (with_reducible repeat (first | refine blk_drewN ?_ _ | refine blk_drew ?_ | refine blk_alloc ?_ _)); exact BK364.out) hb); have n3_ := Aside0.mk (below_step (by repeat (first | (with_reducible first | exact HB.out | apply below_alloc | apply pw_below_drewN | apply below_drew1 | refine below_set ?_ GE363.out | refine below_set ?_ GE364.out) | exact HB.out)) hb); clear HO369; clear BK363; clear BK364; clear HB; have HO369 := n0_; have BK363 := n1_; have BK364 := n2_; have HB := n3_; clear n0_ n1_ n2_ n3_; (try clear hb); (try clear hb2); (try clear hk); (try clear hi); have hnb38 := NB363_364.out; have hnc38 := NB364_363.out; have hcz39_0 : w37.cell? ⟨gb363, 0, none⟩ = some (.string a1_0) := (blk_cell BK363.out 0).trans rfl; have hcz39_1 : w37.cell? ⟨gb363, 1, none⟩ = some (.string a1_1) := (blk_cell BK363.out 1).trans rfl; have hcz39_2 : w37.cell? ⟨gb363, 2, none⟩ = some (.int .i64 a1_2) := (blk_cell BK363.out 2).trans rfl; have hcz39_3 : w37.cell? ⟨gb363, 3, none⟩ = some (.int .i64 a1_3) := (blk_cell BK363.out 3).trans rfl; have hcz39_4 : w37.cell? ⟨gb363, 4, none⟩ = some (.int .i64 a1_4) := (blk_cell BK363.out 4).trans rfl; have hfz39_0 := blk_frozen BK363.out 0; have hfz39_1 := blk_frozen BK363.out 1; have hfz39_2 := blk_frozen BK363.out 2; have hfz39_3 := blk_frozen BK363.out 3; have hfz39_4 := blk_frozen BK363.out 4) | ((with_reducible refine gate_dst (N := 40) rfl ?_); (try (refine gate_guard (by rfl) ?_; dsimp only)); refine R_lit k26 _ 26 ?hg (N := 40) ?hd (xs := ([(⟨a1_0, a1_1, a1_2, (⟨a1_3, a1_4⟩ : S24)⟩ : S26)] : List (S26))) (inner := [.string a1_0, .string a1_1, .int .i64 a1_2, .int .i64 a1_3, .int .i64 a1_4]) (ok := fun _ => True) (okp := fun _ => True) ?hr ?hp (fun _ hk => hk) trivial (Below.refl _ _) (Nat.le_refl _) (by simp) ?_; (case hd => rfl); (case hg => rfl); (case hr => first | (go_simp; done) | (go_simp; rfl)); (case hp => exact (Reps.c5 (show Kd.M k26 _ _ _ (⟨a1_0, a1_1, a1_2, (⟨a1_3, a1_4⟩ : S24)⟩ : S26) [.string a1_0, .string a1_1, .int .i64 a1_2, .int .i64 a1_3, .int .i64 a1_4] from (k26_mkM _ _ _ (⟨a1_0, a1_1, a1_2, (⟨a1_3, a1_4⟩ : S24)⟩ : S26) )) (Reps.none _ _))); intro v373 w40 ho41 hb hg_ hnew_; clear hg_ hnew_; (first | rw [← Ny372.out] at ho41 | (simp only [Int.reduceToNat] at ho41; rw [← Ny372.out] at ho41)); have n0_ := Aside0.mk (R_elder' (by (with_reducible repeat (first | apply R_alloc | apply R_drewN | apply R_drew)); exact HO369.out) (R_base ho41) hb); have n1_ := Aside0.mk (R_lower (R_newB (R_newB (R_new' ho41 (R_lt (by (with_reducible repeat (first | apply R_alloc | apply R_drewN | apply R_drew)); exact HO369.out))) (g := gb363) (o := .cells #[.string a1_0, .string a1_1, .int .i64 a1_2, .int .i64 a1_3, .int .i64 a1_4] 26 (0, 0)) (by (with_reducible repeat (first | refine blk_drewN ?_ _ | refine blk_drew ?_ | refine blk_alloc ?_ _)); exact BK363.out)) (g := gb364) (o := .cells #[.string a2_0, .string a2_1, .int .i64 a2_2, .int .i64 a2_3, .int .i64 a2_4] 26 (0, 0)) (by (with_reducible repeat (first | refine blk_drewN ?_ _ | refine blk_drew ?_ | refine blk_alloc ?_ _)); exact BK364.out)) (below_size (by repeat (first | (with_reducible first | exact HB.out | apply below_alloc | apply pw_below_drewN | apply below_drew1 | refine below_set ?_ GE363.out | refine below_set ?_ GE364.out) | exact HB.out)))); have n2_ := Aside0.mk (blk_below (g := gb363) (o := .cells #[.string a1_0, .string a1_1, .int .i64 a1_2, .int .i64 a1_3, .int .i64 a1_4] 26 (0, 0)) (by (with_reducible repeat (first | refine blk_drewN ?_ _ | refine blk_drew ?_ | refine blk_alloc ?_ _)); exact BK363.out) hb); have n3_ := Aside0.mk (blk_below (g := gb364) (o := .cells #[.string a2_0, .string a2_1, .int .i64 a2_2, .int .i64 a2_3, .int .i64 a2_4] 26 (0, 0)) (by (with_reducible repeat (first | refine blk_drewN ?_ _ | refine blk_drew ?_ | refine blk_alloc ?_ _)); exact BK364.out) hb); have n4_ := Aside0.mk (below_step (by repeat (first | (with_reducible first | exact HB.out | apply below_alloc | apply pw_below_drewN | apply below_drew1 | refine below_set ?_ GE363.out | refine below_set ?_ GE364.out) | exact HB.out)) hb); clear HO369; clear BK363; clear BK364; clear HB; have HO369 := n0_; have HO374 := n1_; have BK363 := n2_; have BK364 := n3_; have HB := n4_; clear n0_ n1_ n2_ n3_ n4_; clear hb ho41; obtain ⟨Ao42, co42, eo42⟩ := R_slice HO374.out; subst eo42) | (go_at_call 32; (with_reducible refine (reg_May.calls k _ _ y372 false _ ?side1 ?side2 A22.out).mono ?_); (case side1 => repeat (first | exact (R_reads' HO374.out).2.2 | (with_reducible refine Kd.C_alloc ?_ _) | (with_reducible refine Kd.C_drewN ?_ _) | (with_reducible refine Kd.C_drew ?_))); (case side2 => exact (R_reads' HO374.out).2.1); rintro e w43 ⟨rfl, hb⟩; have n0_ := Aside0.mk (R_below (by (with_reducible repeat (first | apply R_alloc | apply R_drewN | apply R_drew)); exact HO369.out) hb); have n1_ := Aside0.mk (R_below (by (with_reducible repeat (first | apply R_alloc | apply R_drewN | apply R_drew)); exact HO374.out) hb); have n2_ := Aside0.mk (blk_below (g := gb363) (o := .cells #[.string a1_0, .string a1_1, .int .i64 a1_2, .int .i64 a1_3, .int .i64 a1_4] 26 (0, 0)) (by (with_reducible repeat (first | refine blk_drewN ?_ _ | refine blk_drew ?_ | refine blk_alloc ?_ _)); exact BK363.out) hb); have n3_ := Aside0.mk (blk_below (g := gb364) (o := .cells #[.string a2_0, .string a2_1, .int .i64 a2_2, .int .i64 a2_3, .int .i64 a2_4] 26 (0, 0)) (by (with_reducible repeat (first | refine blk_drewN ?_ _ | refine blk_drew ?_ | refine blk_alloc ?_ _)); exact BK364.out) hb); have n4_ := Aside0.mk (below_step (by repeat (first | (with_reducible first | exact HB.out | apply below_alloc | apply pw_below_drewN | apply below_drew1 | refine below_set ?_ GE363.out | refine below_set ?_ GE364.out) | exact HB.out)) hb); clear HO369; clear HO374; clear BK363; clear BK364; clear HB; have HO369 := n0_; have HO374 := n1_; have BK363 := n2_; have BK364 := n3_; have HB := n4_; clear n0_ n1_ n2_ n3_ n4_; (try clear hb); (try clear hb2); (try clear hk); (try clear hi)))
       go_meet
       case rel => exact ⟨_, (true), (by first | rfl | (simp; done) | (simp [*]; done)), H', ⟨by first | omega | exact Nat.le_refl _⟩, ⟨by (with_reducible repeat (first | refine blk_drewN ?_ _ | refine blk_drew ?_ | refine blk_alloc ?_ _)); exact BK363.out⟩, ⟨by (with_reducible repeat (first | refine blk_drewN ?_ _ | refine blk_drew ?_ | refine blk_alloc ?_ _)); exact BK364.out⟩, ⟨by repeat (first | (with_reducible first | exact HB.out | apply below_alloc | apply pw_below_drewN | apply below_drew1 | refine below_set ?_ GE363.out | refine below_set ?_ GE364.out) | exact HB.out)⟩⟩
     ·replace c21 := Bool.eq_false_iff.mpr c21
      subst c21
      have H1 : (law07_RegOld.j0 k l0 true true a1_0 a1_1 a1_2 a1_3 a1_4 a2_0 a2_1 a2_2 a2_3 a2_4) = some r := by rw [if_neg (show ¬ (false = true) by decide)] at H; exact H
      clear H
      have H := H1
      clear H1
      have H' := Aside0.mk H
      clear H
      go_wp2_with (first | (go_at_call 32; (with_reducible refine (reg_May.calls k _ _ l0 false _ ?side1 ?side2 A20.out).mono ?_); (case side1 => repeat (first | exact (Kd.C_below HR0.out HB.out) | (with_reducible refine Kd.C_alloc ?_ _) | (with_reducible refine Kd.C_drewN ?_ _) | (with_reducible refine Kd.C_drew ?_))); (case side2 => exact HC0.out); rintro e w44 ⟨rfl, hb⟩; have n0_ := Aside0.mk (R_below (by (with_reducible repeat (first | apply R_alloc | apply R_drewN | apply R_drew)); exact HO369.out) hb); have n1_ := Aside0.mk (blk_below (g := gb363) (o := .cells #[.string a1_0, .string a1_1, .int .i64 a1_2, .int .i64 a1_3, .int .i64 a1_4] 26 (0, 0)) (by (with_reducible repeat (first | refine blk_drewN ?_ _ | refine blk_drew ?_ | refine blk_alloc ?_ _)); exact BK363.out) hb); have n2_ := Aside0.mk (blk_below (g := gb364) (o := .cells #[.string a2_0, .string a2_1, .int .i64 a2_2, .int .i64 a2_3, .int .i64 a2_4] 26 (0, 0)) (by (with_reducible repeat (first | refine blk_drewN ?_ _ | refine blk_drew ?_ | refine blk_alloc ?_ _)); exact BK364.out) hb); have n3_ := Aside0.mk (below_step (by repeat (first | (with_reducible first | exact HB.out | apply below_alloc | apply pw_below_drewN | apply below_drew1 | refine below_set ?_ GE363.out | refine below_set ?_ GE364.out) | exact HB.out)) hb); clear HO369; clear BK363; clear BK364; clear HB; have HO369 := n0_; have BK363 := n1_; have BK364 := n2_; have HB := n3_; clear n0_ n1_ n2_ n3_; (try clear hb); (try clear hb2); (try clear hk); (try clear hi)))
      go_meet
      case rel => exact ⟨_, (true), (by first | rfl | (simp; done) | (simp [*]; done)), H', ⟨by first | omega | exact Nat.le_refl _⟩, ⟨by (with_reducible repeat (first | refine blk_drewN ?_ _ | refine blk_drew ?_ | refine blk_alloc ?_ _)); exact BK363.out⟩, ⟨by (with_reducible repeat (first | refine blk_drewN ?_ _ | refine blk_drew ?_ | refine blk_alloc ?_ _)); exact BK364.out⟩, ⟨by repeat (first | (with_reducible first | exact HB.out | apply below_alloc | apply pw_below_drewN | apply below_drew1 | refine below_set ?_ GE363.out | refine below_set ?_ GE364.out) | exact HB.out)⟩⟩
    ·replace c19 := Bool.eq_false_iff.mpr c19
     subst c19
     have H1 : (law07_RegOld.j0 k l0 true true a1_0 a1_1 a1_2 a1_3 a1_4 a2_0 a2_1 a2_2 a2_3 a2_4) = some r := by rw [if_neg (show ¬ (false = true) by decide)] at H; exact H
     clear H
     have H := H1
     clear H1
     have H' := Aside0.mk H
     clear H
     go_wp2
     go_meet
     case rel => exact ⟨_, (true), (by first | rfl | (simp; done) | (simp [*]; done)), H', ⟨by first | omega | exact Nat.le_refl _⟩, ⟨by (with_reducible repeat (first | refine blk_drewN ?_ _ | refine blk_drew ?_ | refine blk_alloc ?_ _)); exact BK363.out⟩, ⟨by (with_reducible repeat (first | refine blk_drewN ?_ _ | refine blk_drew ?_ | refine blk_alloc ?_ _)); exact BK364.out⟩, ⟨by repeat (first | (with_reducible first | exact HB.out | apply below_alloc | apply pw_below_drewN | apply below_drew1 | refine below_set ?_ GE363.out | refine below_set ?_ GE364.out) | exact HB.out)⟩⟩
   ·replace c18 := Bool.eq_false_iff.mpr c18
    subst c18
    have H1 : (law07_RegOld.j0 k l0 true true a1_0 a1_1 a1_2 a1_3 a1_4 a2_0 a2_1 a2_2 a2_3 a2_4) = some r := by rw [if_neg (show ¬ (false = true) by decide)] at H; exact H
    clear H
    have H := H1
    clear H1
    have H' := Aside0.mk H
    clear H
    go_wp2
    go_meet
    case rel => exact ⟨_, (true), (by first | rfl | (simp; done) | (simp [*]; done)), H', ⟨by first | omega | exact Nat.le_refl _⟩, ⟨by (with_reducible repeat (first | refine blk_drewN ?_ _ | refine blk_drew ?_ | refine blk_alloc ?_ _)); exact BK363.out⟩, ⟨by (with_reducible repeat (first | refine blk_drewN ?_ _ | refine blk_drew ?_ | refine blk_alloc ?_ _)); exact BK364.out⟩, ⟨by repeat (first | (with_reducible first | exact HB.out | apply below_alloc | apply pw_below_drewN | apply below_drew1 | refine below_set ?_ GE363.out | refine below_set ?_ GE364.out) | exact HB.out)⟩⟩
  ·replace c17 := Bool.eq_false_iff.mpr c17
   subst c17
   have H1 : (law07_RegOld.j0 k l0 false true a1_0 a1_1 a1_2 a1_3 a1_4 a2_0 a2_1 a2_2 a2_3 a2_4) = some r := by rw [if_neg (show ¬ (false = true) by decide)] at H; exact H
   clear H
   have H := H1
   clear H1
   have H' := Aside0.mk H
   clear H
   go_wp2
   go_meet
   case rel => exact ⟨_, (true), (by first | rfl | (simp; done) | (simp [*]; done)), H', ⟨by first | omega | exact Nat.le_refl _⟩, ⟨by (with_reducible repeat (first | refine blk_drewN ?_ _ | refine blk_drew ?_ | refine blk_alloc ?_ _)); exact BK363.out⟩, ⟨by (with_reducible repeat (first | refine blk_drewN ?_ _ | refine blk_drew ?_ | refine blk_alloc ?_ _)); exact BK364.out⟩, ⟨by repeat (first | (with_reducible first | exact HB.out | apply below_alloc | apply pw_below_drewN | apply below_drew1 | refine below_set ?_ GE363.out | refine below_set ?_ GE364.out) | exact HB.out)⟩⟩
 case rest =>
  clear HC7
  try clear c1
  try clear c2
  try clear p2
  try clear c3
  try clear c5
  try clear c7
  try clear c11
  try clear c17
  try clear c18
  try clear c19
  try clear c20
  try clear c21
  try clear c23
  try clear c26
  try clear c38
  try clear hcz12_0
  try clear hcz12_1
  try clear hcz12_2
  try clear hcz12_3
  try clear hcz12_4
  try clear hcz13_0
  try clear hcz13_1
  try clear hcz13_2
  try clear hcz13_3
  try clear hcz13_4
  try clear hcz27_0
  try clear hcz27_1
  try clear hcz27_2
  try clear hcz27_3
  try clear hcz27_4
  try clear hcz32_0
  try clear hcz32_1
  try clear hcz32_2
  try clear hcz32_3
  try clear hcz32_4
  try clear hcz39_0
  try clear hcz39_1
  try clear hcz39_2
  try clear hcz39_3
  try clear hcz39_4
  try clear hfz12_0
  try clear hfz12_1
  try clear hfz12_2
  try clear hfz12_3
  try clear hfz12_4
  try clear hfz13_0
  try clear hfz13_1
  try clear hfz13_2
  try clear hfz13_3
  try clear hfz13_4
  try clear hfz27_0
  try clear hfz27_1
  try clear hfz27_2
  try clear hfz27_3
  try clear hfz27_4
  try clear hfz32_0
  try clear hfz32_1
  try clear hfz32_2
  try clear hfz32_3
  try clear hfz32_4
  try clear hfz39_0
  try clear hfz39_1
  try clear hfz39_2
  try clear hfz39_3
  try clear hfz39_4
  obtain ⟨kq, x49_6, rfl, HA, HJ6, BK363, BK364, HB⟩ := hcut
  cases kq with
  | zero => exact absurd HA.out (by simp [law07_RegOld.j0])
  | succ kj6 =>
   have H := HA.out
   clear HA
   simp only [law07_RegOld.j0] at H
   by_cases c45 : x49_6 = true
   ·subst c45
    have H1 : (some t365) = some r := by rw [if_pos rfl] at H; exact H
    clear H
    have H := H1
    clear H1
    obtain rfl := Option.some.inj H
    go_wp2
    go_ret
    exact ⟨by first | rfl | (simp [errW_none, errW_some] <;> rfl) | (simp [*, errW_none, errW_some] <;> rfl), by repeat (first | (with_reducible first | exact HB.out | apply below_alloc | apply pw_below_drewN | apply below_drew1 | refine below_set ?_ GE363.out | refine below_set ?_ GE364.out) | exact HB.out)⟩
   ·replace c45 := Bool.eq_false_iff.mpr c45
    subst c45
    have H1 : ((reg_Put.f kj6 l0 a1_0 a1_1 a1_2 a1_3 a1_4).bind fun t380 => ((reg_Put.f kj6 l0 a2_0 a2_1 a2_2 a2_3 a2_4).bind fun t383 => ((reg_Merge.f kj6 t380 l0).bind fun t386 => ((ref07_Same.f kj6 t386 t380).bind fun t389 => ((reg_Merge.f kj6 l0 t380).bind fun t390 => ((ref07_Same.f kj6 t390 t380).bind fun t393 => ((reg_Merge.f kj6 t380 t383).bind fun t394 => ((reg_Put.f kj6 t380 a2_0 a2_1 a2_2 a2_3 a2_4).bind fun t397 => ((ref07_Same.f kj6 t394 t397).bind fun t400 => ((reg_Merge.f kj6 t380 t383).bind fun t401 => ((reg_Put.f kj6 t383 a1_0 a1_1 a1_2 a1_3 a1_4).bind fun t404 => ((ref07_Same.f kj6 t401 t404).bind fun t407 => (if t389 = true then (if t393 = true then (if t400 = true then (some t407) else (some false)) else (some false)) else (some false)))))))))))))) = some r := by rw [if_neg (show ¬ (false = true) by decide)] at H; exact H
    clear H
    have H := H1
    clear H1
    replace H := Option.bind_eq_some_iff.mp H
    obtain ⟨t380, A460, H⟩ := H
    replace H : ((reg_Put.f kj6 l0 a2_0 a2_1 a2_2 a2_3 a2_4).bind fun t383 => ((reg_Merge.f kj6 t380 l0).bind fun t386 => ((ref07_Same.f kj6 t386 t380).bind fun t389 => ((reg_Merge.f kj6 l0 t380).bind fun t390 => ((ref07_Same.f kj6 t390 t380).bind fun t393 => ((reg_Merge.f kj6 t380 t383).bind fun t394 => ((reg_Put.f kj6 t380 a2_0 a2_1 a2_2 a2_3 a2_4).bind fun t397 => ((ref07_Same.f kj6 t394 t397).bind fun t400 => ((reg_Merge.f kj6 t380 t383).bind fun t401 => ((reg_Put.f kj6 t383 a1_0 a1_1 a1_2 a1_3 a1_4).bind fun t404 => ((ref07_Same.f kj6 t401 t404).bind fun t407 => (if t389 = true then (if t393 = true then (if t400 = true then (some t407) else (some false)) else (some false)) else (some false))))))))))))) = some r := H
    have A46 := Aside0.mk A460
    clear A460
    replace H := Option.bind_eq_some_iff.mp H
    obtain ⟨t383, A470, H⟩ := H
    replace H : ((reg_Merge.f kj6 t380 l0).bind fun t386 => ((ref07_Same.f kj6 t386 t380).bind fun t389 => ((reg_Merge.f kj6 l0 t380).bind fun t390 => ((ref07_Same.f kj6 t390 t380).bind fun t393 => ((reg_Merge.f kj6 t380 t383).bind fun t394 => ((reg_Put.f kj6 t380 a2_0 a2_1 a2_2 a2_3 a2_4).bind fun t397 => ((ref07_Same.f kj6 t394 t397).bind fun t400 => ((reg_Merge.f kj6 t380 t383).bind fun t401 => ((reg_Put.f kj6 t383 a1_0 a1_1 a1_2 a1_3 a1_4).bind fun t404 => ((ref07_Same.f kj6 t401 t404).bind fun t407 => (if t389 = true then (if t393 = true then (if t400 = true then (some t407) else (some false)) else (some false)) else (some false)))))))))))) = some r := H
    have A47 := Aside0.mk A470
    clear A470
    replace H := Option.bind_eq_some_iff.mp H
    obtain ⟨t386, A480, H⟩ := H
    replace H : ((ref07_Same.f kj6 t386 t380).bind fun t389 => ((reg_Merge.f kj6 l0 t380).bind fun t390 => ((ref07_Same.f kj6 t390 t380).bind fun t393 => ((reg_Merge.f kj6 t380 t383).bind fun t394 => ((reg_Put.f kj6 t380 a2_0 a2_1 a2_2 a2_3 a2_4).bind fun t397 => ((ref07_Same.f kj6 t394 t397).bind fun t400 => ((reg_Merge.f kj6 t380 t383).bind fun t401 => ((reg_Put.f kj6 t383 a1_0 a1_1 a1_2 a1_3 a1_4).bind fun t404 => ((ref07_Same.f kj6 t401 t404).bind fun t407 => (if t389 = true then (if t393 = true then (if t400 = true then (some t407) else (some false)) else (some false)) else (some false))))))))))) = some r := H
    have A48 := Aside0.mk A480
    clear A480
    replace H := Option.bind_eq_some_iff.mp H
    obtain ⟨t389, A490, H⟩ := H
    replace H : ((reg_Merge.f kj6 l0 t380).bind fun t390 => ((ref07_Same.f kj6 t390 t380).bind fun t393 => ((reg_Merge.f kj6 t380 t383).bind fun t394 => ((reg_Put.f kj6 t380 a2_0 a2_1 a2_2 a2_3 a2_4).bind fun t397 => ((ref07_Same.f kj6 t394 t397).bind fun t400 => ((reg_Merge.f kj6 t380 t383).bind fun t401 => ((reg_Put.f kj6 t383 a1_0 a1_1 a1_2 a1_3 a1_4).bind fun t404 => ((ref07_Same.f kj6 t401 t404).bind fun t407 => (if t389 = true then (if t393 = true then (if t400 = true then (some t407) else (some false)) else (some false)) else (some false)))))))))) = some r := H
    have A49 := Aside0.mk A490
    clear A490
    replace H := Option.bind_eq_some_iff.mp H
    obtain ⟨t390, A500, H⟩ := H
    replace H : ((ref07_Same.f kj6 t390 t380).bind fun t393 => ((reg_Merge.f kj6 t380 t383).bind fun t394 => ((reg_Put.f kj6 t380 a2_0 a2_1 a2_2 a2_3 a2_4).bind fun t397 => ((ref07_Same.f kj6 t394 t397).bind fun t400 => ((reg_Merge.f kj6 t380 t383).bind fun t401 => ((reg_Put.f kj6 t383 a1_0 a1_1 a1_2 a1_3 a1_4).bind fun t404 => ((ref07_Same.f kj6 t401 t404).bind fun t407 => (if t389 = true then (if t393 = true then (if t400 = true then (some t407) else (some false)) else (some false)) else (some false))))))))) = some r := H
    have A50 := Aside0.mk A500
    clear A500
    replace H := Option.bind_eq_some_iff.mp H
    obtain ⟨t393, A510, H⟩ := H
    replace H : ((reg_Merge.f kj6 t380 t383).bind fun t394 => ((reg_Put.f kj6 t380 a2_0 a2_1 a2_2 a2_3 a2_4).bind fun t397 => ((ref07_Same.f kj6 t394 t397).bind fun t400 => ((reg_Merge.f kj6 t380 t383).bind fun t401 => ((reg_Put.f kj6 t383 a1_0 a1_1 a1_2 a1_3 a1_4).bind fun t404 => ((ref07_Same.f kj6 t401 t404).bind fun t407 => (if t389 = true then (if t393 = true then (if t400 = true then (some t407) else (some false)) else (some false)) else (some false)))))))) = some r := H
    have A51 := Aside0.mk A510
    clear A510
    replace H := Option.bind_eq_some_iff.mp H
    obtain ⟨t394, A520, H⟩ := H
    replace H : ((reg_Put.f kj6 t380 a2_0 a2_1 a2_2 a2_3 a2_4).bind fun t397 => ((ref07_Same.f kj6 t394 t397).bind fun t400 => ((reg_Merge.f kj6 t380 t383).bind fun t401 => ((reg_Put.f kj6 t383 a1_0 a1_1 a1_2 a1_3 a1_4).bind fun t404 => ((ref07_Same.f kj6 t401 t404).bind fun t407 => (if t389 = true then (if t393 = true then (if t400 = true then (some t407) else (some false)) else (some false)) else (some false))))))) = some r := H
    have A52 := Aside0.mk A520
    clear A520
    replace H := Option.bind_eq_some_iff.mp H
    obtain ⟨t397, A530, H⟩ := H
    replace H : ((ref07_Same.f kj6 t394 t397).bind fun t400 => ((reg_Merge.f kj6 t380 t383).bind fun t401 => ((reg_Put.f kj6 t383 a1_0 a1_1 a1_2 a1_3 a1_4).bind fun t404 => ((ref07_Same.f kj6 t401 t404).bind fun t407 => (if t389 = true then (if t393 = true then (if t400 = true then (some t407) else (some false)) else (some false)) else (some false)))))) = some r := H
    have A53 := Aside0.mk A530
    clear A530
    replace H := Option.bind_eq_some_iff.mp H
    obtain ⟨t400, A540, H⟩ := H
    replace H : ((reg_Merge.f kj6 t380 t383).bind fun t401 => ((reg_Put.f kj6 t383 a1_0 a1_1 a1_2 a1_3 a1_4).bind fun t404 => ((ref07_Same.f kj6 t401 t404).bind fun t407 => (if t389 = true then (if t393 = true then (if t400 = true then (some t407) else (some false)) else (some false)) else (some false))))) = some r := H
    have A54 := Aside0.mk A540
    clear A540
    replace H := Option.bind_eq_some_iff.mp H
    obtain ⟨t401, A550, H⟩ := H
    replace H : ((reg_Put.f kj6 t383 a1_0 a1_1 a1_2 a1_3 a1_4).bind fun t404 => ((ref07_Same.f kj6 t401 t404).bind fun t407 => (if t389 = true then (if t393 = true then (if t400 = true then (some t407) else (some false)) else (some false)) else (some false)))) = some r := H
    have A55 := Aside0.mk A550
    clear A550
    replace H := Option.bind_eq_some_iff.mp H
    obtain ⟨t404, A560, H⟩ := H
    replace H : ((ref07_Same.f kj6 t401 t404).bind fun t407 => (if t389 = true then (if t393 = true then (if t400 = true then (some t407) else (some false)) else (some false)) else (some false))) = some r := H
    have A56 := Aside0.mk A560
    clear A560
    replace H := Option.bind_eq_some_iff.mp H
    obtain ⟨t407, A570, H⟩ := H
    replace H : (if t389 = true then (if t393 = true then (if t400 = true then (some t407) else (some false)) else (some false)) else (some false)) = some r := H
    have A57 := Aside0.mk A570
    clear A570
    by_cases c58 : t389 = true
    ·subst c58
     have H1 : (if t393 = true then (if t400 = true then (some t407) else (some false)) else (some false)) = some r := by rw [if_pos rfl] at H; exact H
     clear H
     have H := H1
     clear H1
     by_cases c59 : t393 = true
     ·subst c59
      have H1 : (if t400 = true then (some t407) else (some false)) = some r := by rw [if_pos rfl] at H; exact H
      clear H
      have H := H1
      clear H1
      by_cases c60 : t400 = true
      ·subst c60
       have H1 : (some t407) = some r := by rw [if_pos rfl] at H; exact H
       clear H
       have H := H1
       clear H1
       obtain rfl := Option.some.inj H
       have hnb61 := NB363_364.out
       have hnc61 := NB364_363.out
       have hcz62_0 : wc.cell? ⟨gb363, 0, none⟩ = some (.string a1_0) := (blk_cell BK363.out 0).trans rfl
       have hcz62_1 : wc.cell? ⟨gb363, 1, none⟩ = some (.string a1_1) := (blk_cell BK363.out 1).trans rfl
       have hcz62_2 : wc.cell? ⟨gb363, 2, none⟩ = some (.int .i64 a1_2) := (blk_cell BK363.out 2).trans rfl
       have hcz62_3 : wc.cell? ⟨gb363, 3, none⟩ = some (.int .i64 a1_3) := (blk_cell BK363.out 3).trans rfl
       have hcz62_4 : wc.cell? ⟨gb363, 4, none⟩ = some (.int .i64 a1_4) := (blk_cell BK363.out 4).trans rfl
       have hfz62_0 := blk_frozen BK363.out 0
       have hfz62_1 := blk_frozen BK363.out 1
       have hfz62_2 := blk_frozen BK363.out 2
       have hfz62_3 := blk_frozen BK363.out 3
       have hfz62_4 := blk_frozen BK363.out 4
       try go_wp2_with (first | ((with_reducible refine gate_callee (f := 24) rfl ?_); refine goesL_ (some 53) rfl rfl Try.func24 (by kernel_rfl) rfl #[.slice A0 l0.length c0, .agg #[.string a1_0, .string a1_1, .int .i64 a1_2, .int .i64 a1_3, .int .i64 a1_4]] rfl (by (try simp only [List.map_toArray, List.map_cons, List.map_nil]); first | done | rfl | (simp only [List.length_drop, List.length_take]; rfl)) ?_; (with_reducible refine (reg_Put.calls kj6 _ _ l0 a1_0 a1_1 a1_2 a1_3 a1_4 t380 _ ?side1 ?side2 A46.out).mono ?_); (case side1 => repeat (first | exact (Kd.C_below HR0.out HB.out) | (with_reducible refine Kd.C_alloc ?_ _) | (with_reducible refine Kd.C_drewN ?_ _) | (with_reducible refine Kd.C_drew ?_))); (case side2 => exact HC0.out); rintro e w63 ⟨v381, rfl, ho0, hb⟩; refine ⟨_, rfl, ?_⟩; have n0_ := Aside0.mk (R_lower (R_newB (R_newB ho0 (g := gb363) (o := .cells #[.string a1_0, .string a1_1, .int .i64 a1_2, .int .i64 a1_3, .int .i64 a1_4] 26 (0, 0)) (by (with_reducible repeat (first | refine blk_drewN ?_ _ | refine blk_drew ?_ | refine blk_alloc ?_ _)); exact BK363.out)) (g := gb364) (o := .cells #[.string a2_0, .string a2_1, .int .i64 a2_2, .int .i64 a2_3, .int .i64 a2_4] 26 (0, 0)) (by (with_reducible repeat (first | refine blk_drewN ?_ _ | refine blk_drew ?_ | refine blk_alloc ?_ _)); exact BK364.out)) (below_size (by repeat (first | (with_reducible first | exact HB.out | apply below_alloc | apply pw_below_drewN | apply below_drew1 | refine below_set ?_ GE363.out | refine below_set ?_ GE364.out) | exact HB.out)))); have n1_ := Aside0.mk (blk_below (g := gb363) (o := .cells #[.string a1_0, .string a1_1, .int .i64 a1_2, .int .i64 a1_3, .int .i64 a1_4] 26 (0, 0)) (by (with_reducible repeat (first | refine blk_drewN ?_ _ | refine blk_drew ?_ | refine blk_alloc ?_ _)); exact BK363.out) hb); have n2_ := Aside0.mk (blk_below (g := gb364) (o := .cells #[.string a2_0, .string a2_1, .int .i64 a2_2, .int .i64 a2_3, .int .i64 a2_4] 26 (0, 0)) (by (with_reducible repeat (first | refine blk_drewN ?_ _ | refine blk_drew ?_ | refine blk_alloc ?_ _)); exact BK364.out) hb); have n3_ := Aside0.mk (below_step (by repeat (first | (with_reducible first | exact HB.out | apply below_alloc | apply pw_below_drewN | apply below_drew1 | refine below_set ?_ GE363.out | refine below_set ?_ GE364.out) | exact HB.out)) hb); clear BK363; clear BK364; clear HB; have HO382 := n0_; have BK363 := n1_; have BK364 := n2_; have HB := n3_; clear n0_ n1_ n2_ n3_; (try clear hb); (try clear hb2); (try clear hk); (try clear hi); (try clear ho0); have hcz64_0 : w63.cell? ⟨gb364, 0, none⟩ = some (.string a2_0) := (blk_cell BK364.out 0).trans rfl; have hcz64_1 : w63.cell? ⟨gb364, 1, none⟩ = some (.string a2_1) := (blk_cell BK364.out 1).trans rfl; have hcz64_2 : w63.cell? ⟨gb364, 2, none⟩ = some (.int .i64 a2_2) := (blk_cell BK364.out 2).trans rfl; have hcz64_3 : w63.cell? ⟨gb364, 3, none⟩ = some (.int .i64 a2_3) := (blk_cell BK364.out 3).trans rfl; have hcz64_4 : w63.cell? ⟨gb364, 4, none⟩ = some (.int .i64 a2_4) := (blk_cell BK364.out 4).trans rfl; have hfz64_0 := blk_frozen BK364.out 0; have hfz64_1 := blk_frozen BK364.out 1; have hfz64_2 := blk_frozen BK364.out 2; have hfz64_3 := blk_frozen BK364.out 3; have hfz64_4 := blk_frozen BK364.out 4) | ((with_reducible refine gate_callee (f := 24) rfl ?_); refine goesL_ (some 56) rfl rfl Try.func24 (by kernel_rfl) rfl #[.slice A0 l0.length c0, .agg #[.string a2_0, .string a2_1, .int .i64 a2_2, .int .i64 a2_3, .int .i64 a2_4]] rfl (by (try simp only [List.map_toArray, List.map_cons, List.map_nil]); first | done | rfl | (simp only [List.length_drop, List.length_take]; rfl)) ?_; (with_reducible refine (reg_Put.calls kj6 _ _ l0 a2_0 a2_1 a2_2 a2_3 a2_4 t383 _ ?side1 ?side2 A47.out).mono ?_); (case side1 => repeat (first | exact (Kd.C_below HR0.out HB.out) | (with_reducible refine Kd.C_alloc ?_ _) | (with_reducible refine Kd.C_drewN ?_ _) | (with_reducible refine Kd.C_drew ?_))); (case side2 => exact HC0.out); rintro e w65 ⟨v384, rfl, ho0, hb⟩; refine ⟨_, rfl, ?_⟩; have n0_ := Aside0.mk (R_elder' (by (with_reducible repeat (first | apply R_alloc | apply R_drewN | apply R_drew)); exact HO382.out) (R_base ho0) hb); have n1_ := Aside0.mk (R_lower (R_newB (R_newB (R_new' ho0 (R_lt (by (with_reducible repeat (first | apply R_alloc | apply R_drewN | apply R_drew)); exact HO382.out))) (g := gb363) (o := .cells #[.string a1_0, .string a1_1, .int .i64 a1_2, .int .i64 a1_3, .int .i64 a1_4] 26 (0, 0)) (by (with_reducible repeat (first | refine blk_drewN ?_ _ | refine blk_drew ?_ | refine blk_alloc ?_ _)); exact BK363.out)) (g := gb364) (o := .cells #[.string a2_0, .string a2_1, .int .i64 a2_2, .int .i64 a2_3, .int .i64 a2_4] 26 (0, 0)) (by (with_reducible repeat (first | refine blk_drewN ?_ _ | refine blk_drew ?_ | refine blk_alloc ?_ _)); exact BK364.out)) (below_size (by repeat (first | (with_reducible first | exact HB.out | apply below_alloc | apply pw_below_drewN | apply below_drew1 | refine below_set ?_ GE363.out | refine below_set ?_ GE364.out) | exact HB.out)))); have n2_ := Aside0.mk (blk_below (g := gb363) (o := .cells #[.string a1_0, .string a1_1, .int .i64 a1_2, .int .i64 a1_3, .int .i64 a1_4] 26 (0, 0)) (by (with_reducible repeat (first | refine blk_drewN ?_ _ | refine blk_drew ?_ | refine blk_alloc ?_ _)); exact BK363.out) hb); have n3_ := Aside0.mk (blk_below (g := gb364) (o := .cells #[.string a2_0, .string a2_1, .int .i64 a2_2, .int .i64 a2_3, .int .i64 a2_4] 26 (0, 0)) (by (with_reducible repeat (first | refine blk_drewN ?_ _ | refine blk_drew ?_ | refine blk_alloc ?_ _)); exact BK364.out) hb); have n4_ := Aside0.mk (below_step (by repeat (first | (with_reducible first | exact HB.out | apply below_alloc | apply pw_below_drewN | apply below_drew1 | refine below_set ?_ GE363.out | refine below_set ?_ GE364.out) | exact HB.out)) hb); clear HO382; clear BK363; clear BK364; clear HB; have HO382 := n0_; have HO385 := n1_; have BK363 := n2_; have BK364 := n3_; have HB := n4_; clear n0_ n1_ n2_ n3_ n4_; (try clear hb); (try clear hb2); (try clear hk); (try clear hi); (try clear ho0); obtain ⟨Ao66, co66, eo66⟩ := R_slice HO382.out; subst eo66) | ((with_reducible refine gate_callee (f := 26) rfl ?_); refine goesL_ (some 59) rfl rfl Try.func26 (by kernel_rfl) rfl #[.slice Ao66 t380.length co66, .slice A0 l0.length c0] rfl (by (try simp only [List.map_toArray, List.map_cons, List.map_nil]); first | done | rfl | (simp only [List.length_drop, List.length_take]; rfl)) ?_; (with_reducible refine (reg_Merge.calls kj6 _ _ t380 _ _ l0 t386 _ ?side1 ?side2 ?side3 ?side4 A48.out).mono ?_); (case side1 => repeat (first | exact (R_reads' HO382.out).2.2 | (with_reducible refine Kd.C_alloc ?_ _) | (with_reducible refine Kd.C_drewN ?_ _) | (with_reducible refine Kd.C_drew ?_))); (case side2 => exact (R_reads' HO382.out).2.1); (case side3 => repeat (first | exact (Kd.C_below HR0.out HB.out) | (with_reducible refine Kd.C_alloc ?_ _) | (with_reducible refine Kd.C_drewN ?_ _) | (with_reducible refine Kd.C_drew ?_))); (case side4 => exact HC0.out); rintro e w67 ⟨v387, rfl, ho0, hb⟩; refine ⟨_, rfl, ?_⟩; have n0_ := Aside0.mk (R_elder' (by (with_reducible repeat (first | apply R_alloc | apply R_drewN | apply R_drew)); exact HO382.out) (R_base ho0) hb); have n1_ := Aside0.mk (R_elder' (by (with_reducible repeat (first | apply R_alloc | apply R_drewN | apply R_drew)); exact HO385.out) (R_base ho0) hb); have n2_ := Aside0.mk (R_lower (R_newB (R_newB (R_new' (R_new' ho0 (R_lt (by (with_reducible repeat (first | apply R_alloc | apply R_drewN | apply R_drew)); exact HO382.out))) (R_lt (by (with_reducible repeat (first | apply R_alloc | apply R_drewN | apply R_drew)); exact HO385.out))) (g := gb363) (o := .cells #[.string a1_0, .string a1_1, .int .i64 a1_2, .int .i64 a1_3, .int .i64 a1_4] 26 (0, 0)) (by (with_reducible repeat (first | refine blk_drewN ?_ _ | refine blk_drew ?_ | refine blk_alloc ?_ _)); exact BK363.out)) (g := gb364) (o := .cells #[.string a2_0, .string a2_1, .int .i64 a2_2, .int .i64 a2_3, .int .i64 a2_4] 26 (0, 0)) (by (with_reducible repeat (first | refine blk_drewN ?_ _ | refine blk_drew ?_ | refine blk_alloc ?_ _)); exact BK364.out)) (below_size (by repeat (first | (with_reducible first | exact HB.out | apply below_alloc | apply pw_below_drewN | apply below_drew1 | refine below_set ?_ GE363.out | refine below_set ?_ GE364.out) | exact HB.out)))); have n3_ := Aside0.mk (blk_below (g := gb363) (o := .cells #[.string a1_0, .string a1_1, .int .i64 a1_2, .int .i64 a1_3, .int .i64 a1_4] 26 (0, 0)) (by (with_reducible repeat (first | refine blk_drewN ?_ _ | refine blk_drew ?_ | refine blk_alloc ?_ _)); exact BK363.out) hb); have n4_ := Aside0.mk (blk_below (g := gb364) (o := .cells #[.string a2_0, .string a2_1, .int .i64 a2_2, .int .i64 a2_3, .int .i64 a2_4] 26 (0, 0)) (by (with_reducible repeat (first | refine blk_drewN ?_ _ | refine blk_drew ?_ | refine blk_alloc ?_ _)); exact BK364.out) hb); have n5_ := Aside0.mk (below_step (by repeat (first | (with_reducible first | exact HB.out | apply below_alloc | apply pw_below_drewN | apply below_drew1 | refine below_set ?_ GE363.out | refine below_set ?_ GE364.out) | exact HB.out)) hb); clear HO382; clear HO385; clear BK363; clear BK364; clear HB; have HO382 := n0_; have HO385 := n1_; have HO388 := n2_; have BK363 := n3_; have BK364 := n4_; have HB := n5_; clear n0_ n1_ n2_ n3_ n4_ n5_; (try clear hb); (try clear hb2); (try clear hk); (try clear hi); (try clear ho0); obtain ⟨Ao68, co68, eo68⟩ := R_slice HO388.out; subst eo68) | ((with_reducible refine gate_callee (f := 23) rfl ?_); refine goesL_ (some 61) rfl rfl Try.func23 (by kernel_rfl) rfl #[.slice Ao68 t386.length co68, .slice Ao66 t380.length co66] rfl (by (try simp only [List.map_toArray, List.map_cons, List.map_nil]); first | done | rfl | (simp only [List.length_drop, List.length_take]; rfl)) ?_; (with_reducible refine (ref07_Same.calls kj6 _ _ t386 _ _ t380 true _ ?side1 ?side2 ?side3 ?side4 A49.out).mono ?_); (case side1 => repeat (first | exact (R_reads' HO388.out).2.2 | (with_reducible refine Kd.C_alloc ?_ _) | (with_reducible refine Kd.C_drewN ?_ _) | (with_reducible refine Kd.C_drew ?_))); (case side2 => exact (R_reads' HO388.out).2.1); (case side3 => repeat (first | exact (R_reads' HO382.out).2.2 | (with_reducible refine Kd.C_alloc ?_ _) | (with_reducible refine Kd.C_drewN ?_ _) | (with_reducible refine Kd.C_drew ?_))); (case side4 => exact (R_reads' HO382.out).2.1); rintro e w' ⟨rfl, ⟨nd, rfl⟩⟩; refine ⟨_, rfl, ?_⟩) | ((with_reducible refine gate_callee (f := 26) rfl ?_); refine goesL_ (some 64) rfl rfl Try.func26 (by kernel_rfl) rfl #[.slice A0 l0.length c0, .slice Ao66 t380.length co66] rfl (by (try simp only [List.map_toArray, List.map_cons, List.map_nil]); first | done | rfl | (simp only [List.length_drop, List.length_take]; rfl)) ?_; (with_reducible refine (reg_Merge.calls kj6 _ _ l0 _ _ t380 t390 _ ?side1 ?side2 ?side3 ?side4 A50.out).mono ?_); (case side1 => repeat (first | exact (Kd.C_below HR0.out (by repeat (first | (with_reducible first | exact HB.out | apply below_alloc | apply pw_below_drewN | apply below_drew1 | refine below_set ?_ GE363.out | refine below_set ?_ GE364.out) | exact HB.out))) | (with_reducible refine Kd.C_alloc ?_ _) | (with_reducible refine Kd.C_drewN ?_ _) | (with_reducible refine Kd.C_drew ?_))); (case side2 => exact HC0.out); (case side3 => repeat (first | exact (R_reads' HO382.out).2.2 | (with_reducible refine Kd.C_alloc ?_ _) | (with_reducible refine Kd.C_drewN ?_ _) | (with_reducible refine Kd.C_drew ?_))); (case side4 => exact (R_reads' HO382.out).2.1); rintro e w69 ⟨v391, rfl, ho0, hb⟩; refine ⟨_, rfl, ?_⟩; have n0_ := Aside0.mk (R_elder' (by (with_reducible repeat (first | apply R_alloc | apply R_drewN | apply R_drew)); exact HO382.out) (R_base ho0) hb); have n1_ := Aside0.mk (R_elder' (by (with_reducible repeat (first | apply R_alloc | apply R_drewN | apply R_drew)); exact HO385.out) (R_base ho0) hb); have n2_ := Aside0.mk (R_elder' (by (with_reducible repeat (first | apply R_alloc | apply R_drewN | apply R_drew)); exact HO388.out) (R_base ho0) hb); have n3_ := Aside0.mk (R_lower (R_newB (R_newB (R_new' (R_new' (R_new' ho0 (R_lt (by (with_reducible repeat (first | apply R_alloc | apply R_drewN | apply R_drew)); exact HO382.out))) (R_lt (by (with_reducible repeat (first | apply R_alloc | apply R_drewN | apply R_drew)); exact HO385.out))) (R_lt (by (with_reducible repeat (first | apply R_alloc | apply R_drewN | apply R_drew)); exact HO388.out))) (g := gb363) (o := .cells #[.string a1_0, .string a1_1, .int .i64 a1_2, .int .i64 a1_3, .int .i64 a1_4] 26 (0, 0)) (by (with_reducible repeat (first | refine blk_drewN ?_ _ | refine blk_drew ?_ | refine blk_alloc ?_ _)); exact BK363.out)) (g := gb364) (o := .cells #[.string a2_0, .string a2_1, .int .i64 a2_2, .int .i64 a2_3, .int .i64 a2_4] 26 (0, 0)) (by (with_reducible repeat (first | refine blk_drewN ?_ _ | refine blk_drew ?_ | refine blk_alloc ?_ _)); exact BK364.out)) (below_size (by repeat (first | (with_reducible first | exact HB.out | apply below_alloc | apply pw_below_drewN | apply below_drew1 | refine below_set ?_ GE363.out | refine below_set ?_ GE364.out) | exact HB.out)))); have n4_ := Aside0.mk (blk_below (g := gb363) (o := .cells #[.string a1_0, .string a1_1, .int .i64 a1_2, .int .i64 a1_3, .int .i64 a1_4] 26 (0, 0)) (by (with_reducible repeat (first | refine blk_drewN ?_ _ | refine blk_drew ?_ | refine blk_alloc ?_ _)); exact BK363.out) hb); have n5_ := Aside0.mk (blk_below (g := gb364) (o := .cells #[.string a2_0, .string a2_1, .int .i64 a2_2, .int .i64 a2_3, .int .i64 a2_4] 26 (0, 0)) (by (with_reducible repeat (first | refine blk_drewN ?_ _ | refine blk_drew ?_ | refine blk_alloc ?_ _)); exact BK364.out) hb); have n6_ := Aside0.mk (below_step (by repeat (first | (with_reducible first | exact HB.out | apply below_alloc | apply pw_below_drewN | apply below_drew1 | refine below_set ?_ GE363.out | refine below_set ?_ GE364.out) | exact HB.out)) hb); clear HO382; clear HO385; clear HO388; clear BK363; clear BK364; clear HB; have HO382 := n0_; have HO385 := n1_; have HO388 := n2_; have HO392 := n3_; have BK363 := n4_; have BK364 := n5_; have HB := n6_; clear n0_ n1_ n2_ n3_ n4_ n5_ n6_; (try clear hb); (try clear hb2); (try clear hk); (try clear hi); (try clear ho0); obtain ⟨Ao70, co70, eo70⟩ := R_slice HO392.out; subst eo70) | ((with_reducible refine gate_callee (f := 23) rfl ?_); refine goesL_ (some 66) rfl rfl Try.func23 (by kernel_rfl) rfl #[.slice Ao70 t390.length co70, .slice Ao66 t380.length co66] rfl (by (try simp only [List.map_toArray, List.map_cons, List.map_nil]); first | done | rfl | (simp only [List.length_drop, List.length_take]; rfl)) ?_; (with_reducible refine (ref07_Same.calls kj6 _ _ t390 _ _ t380 true _ ?side1 ?side2 ?side3 ?side4 A51.out).mono ?_); (case side1 => repeat (first | exact (R_reads' HO392.out).2.2 | (with_reducible refine Kd.C_alloc ?_ _) | (with_reducible refine Kd.C_drewN ?_ _) | (with_reducible refine Kd.C_drew ?_))); (case side2 => exact (R_reads' HO392.out).2.1); (case side3 => repeat (first | exact (R_reads' HO382.out).2.2 | (with_reducible refine Kd.C_alloc ?_ _) | (with_reducible refine Kd.C_drewN ?_ _) | (with_reducible refine Kd.C_drew ?_))); (case side4 => exact (R_reads' HO382.out).2.1); rintro e w' ⟨rfl, ⟨nd, rfl⟩⟩; refine ⟨_, rfl, ?_⟩))
       (try (rw [drewN_self w69]; generalize hq_ : World.drewN w69 _ = w69; have n0_ : Aside0 (Kd.R k26 26 w69 w.heap.size (fun k_ => some k_ ≠ (v384 : Value).ownBlock ∧ some k_ ≠ (.slice Ao68 t386.length co68 : Value).ownBlock ∧ some k_ ≠ (.slice Ao70 t390.length co70 : Value).ownBlock ∧ k_ ≠ gb363 ∧ k_ ≠ gb364) (.slice Ao66 t380.length co66) t380) := ⟨by rw [← hq_]; exact (by (with_reducible repeat (first | apply R_alloc | apply R_drewN | apply R_drew)); exact R_mono HO382.out (fun _ hk => by simp only [ne_eq, hk, not_false_eq_true, and_self]))⟩; have n1_ : Aside0 (Kd.R k26 26 w69 w.heap.size (fun k_ => some k_ ≠ (.slice Ao66 t380.length co66 : Value).ownBlock ∧ some k_ ≠ (.slice Ao68 t386.length co68 : Value).ownBlock ∧ some k_ ≠ (.slice Ao70 t390.length co70 : Value).ownBlock ∧ k_ ≠ gb363 ∧ k_ ≠ gb364) v384 t383) := ⟨by rw [← hq_]; exact (by (with_reducible repeat (first | apply R_alloc | apply R_drewN | apply R_drew)); exact R_mono HO385.out (fun _ hk => by simp only [ne_eq, hk, not_false_eq_true, and_self]))⟩; have n2_ : Aside0 (Kd.R k26 26 w69 w.heap.size (fun k_ => some k_ ≠ (.slice Ao66 t380.length co66 : Value).ownBlock ∧ some k_ ≠ (v384 : Value).ownBlock ∧ some k_ ≠ (.slice Ao70 t390.length co70 : Value).ownBlock ∧ k_ ≠ gb363 ∧ k_ ≠ gb364) (.slice Ao68 t386.length co68) t386) := ⟨by rw [← hq_]; exact (by (with_reducible repeat (first | apply R_alloc | apply R_drewN | apply R_drew)); exact R_mono HO388.out (fun _ hk => by simp only [ne_eq, hk, not_false_eq_true, and_self]))⟩; have n3_ : Aside0 (Kd.R k26 26 w69 w.heap.size (fun k_ => some k_ ≠ (.slice Ao66 t380.length co66 : Value).ownBlock ∧ some k_ ≠ (v384 : Value).ownBlock ∧ some k_ ≠ (.slice Ao68 t386.length co68 : Value).ownBlock ∧ k_ ≠ gb363 ∧ k_ ≠ gb364) (.slice Ao70 t390.length co70) t390) := ⟨by rw [← hq_]; exact (by (with_reducible repeat (first | apply R_alloc | apply R_drewN | apply R_drew)); exact R_mono HO392.out (fun _ hk => by simp only [ne_eq, hk, not_false_eq_true, and_self]))⟩; have n4_ : Aside0 (w69.heap[gb363]? = some (.cells #[.string a1_0, .string a1_1, .int .i64 a1_2, .int .i64 a1_3, .int .i64 a1_4] 26 (0, 0))) := ⟨by rw [← hq_]; exact (by (with_reducible repeat (first | refine blk_drewN ?_ _ | refine blk_drew ?_ | refine blk_alloc ?_ _)); exact BK363.out)⟩; have n5_ : Aside0 (w69.heap[gb364]? = some (.cells #[.string a2_0, .string a2_1, .int .i64 a2_2, .int .i64 a2_3, .int .i64 a2_4] 26 (0, 0))) := ⟨by rw [← hq_]; exact (by (with_reducible repeat (first | refine blk_drewN ?_ _ | refine blk_drew ?_ | refine blk_alloc ?_ _)); exact BK364.out)⟩; have n6_ : Aside0 (Below w.heap.size w w69) := ⟨by rw [← hq_]; exact (by repeat (first | (with_reducible first | exact HB.out | apply below_alloc | apply pw_below_drewN | apply below_drew1 | refine below_set ?_ GE363.out | refine below_set ?_ GE364.out) | exact HB.out))⟩; clear HO382 HO385 HO388 HO392 BK363 BK364 HB hq_; have HO382 := n0_; have HO385 := n1_; have HO388 := n2_; have HO392 := n3_; have BK363 := n4_; have BK364 := n5_; have HB := n6_; clear n0_ n1_ n2_ n3_ n4_ n5_ n6_))
       have n0_ := Aside0.mk (R_drew HO382.out)
       have n1_ := Aside0.mk (R_drew HO385.out)
       have n2_ := Aside0.mk (R_drew HO388.out)
       have n3_ := Aside0.mk (R_drew HO392.out)
       have n4_ := Aside0.mk (blk_drew BK363.out)
       have n5_ := Aside0.mk (blk_drew BK364.out)
       have n6_ := Aside0.mk (below_drew1 HB.out)
       clear HO382
       clear HO385
       clear HO388
       clear HO392
       clear BK363
       clear BK364
       clear HB
       have HO382 := n0_
       have HO385 := n1_
       have HO388 := n2_
       have HO392 := n3_
       have BK363 := n4_
       have BK364 := n5_
       have HB := n6_
       clear n0_ n1_ n2_ n3_ n4_ n5_ n6_
       obtain ⟨Ao72, co72, eo72⟩ := R_slice HO385.out
       (first | subst eo72 | (injection eo72 with f1_ f2_ f3_; have f4_ := f1_.symm; have f5_ := f3_.symm; clear f1_ f2_ f3_; subst f4_; subst f5_))
       refine start_ (n := 8) (S := fun w' => w'.cell? ⟨gb364, 0, none⟩ = some (.string a2_0) ∧ w'.cell? ⟨gb364, 1, none⟩ = some (.string a2_1) ∧ w'.cell? ⟨gb364, 2, none⟩ = some (.int .i64 a2_2) ∧ w'.cell? ⟨gb364, 3, none⟩ = some (.int .i64 a2_3) ∧ w'.cell? ⟨gb364, 4, none⟩ = some (.int .i64 a2_4)) (ds := []) #[false,false,false,false,false,false,false,false] (by kernel_rfl) rfl rfl ⟨(blk_cell BK364.out 0).trans rfl, (blk_cell BK364.out 1).trans rfl, (blk_cell BK364.out 2).trans rfl, (blk_cell BK364.out 3).trans rfl, (blk_cell BK364.out 4).trans rfl⟩ (fun hHeld => ?_); refine with_tabW law07_RegOld.tab10 law07_RegOld.bits10 (fun HT_ HW_ => ?_)
       generalize w69.drew = w71 at HO382 HO385 HO388 HO392 BK363 BK364 HB hHeld ⊢
       refine pure_ (i := 0) (N := some 67) (v := ?_) (a' := ?_) #[true,false,false,false,false,false,false,false] rfl rfl (any_of HT_.out (by kernel_rfl)) (fun _ _ _ h => h) (Or.inl ⟨by rfl, ?_⟩) ?_ ?_
       rotate_left
       ·intro w'
        go_simp
        with_reducible rfl
       rotate_left
       ·simp only [Act.put, List.setIfInBounds_toArray, List.set_cons_zero, List.set_cons_succ, i64_w, i32_w]
        rfl
       refine pure_ (i := 1) (N := some 68) (v := ?_) (a' := ?_) #[true,true,false,false,false,false,false,false] rfl rfl (any_of HT_.out (by kernel_rfl)) (fun _ _ _ h => h) (Or.inl ⟨by rfl, ?_⟩) ?_ ?_
       rotate_left
       ·intro w'
        go_simp
        with_reducible rfl
       rotate_left
       ·simp only [Act.put, List.setIfInBounds_toArray, List.set_cons_zero, List.set_cons_succ, i64_w, i32_w]
        rfl
       refine pure_ (i := 3) (N := some 70) (v := ?_) (a' := ?_) #[true,true,false,true,false,false,false,false] rfl rfl (any_of HT_.out (by kernel_rfl)) (fun _ _ _ h => h) (Or.inl ⟨by rfl, ?_⟩) ?_ ?_
       rotate_left
       ·intro w'
        go_simp
        with_reducible rfl
       rotate_left
       ·simp only [Act.put, List.setIfInBounds_toArray, List.set_cons_zero, List.set_cons_succ, i64_w, i32_w]
        rfl
       refine take_ (i := 4) (N := some 71) (v := ?_) (a' := ?_) #[true,true,false,true,true,false,false,false] rfl rfl (take_ofW HT_.out HW_.out (by kernel_rfl)) (fun _ _ _ h => h) (Or.inl ⟨by rfl, ?_⟩) hHeld ?_ ?_
       rotate_left
       ·rintro w' ⟨s0, s1, s2, s3, s4⟩
        go_simp
        with_reducible rfl
       rotate_left
       ·simp only [Act.put, List.setIfInBounds_toArray, List.set_cons_zero, List.set_cons_succ, i64_w, i32_w]
        rfl
       refine one_ (i := 2) (N := some 69) #[true,true,true,true,true,false,false,false] rfl rfl (one_of HT_.out (by kernel_rfl)) (by decide) (fun K hK => ?_)
       refine goes_ Try.func26 (by kernel_rfl) rfl #[.slice Ao66 t380.length co66, .slice Ao72 t383.length co72] (by rfl) rfl rfl (by (try simp only [List.map_toArray, List.map_cons, List.map_nil]); first | done | rfl | (simp only [List.length_drop, List.length_take]; rfl)) ?_
       with_reducible refine (reg_Merge.calls kj6 _ _ t380 _ _ t383 t394 _ ?side1 ?side2 ?side3 ?side4 A52.out).mono ?_
       (case side1 => repeat (first | exact (R_reads' HO382.out).2.2 | (with_reducible refine Kd.C_alloc ?_ _) | (with_reducible refine Kd.C_drewN ?_ _) | (with_reducible refine Kd.C_drew ?_)))
       (case side2 => exact (R_reads' HO382.out).2.1)
       (case side3 => repeat (first | exact (R_reads' HO385.out).2.2 | (with_reducible refine Kd.C_alloc ?_ _) | (with_reducible refine Kd.C_drewN ?_ _) | (with_reducible refine Kd.C_drew ?_)))
       (case side4 => exact (R_reads' HO385.out).2.1)
       rintro e w73 ⟨v395, rfl, ho0, hb⟩
       refine ⟨_, rfl, ?_⟩
       have n0_ := Aside0.mk (R_elder' (by (with_reducible repeat (first | apply R_alloc | apply R_drewN | apply R_drew)); exact HO382.out) (R_base ho0) hb)
       have n1_ := Aside0.mk (R_elder' (by (with_reducible repeat (first | apply R_alloc | apply R_drewN | apply R_drew)); exact HO385.out) (R_base ho0) hb)
       have n2_ := Aside0.mk (R_elder' (by (with_reducible repeat (first | apply R_alloc | apply R_drewN | apply R_drew)); exact HO388.out) (R_base ho0) hb)
       have n3_ := Aside0.mk (R_elder' (by (with_reducible repeat (first | apply R_alloc | apply R_drewN | apply R_drew)); exact HO392.out) (R_base ho0) hb)
       have n4_ := Aside0.mk (R_lower (R_newB (R_newB (R_new' (R_new' (R_new' (R_new' ho0 (R_lt (by (with_reducible repeat (first | apply R_alloc | apply R_drewN | apply R_drew)); exact HO382.out))) (R_lt (by (with_reducible repeat (first | apply R_alloc | apply R_drewN | apply R_drew)); exact HO385.out))) (R_lt (by (with_reducible repeat (first | apply R_alloc | apply R_drewN | apply R_drew)); exact HO388.out))) (R_lt (by (with_reducible repeat (first | apply R_alloc | apply R_drewN | apply R_drew)); exact HO392.out))) (g := gb363) (o := .cells #[.string a1_0, .string a1_1, .int .i64 a1_2, .int .i64 a1_3, .int .i64 a1_4] 26 (0, 0)) (by (with_reducible repeat (first | refine blk_drewN ?_ _ | refine blk_drew ?_ | refine blk_alloc ?_ _)); exact BK363.out)) (g := gb364) (o := .cells #[.string a2_0, .string a2_1, .int .i64 a2_2, .int .i64 a2_3, .int .i64 a2_4] 26 (0, 0)) (by (with_reducible repeat (first | refine blk_drewN ?_ _ | refine blk_drew ?_ | refine blk_alloc ?_ _)); exact BK364.out)) (below_size (by repeat (first | (with_reducible first | exact HB.out | apply below_alloc | apply pw_below_drewN | apply below_drew1 | refine below_set ?_ GE363.out | refine below_set ?_ GE364.out) | exact HB.out))))
       have n5_ := Aside0.mk (blk_below (g := gb363) (o := .cells #[.string a1_0, .string a1_1, .int .i64 a1_2, .int .i64 a1_3, .int .i64 a1_4] 26 (0, 0)) (by (with_reducible repeat (first | refine blk_drewN ?_ _ | refine blk_drew ?_ | refine blk_alloc ?_ _)); exact BK363.out) hb)
       have n6_ := Aside0.mk (blk_below (g := gb364) (o := .cells #[.string a2_0, .string a2_1, .int .i64 a2_2, .int .i64 a2_3, .int .i64 a2_4] 26 (0, 0)) (by (with_reducible repeat (first | refine blk_drewN ?_ _ | refine blk_drew ?_ | refine blk_alloc ?_ _)); exact BK364.out) hb)
       have n7_ := Aside0.mk (below_step (by repeat (first | (with_reducible first | exact HB.out | apply below_alloc | apply pw_below_drewN | apply below_drew1 | refine below_set ?_ GE363.out | refine below_set ?_ GE364.out) | exact HB.out)) hb)
       clear HO382
       clear HO385
       clear HO388
       clear HO392
       clear BK363
       clear BK364
       clear HB
       have HO382 := n0_
       have HO385 := n1_
       have HO388 := n2_
       have HO392 := n3_
       have HO396 := n4_
       have BK363 := n5_
       have BK364 := n6_
       have HB := n7_
       clear n0_ n1_ n2_ n3_ n4_ n5_ n6_ n7_
       (try clear hb)
       (try clear hb2)
       (try clear hk)
       (try clear hi)
       (try clear ho0)
       refine hK.out _ _ ⟨(blk_cell BK364.out 0).trans rfl, (blk_cell BK364.out 1).trans rfl, (blk_cell BK364.out 2).trans rfl, (blk_cell BK364.out 3).trans rfl, (blk_cell BK364.out 4).trans rfl⟩ (fun hHeld => ?_)
       clear hK K
       refine norm_ (a' := ?_) ?_ ?_
       rotate_left
       ·show Act.put _ (some 69) _ = _
        simp only [Act.put, List.setIfInBounds_toArray, List.set_cons_zero, List.set_cons_succ, i64_w, i32_w]
        rfl
       refine one_ (i := 5) (N := some 72) #[true,true,true,true,true,true,false,false] rfl rfl (one_of HT_.out (by kernel_rfl)) (by decide) (fun K hK => ?_)
       refine goes_ Try.func24 (by kernel_rfl) rfl #[.slice Ao66 t380.length co66, .agg #[.string a2_0, .string a2_1, .int .i64 a2_2, .int .i64 a2_3, .int .i64 a2_4]] (by rfl) rfl rfl (by (try simp only [List.map_toArray, List.map_cons, List.map_nil]); first | done | rfl | (simp only [List.length_drop, List.length_take]; rfl)) ?_
       with_reducible refine (reg_Put.calls kj6 _ _ t380 a2_0 a2_1 a2_2 a2_3 a2_4 t397 _ ?side1 ?side2 A53.out).mono ?_
       (case side1 => repeat (first | exact (R_reads' HO382.out).2.2 | (with_reducible refine Kd.C_alloc ?_ _) | (with_reducible refine Kd.C_drewN ?_ _) | (with_reducible refine Kd.C_drew ?_)))
       (case side2 => exact (R_reads' HO382.out).2.1)
       rintro e w74 ⟨v398, rfl, ho0, hb⟩
       refine ⟨_, rfl, ?_⟩
       have n0_ := Aside0.mk (R_elder' (by (with_reducible repeat (first | apply R_alloc | apply R_drewN | apply R_drew)); exact HO382.out) (R_base ho0) hb)
       have n1_ := Aside0.mk (R_elder' (by (with_reducible repeat (first | apply R_alloc | apply R_drewN | apply R_drew)); exact HO385.out) (R_base ho0) hb)
       have n2_ := Aside0.mk (R_elder' (by (with_reducible repeat (first | apply R_alloc | apply R_drewN | apply R_drew)); exact HO388.out) (R_base ho0) hb)
       have n3_ := Aside0.mk (R_elder' (by (with_reducible repeat (first | apply R_alloc | apply R_drewN | apply R_drew)); exact HO392.out) (R_base ho0) hb)
       have n4_ := Aside0.mk (R_elder' (by (with_reducible repeat (first | apply R_alloc | apply R_drewN | apply R_drew)); exact HO396.out) (R_base ho0) hb)
       have n5_ := Aside0.mk (R_lower (R_newB (R_newB (R_new' (R_new' (R_new' (R_new' (R_new' ho0 (R_lt (by (with_reducible repeat (first | apply R_alloc | apply R_drewN | apply R_drew)); exact HO382.out))) (R_lt (by (with_reducible repeat (first | apply R_alloc | apply R_drewN | apply R_drew)); exact HO385.out))) (R_lt (by (with_reducible repeat (first | apply R_alloc | apply R_drewN | apply R_drew)); exact HO388.out))) (R_lt (by (with_reducible repeat (first | apply R_alloc | apply R_drewN | apply R_drew)); exact HO392.out))) (R_lt (by (with_reducible repeat (first | apply R_alloc | apply R_drewN | apply R_drew)); exact HO396.out))) (g := gb363) (o := .cells #[.string a1_0, .string a1_1, .int .i64 a1_2, .int .i64 a1_3, .int .i64 a1_4] 26 (0, 0)) (by (with_reducible repeat (first | refine blk_drewN ?_ _ | refine blk_drew ?_ | refine blk_alloc ?_ _)); exact BK363.out)) (g := gb364) (o := .cells #[.string a2_0, .string a2_1, .int .i64 a2_2, .int .i64 a2_3, .int .i64 a2_4] 26 (0, 0)) (by (with_reducible repeat (first | refine blk_drewN ?_ _ | refine blk_drew ?_ | refine blk_alloc ?_ _)); exact BK364.out)) (below_size (by repeat (first | (with_reducible first | exact HB.out | apply below_alloc | apply pw_below_drewN | apply below_drew1 | refine below_set ?_ GE363.out | refine below_set ?_ GE364.out) | exact HB.out))))
       have n6_ := Aside0.mk (blk_below (g := gb363) (o := .cells #[.string a1_0, .string a1_1, .int .i64 a1_2, .int .i64 a1_3, .int .i64 a1_4] 26 (0, 0)) (by (with_reducible repeat (first | refine blk_drewN ?_ _ | refine blk_drew ?_ | refine blk_alloc ?_ _)); exact BK363.out) hb)
       have n7_ := Aside0.mk (blk_below (g := gb364) (o := .cells #[.string a2_0, .string a2_1, .int .i64 a2_2, .int .i64 a2_3, .int .i64 a2_4] 26 (0, 0)) (by (with_reducible repeat (first | refine blk_drewN ?_ _ | refine blk_drew ?_ | refine blk_alloc ?_ _)); exact BK364.out) hb)
       have n8_ := Aside0.mk (below_step (by repeat (first | (with_reducible first | exact HB.out | apply below_alloc | apply pw_below_drewN | apply below_drew1 | refine below_set ?_ GE363.out | refine below_set ?_ GE364.out) | exact HB.out)) hb)
       clear HO382
       clear HO385
       clear HO388
       clear HO392
       clear HO396
       clear BK363
       clear BK364
       clear HB
       have HO382 := n0_
       have HO385 := n1_
       have HO388 := n2_
       have HO392 := n3_
       have HO396 := n4_
       have HO399 := n5_
       have BK363 := n6_
       have BK364 := n7_
       have HB := n8_
       clear n0_ n1_ n2_ n3_ n4_ n5_ n6_ n7_ n8_
       (try clear hb)
       (try clear hb2)
       (try clear hk)
       (try clear hi)
       (try clear ho0)
       obtain ⟨Ao75, co75, eo75⟩ := R_slice HO396.out
       (first | subst eo75 | (injection eo75 with f1_ f2_ f3_; have f4_ := f1_.symm; have f5_ := f3_.symm; clear f1_ f2_ f3_; subst f4_; subst f5_))
       obtain ⟨Ao76, co76, eo76⟩ := R_slice HO399.out
       (first | subst eo76 | (injection eo76 with f1_ f2_ f3_; have f4_ := f1_.symm; have f5_ := f3_.symm; clear f1_ f2_ f3_; subst f4_; subst f5_))
       refine hK.out _ _ ⟨(blk_cell BK364.out 0).trans rfl, (blk_cell BK364.out 1).trans rfl, (blk_cell BK364.out 2).trans rfl, (blk_cell BK364.out 3).trans rfl, (blk_cell BK364.out 4).trans rfl⟩ (fun hHeld => ?_)
       clear hK K
       refine norm_ (a' := ?_) ?_ ?_
       rotate_left
       ·show Act.put _ (some 72) _ = _
        simp only [Act.put, List.setIfInBounds_toArray, List.set_cons_zero, List.set_cons_succ, i64_w, i32_w]
        rfl
       refine one_ (i := 6) (N := some 73) #[true,true,true,true,true,true,true,false] rfl rfl (one_of HT_.out (by kernel_rfl)) (by decide) (fun K hK => ?_)
       refine goes_ Try.func23 (by kernel_rfl) rfl #[.slice Ao75 t394.length co75, .slice Ao76 t397.length co76] (by rfl) rfl rfl (by (try simp only [List.map_toArray, List.map_cons, List.map_nil]); first | done | rfl | (simp only [List.length_drop, List.length_take]; rfl)) ?_
       with_reducible refine (ref07_Same.calls kj6 _ _ t394 _ _ t397 true _ ?side1 ?side2 ?side3 ?side4 A54.out).mono ?_
       (case side1 => repeat (first | exact (R_reads' HO396.out).2.2 | (with_reducible refine Kd.C_alloc ?_ _) | (with_reducible refine Kd.C_drewN ?_ _) | (with_reducible refine Kd.C_drew ?_)))
       (case side2 => exact (R_reads' HO396.out).2.1)
       (case side3 => repeat (first | exact (R_reads' HO399.out).2.2 | (with_reducible refine Kd.C_alloc ?_ _) | (with_reducible refine Kd.C_drewN ?_ _) | (with_reducible refine Kd.C_drew ?_)))
       (case side4 => exact (R_reads' HO399.out).2.1)
       rintro e w' ⟨rfl, ⟨nd, rfl⟩⟩
       refine ⟨_, rfl, ?_⟩
       refine hK.out _ _ ⟨(blk_cell BK364.out 0).trans rfl, (blk_cell BK364.out 1).trans rfl, (blk_cell BK364.out 2).trans rfl, (blk_cell BK364.out 3).trans rfl, (blk_cell BK364.out 4).trans rfl⟩ (fun hHeld => ?_)
       clear hK K
       refine norm_ (a' := ?_) ?_ ?_
       rotate_left
       ·show Act.put _ (some 73) _ = _
        simp only [Act.put, List.setIfInBounds_toArray, List.set_cons_zero, List.set_cons_succ, i64_w, i32_w]
        rfl
       refine pure_ (i := 7) (N := some 14) (v := ?_) (a' := ?_) #[true,true,true,true,true,true,true,true] rfl rfl (any_of HT_.out (by kernel_rfl)) (fun _ _ _ h => h) (Or.inl ⟨by rfl, ?_⟩) ?_ ?_
       rotate_left
       ·intro w'
        go_simp
        with_reducible rfl
       rotate_left
       ·simp only [Act.put, List.setIfInBounds_toArray, List.set_cons_zero, List.set_cons_succ, i64_w, i32_w]
        rfl
       refine done_ (done_of HT_.out (by kernel_rfl)) ?_
       try go_wp2
       (try (rw [drewN_self w74]; generalize hq_ : World.drewN w74 _ = w74; have n0_ : Aside0 (Kd.R k26 26 w74 w.heap.size (fun k_ => some k_ ≠ (.slice Ao72 t383.length co72 : Value).ownBlock ∧ some k_ ≠ (.slice Ao68 t386.length co68 : Value).ownBlock ∧ some k_ ≠ (.slice Ao70 t390.length co70 : Value).ownBlock ∧ some k_ ≠ (.slice Ao75 t394.length co75 : Value).ownBlock ∧ some k_ ≠ (.slice Ao76 t397.length co76 : Value).ownBlock ∧ k_ ≠ gb363 ∧ k_ ≠ gb364) (.slice Ao66 t380.length co66) t380) := ⟨by rw [← hq_]; exact (by (with_reducible repeat (first | apply R_alloc | apply R_drewN | apply R_drew)); exact R_mono HO382.out (fun _ hk => by simp only [ne_eq, hk, not_false_eq_true, and_self]))⟩; have n1_ : Aside0 (Kd.R k26 26 w74 w.heap.size (fun k_ => some k_ ≠ (.slice Ao66 t380.length co66 : Value).ownBlock ∧ some k_ ≠ (.slice Ao68 t386.length co68 : Value).ownBlock ∧ some k_ ≠ (.slice Ao70 t390.length co70 : Value).ownBlock ∧ some k_ ≠ (.slice Ao75 t394.length co75 : Value).ownBlock ∧ some k_ ≠ (.slice Ao76 t397.length co76 : Value).ownBlock ∧ k_ ≠ gb363 ∧ k_ ≠ gb364) (.slice Ao72 t383.length co72) t383) := ⟨by rw [← hq_]; exact (by (with_reducible repeat (first | apply R_alloc | apply R_drewN | apply R_drew)); exact R_mono HO385.out (fun _ hk => by simp only [ne_eq, hk, not_false_eq_true, and_self]))⟩; have n2_ : Aside0 (Kd.R k26 26 w74 w.heap.size (fun k_ => some k_ ≠ (.slice Ao66 t380.length co66 : Value).ownBlock ∧ some k_ ≠ (.slice Ao72 t383.length co72 : Value).ownBlock ∧ some k_ ≠ (.slice Ao70 t390.length co70 : Value).ownBlock ∧ some k_ ≠ (.slice Ao75 t394.length co75 : Value).ownBlock ∧ some k_ ≠ (.slice Ao76 t397.length co76 : Value).ownBlock ∧ k_ ≠ gb363 ∧ k_ ≠ gb364) (.slice Ao68 t386.length co68) t386) := ⟨by rw [← hq_]; exact (by (with_reducible repeat (first | apply R_alloc | apply R_drewN | apply R_drew)); exact R_mono HO388.out (fun _ hk => by simp only [ne_eq, hk, not_false_eq_true, and_self]))⟩; have n3_ : Aside0 (Kd.R k26 26 w74 w.heap.size (fun k_ => some k_ ≠ (.slice Ao66 t380.length co66 : Value).ownBlock ∧ some k_ ≠ (.slice Ao72 t383.length co72 : Value).ownBlock ∧ some k_ ≠ (.slice Ao68 t386.length co68 : Value).ownBlock ∧ some k_ ≠ (.slice Ao75 t394.length co75 : Value).ownBlock ∧ some k_ ≠ (.slice Ao76 t397.length co76 : Value).ownBlock ∧ k_ ≠ gb363 ∧ k_ ≠ gb364) (.slice Ao70 t390.length co70) t390) := ⟨by rw [← hq_]; exact (by (with_reducible repeat (first | apply R_alloc | apply R_drewN | apply R_drew)); exact R_mono HO392.out (fun _ hk => by simp only [ne_eq, hk, not_false_eq_true, and_self]))⟩; have n4_ : Aside0 (Kd.R k26 26 w74 w.heap.size (fun k_ => some k_ ≠ (.slice Ao66 t380.length co66 : Value).ownBlock ∧ some k_ ≠ (.slice Ao72 t383.length co72 : Value).ownBlock ∧ some k_ ≠ (.slice Ao68 t386.length co68 : Value).ownBlock ∧ some k_ ≠ (.slice Ao70 t390.length co70 : Value).ownBlock ∧ some k_ ≠ (.slice Ao76 t397.length co76 : Value).ownBlock ∧ k_ ≠ gb363 ∧ k_ ≠ gb364) (.slice Ao75 t394.length co75) t394) := ⟨by rw [← hq_]; exact (by (with_reducible repeat (first | apply R_alloc | apply R_drewN | apply R_drew)); exact R_mono HO396.out (fun _ hk => by simp only [ne_eq, hk, not_false_eq_true, and_self]))⟩; have n5_ : Aside0 (Kd.R k26 26 w74 w.heap.size (fun k_ => some k_ ≠ (.slice Ao66 t380.length co66 : Value).ownBlock ∧ some k_ ≠ (.slice Ao72 t383.length co72 : Value).ownBlock ∧ some k_ ≠ (.slice Ao68 t386.length co68 : Value).ownBlock ∧ some k_ ≠ (.slice Ao70 t390.length co70 : Value).ownBlock ∧ some k_ ≠ (.slice Ao75 t394.length co75 : Value).ownBlock ∧ k_ ≠ gb363 ∧ k_ ≠ gb364) (.slice Ao76 t397.length co76) t397) := ⟨by rw [← hq_]; exact (by (with_reducible repeat (first | apply R_alloc | apply R_drewN | apply R_drew)); exact R_mono HO399.out (fun _ hk => by simp only [ne_eq, hk, not_false_eq_true, and_self]))⟩; have n6_ : Aside0 (w74.heap[gb363]? = some (.cells #[.string a1_0, .string a1_1, .int .i64 a1_2, .int .i64 a1_3, .int .i64 a1_4] 26 (0, 0))) := ⟨by rw [← hq_]; exact (by (with_reducible repeat (first | refine blk_drewN ?_ _ | refine blk_drew ?_ | refine blk_alloc ?_ _)); exact BK363.out)⟩; have n7_ : Aside0 (w74.heap[gb364]? = some (.cells #[.string a2_0, .string a2_1, .int .i64 a2_2, .int .i64 a2_3, .int .i64 a2_4] 26 (0, 0))) := ⟨by rw [← hq_]; exact (by (with_reducible repeat (first | refine blk_drewN ?_ _ | refine blk_drew ?_ | refine blk_alloc ?_ _)); exact BK364.out)⟩; have n8_ : Aside0 (Below w.heap.size w w74) := ⟨by rw [← hq_]; exact (by repeat (first | (with_reducible first | exact HB.out | apply below_alloc | apply pw_below_drewN | apply below_drew1 | refine below_set ?_ GE363.out | refine below_set ?_ GE364.out) | exact HB.out))⟩; clear HO382 HO385 HO388 HO392 HO396 HO399 BK363 BK364 HB hq_; have HO382 := n0_; have HO385 := n1_; have HO388 := n2_; have HO392 := n3_; have HO396 := n4_; have HO399 := n5_; have BK363 := n6_; have BK364 := n7_; have HB := n8_; clear n0_ n1_ n2_ n3_ n4_ n5_ n6_ n7_ n8_))
       have n0_ := Aside0.mk (R_drew HO382.out)
       have n1_ := Aside0.mk (R_drew HO385.out)
       have n2_ := Aside0.mk (R_drew HO388.out)
       have n3_ := Aside0.mk (R_drew HO392.out)
       have n4_ := Aside0.mk (R_drew HO396.out)
       have n5_ := Aside0.mk (R_drew HO399.out)
       have n6_ := Aside0.mk (blk_drew BK363.out)
       have n7_ := Aside0.mk (blk_drew BK364.out)
       have n8_ := Aside0.mk (below_drew1 HB.out)
       clear HO382
       clear HO385
       clear HO388
       clear HO392
       clear HO396
       clear HO399
       clear BK363
       clear BK364
       clear HB
       have HO382 := n0_
       have HO385 := n1_
       have HO388 := n2_
       have HO392 := n3_
       have HO396 := n4_
       have HO399 := n5_
       have BK363 := n6_
       have BK364 := n7_
       have HB := n8_
       clear n0_ n1_ n2_ n3_ n4_ n5_ n6_ n7_ n8_
       refine start_ (n := 8) (S := fun w' => w'.cell? ⟨gb363, 0, none⟩ = some (.string a1_0) ∧ w'.cell? ⟨gb363, 1, none⟩ = some (.string a1_1) ∧ w'.cell? ⟨gb363, 2, none⟩ = some (.int .i64 a1_2) ∧ w'.cell? ⟨gb363, 3, none⟩ = some (.int .i64 a1_3) ∧ w'.cell? ⟨gb363, 4, none⟩ = some (.int .i64 a1_4)) (ds := []) #[false,false,false,false,false,false,false,false] (by kernel_rfl) rfl rfl ⟨(blk_cell BK363.out 0).trans rfl, (blk_cell BK363.out 1).trans rfl, (blk_cell BK363.out 2).trans rfl, (blk_cell BK363.out 3).trans rfl, (blk_cell BK363.out 4).trans rfl⟩ (fun hHeld => ?_); refine with_tabW law07_RegOld.tab11 law07_RegOld.bits11 (fun HT_ HW_ => ?_)
       generalize w74.drew = w77 at HO382 HO385 HO388 HO392 HO396 HO399 BK363 BK364 HB hHeld ⊢
       refine pure_ (i := 0) (N := some 74) (v := ?_) (a' := ?_) #[true,false,false,false,false,false,false,false] rfl rfl (any_of HT_.out (by kernel_rfl)) (fun _ _ _ h => h) (Or.inl ⟨by rfl, ?_⟩) ?_ ?_
       rotate_left
       ·intro w'
        go_simp
        with_reducible rfl
       rotate_left
       ·simp only [Act.put, List.setIfInBounds_toArray, List.set_cons_zero, List.set_cons_succ, i64_w, i32_w]
        rfl
       refine pure_ (i := 1) (N := some 75) (v := ?_) (a' := ?_) #[true,true,false,false,false,false,false,false] rfl rfl (any_of HT_.out (by kernel_rfl)) (fun _ _ _ h => h) (Or.inl ⟨by rfl, ?_⟩) ?_ ?_
       rotate_left
       ·intro w'
        go_simp
        with_reducible rfl
       rotate_left
       ·simp only [Act.put, List.setIfInBounds_toArray, List.set_cons_zero, List.set_cons_succ, i64_w, i32_w]
        rfl
       refine pure_ (i := 3) (N := some 77) (v := ?_) (a' := ?_) #[true,true,false,true,false,false,false,false] rfl rfl (any_of HT_.out (by kernel_rfl)) (fun _ _ _ h => h) (Or.inl ⟨by rfl, ?_⟩) ?_ ?_
       rotate_left
       ·intro w'
        go_simp
        with_reducible rfl
       rotate_left
       ·simp only [Act.put, List.setIfInBounds_toArray, List.set_cons_zero, List.set_cons_succ, i64_w, i32_w]
        rfl
       refine take_ (i := 4) (N := some 78) (v := ?_) (a' := ?_) #[true,true,false,true,true,false,false,false] rfl rfl (take_ofW HT_.out HW_.out (by kernel_rfl)) (fun _ _ _ h => h) (Or.inl ⟨by rfl, ?_⟩) hHeld ?_ ?_
       rotate_left
       ·rintro w' ⟨s0, s1, s2, s3, s4⟩
        go_simp
        with_reducible rfl
       rotate_left
       ·simp only [Act.put, List.setIfInBounds_toArray, List.set_cons_zero, List.set_cons_succ, i64_w, i32_w]
        rfl
       refine one_ (i := 2) (N := some 76) #[true,true,true,true,true,false,false,false] rfl rfl (one_of HT_.out (by kernel_rfl)) (by decide) (fun K hK => ?_)
       refine goes_ Try.func26 (by kernel_rfl) rfl #[.slice Ao66 t380.length co66, .slice Ao72 t383.length co72] (by rfl) rfl rfl (by (try simp only [List.map_toArray, List.map_cons, List.map_nil]); first | done | rfl | (simp only [List.length_drop, List.length_take]; rfl)) ?_
       with_reducible refine (reg_Merge.calls kj6 _ _ t380 _ _ t383 t401 _ ?side1 ?side2 ?side3 ?side4 A55.out).mono ?_
       (case side1 => repeat (first | exact (R_reads' HO382.out).2.2 | (with_reducible refine Kd.C_alloc ?_ _) | (with_reducible refine Kd.C_drewN ?_ _) | (with_reducible refine Kd.C_drew ?_)))
       (case side2 => exact (R_reads' HO382.out).2.1)
       (case side3 => repeat (first | exact (R_reads' HO385.out).2.2 | (with_reducible refine Kd.C_alloc ?_ _) | (with_reducible refine Kd.C_drewN ?_ _) | (with_reducible refine Kd.C_drew ?_)))
       (case side4 => exact (R_reads' HO385.out).2.1)
       rintro e w78 ⟨v402, rfl, ho0, hb⟩
       refine ⟨_, rfl, ?_⟩
       have n0_ := Aside0.mk (R_elder' (by (with_reducible repeat (first | apply R_alloc | apply R_drewN | apply R_drew)); exact HO382.out) (R_base ho0) hb)
       have n1_ := Aside0.mk (R_elder' (by (with_reducible repeat (first | apply R_alloc | apply R_drewN | apply R_drew)); exact HO385.out) (R_base ho0) hb)
       have n2_ := Aside0.mk (R_elder' (by (with_reducible repeat (first | apply R_alloc | apply R_drewN | apply R_drew)); exact HO388.out) (R_base ho0) hb)
       have n3_ := Aside0.mk (R_elder' (by (with_reducible repeat (first | apply R_alloc | apply R_drewN | apply R_drew)); exact HO392.out) (R_base ho0) hb)
       have n4_ := Aside0.mk (R_elder' (by (with_reducible repeat (first | apply R_alloc | apply R_drewN | apply R_drew)); exact HO396.out) (R_base ho0) hb)
       have n5_ := Aside0.mk (R_elder' (by (with_reducible repeat (first | apply R_alloc | apply R_drewN | apply R_drew)); exact HO399.out) (R_base ho0) hb)
       have n6_ := Aside0.mk (R_lower (R_newB (R_newB (R_new' (R_new' (R_new' (R_new' (R_new' (R_new' ho0 (R_lt (by (with_reducible repeat (first | apply R_alloc | apply R_drewN | apply R_drew)); exact HO382.out))) (R_lt (by (with_reducible repeat (first | apply R_alloc | apply R_drewN | apply R_drew)); exact HO385.out))) (R_lt (by (with_reducible repeat (first | apply R_alloc | apply R_drewN | apply R_drew)); exact HO388.out))) (R_lt (by (with_reducible repeat (first | apply R_alloc | apply R_drewN | apply R_drew)); exact HO392.out))) (R_lt (by (with_reducible repeat (first | apply R_alloc | apply R_drewN | apply R_drew)); exact HO396.out))) (R_lt (by (with_reducible repeat (first | apply R_alloc | apply R_drewN | apply R_drew)); exact HO399.out))) (g := gb363) (o := .cells #[.string a1_0, .string a1_1, .int .i64 a1_2, .int .i64 a1_3, .int .i64 a1_4] 26 (0, 0)) (by (with_reducible repeat (first | refine blk_drewN ?_ _ | refine blk_drew ?_ | refine blk_alloc ?_ _)); exact BK363.out)) (g := gb364) (o := .cells #[.string a2_0, .string a2_1, .int .i64 a2_2, .int .i64 a2_3, .int .i64 a2_4] 26 (0, 0)) (by (with_reducible repeat (first | refine blk_drewN ?_ _ | refine blk_drew ?_ | refine blk_alloc ?_ _)); exact BK364.out)) (below_size (by repeat (first | (with_reducible first | exact HB.out | apply below_alloc | apply pw_below_drewN | apply below_drew1 | refine below_set ?_ GE363.out | refine below_set ?_ GE364.out) | exact HB.out))))
       have n7_ := Aside0.mk (blk_below (g := gb363) (o := .cells #[.string a1_0, .string a1_1, .int .i64 a1_2, .int .i64 a1_3, .int .i64 a1_4] 26 (0, 0)) (by (with_reducible repeat (first | refine blk_drewN ?_ _ | refine blk_drew ?_ | refine blk_alloc ?_ _)); exact BK363.out) hb)
       have n8_ := Aside0.mk (blk_below (g := gb364) (o := .cells #[.string a2_0, .string a2_1, .int .i64 a2_2, .int .i64 a2_3, .int .i64 a2_4] 26 (0, 0)) (by (with_reducible repeat (first | refine blk_drewN ?_ _ | refine blk_drew ?_ | refine blk_alloc ?_ _)); exact BK364.out) hb)
       have n9_ := Aside0.mk (below_step (by repeat (first | (with_reducible first | exact HB.out | apply below_alloc | apply pw_below_drewN | apply below_drew1 | refine below_set ?_ GE363.out | refine below_set ?_ GE364.out) | exact HB.out)) hb)
       clear HO382
       clear HO385
       clear HO388
       clear HO392
       clear HO396
       clear HO399
       clear BK363
       clear BK364
       clear HB
       have HO382 := n0_
       have HO385 := n1_
       have HO388 := n2_
       have HO392 := n3_
       have HO396 := n4_
       have HO399 := n5_
       have HO403 := n6_
       have BK363 := n7_
       have BK364 := n8_
       have HB := n9_
       clear n0_ n1_ n2_ n3_ n4_ n5_ n6_ n7_ n8_ n9_
       (try clear hb)
       (try clear hb2)
       (try clear hk)
       (try clear hi)
       (try clear ho0)
       refine hK.out _ _ ⟨(blk_cell BK363.out 0).trans rfl, (blk_cell BK363.out 1).trans rfl, (blk_cell BK363.out 2).trans rfl, (blk_cell BK363.out 3).trans rfl, (blk_cell BK363.out 4).trans rfl⟩ (fun hHeld => ?_)
       clear hK K
       refine norm_ (a' := ?_) ?_ ?_
       rotate_left
       ·show Act.put _ (some 76) _ = _
        simp only [Act.put, List.setIfInBounds_toArray, List.set_cons_zero, List.set_cons_succ, i64_w, i32_w]
        rfl
       refine one_ (i := 5) (N := some 79) #[true,true,true,true,true,true,false,false] rfl rfl (one_of HT_.out (by kernel_rfl)) (by decide) (fun K hK => ?_)
       refine goes_ Try.func24 (by kernel_rfl) rfl #[.slice Ao72 t383.length co72, .agg #[.string a1_0, .string a1_1, .int .i64 a1_2, .int .i64 a1_3, .int .i64 a1_4]] (by rfl) rfl rfl (by (try simp only [List.map_toArray, List.map_cons, List.map_nil]); first | done | rfl | (simp only [List.length_drop, List.length_take]; rfl)) ?_
       with_reducible refine (reg_Put.calls kj6 _ _ t383 a1_0 a1_1 a1_2 a1_3 a1_4 t404 _ ?side1 ?side2 A56.out).mono ?_
       (case side1 => repeat (first | exact (R_reads' HO385.out).2.2 | (with_reducible refine Kd.C_alloc ?_ _) | (with_reducible refine Kd.C_drewN ?_ _) | (with_reducible refine Kd.C_drew ?_)))
       (case side2 => exact (R_reads' HO385.out).2.1)
       rintro e w79 ⟨v405, rfl, ho0, hb⟩
       refine ⟨_, rfl, ?_⟩
       have n0_ := Aside0.mk (R_elder' (by (with_reducible repeat (first | apply R_alloc | apply R_drewN | apply R_drew)); exact HO382.out) (R_base ho0) hb)
       have n1_ := Aside0.mk (R_elder' (by (with_reducible repeat (first | apply R_alloc | apply R_drewN | apply R_drew)); exact HO385.out) (R_base ho0) hb)
       have n2_ := Aside0.mk (R_elder' (by (with_reducible repeat (first | apply R_alloc | apply R_drewN | apply R_drew)); exact HO388.out) (R_base ho0) hb)
       have n3_ := Aside0.mk (R_elder' (by (with_reducible repeat (first | apply R_alloc | apply R_drewN | apply R_drew)); exact HO392.out) (R_base ho0) hb)
       have n4_ := Aside0.mk (R_elder' (by (with_reducible repeat (first | apply R_alloc | apply R_drewN | apply R_drew)); exact HO396.out) (R_base ho0) hb)
       have n5_ := Aside0.mk (R_elder' (by (with_reducible repeat (first | apply R_alloc | apply R_drewN | apply R_drew)); exact HO399.out) (R_base ho0) hb)
       have n6_ := Aside0.mk (R_elder' (by (with_reducible repeat (first | apply R_alloc | apply R_drewN | apply R_drew)); exact HO403.out) (R_base ho0) hb)
       have n7_ := Aside0.mk (R_lower (R_newB (R_newB (R_new' (R_new' (R_new' (R_new' (R_new' (R_new' (R_new' ho0 (R_lt (by (with_reducible repeat (first | apply R_alloc | apply R_drewN | apply R_drew)); exact HO382.out))) (R_lt (by (with_reducible repeat (first | apply R_alloc | apply R_drewN | apply R_drew)); exact HO385.out))) (R_lt (by (with_reducible repeat (first | apply R_alloc | apply R_drewN | apply R_drew)); exact HO388.out))) (R_lt (by (with_reducible repeat (first | apply R_alloc | apply R_drewN | apply R_drew)); exact HO392.out))) (R_lt (by (with_reducible repeat (first | apply R_alloc | apply R_drewN | apply R_drew)); exact HO396.out))) (R_lt (by (with_reducible repeat (first | apply R_alloc | apply R_drewN | apply R_drew)); exact HO399.out))) (R_lt (by (with_reducible repeat (first | apply R_alloc | apply R_drewN | apply R_drew)); exact HO403.out))) (g := gb363) (o := .cells #[.string a1_0, .string a1_1, .int .i64 a1_2, .int .i64 a1_3, .int .i64 a1_4] 26 (0, 0)) (by (with_reducible repeat (first | refine blk_drewN ?_ _ | refine blk_drew ?_ | refine blk_alloc ?_ _)); exact BK363.out)) (g := gb364) (o := .cells #[.string a2_0, .string a2_1, .int .i64 a2_2, .int .i64 a2_3, .int .i64 a2_4] 26 (0, 0)) (by (with_reducible repeat (first | refine blk_drewN ?_ _ | refine blk_drew ?_ | refine blk_alloc ?_ _)); exact BK364.out)) (below_size (by repeat (first | (with_reducible first | exact HB.out | apply below_alloc | apply pw_below_drewN | apply below_drew1 | refine below_set ?_ GE363.out | refine below_set ?_ GE364.out) | exact HB.out))))
       have n8_ := Aside0.mk (blk_below (g := gb363) (o := .cells #[.string a1_0, .string a1_1, .int .i64 a1_2, .int .i64 a1_3, .int .i64 a1_4] 26 (0, 0)) (by (with_reducible repeat (first | refine blk_drewN ?_ _ | refine blk_drew ?_ | refine blk_alloc ?_ _)); exact BK363.out) hb)
       have n9_ := Aside0.mk (blk_below (g := gb364) (o := .cells #[.string a2_0, .string a2_1, .int .i64 a2_2, .int .i64 a2_3, .int .i64 a2_4] 26 (0, 0)) (by (with_reducible repeat (first | refine blk_drewN ?_ _ | refine blk_drew ?_ | refine blk_alloc ?_ _)); exact BK364.out) hb)
       have n10_ := Aside0.mk (below_step (by repeat (first | (with_reducible first | exact HB.out | apply below_alloc | apply pw_below_drewN | apply below_drew1 | refine below_set ?_ GE363.out | refine below_set ?_ GE364.out) | exact HB.out)) hb)
       clear HO382
       clear HO385
       clear HO388
       clear HO392
       clear HO396
       clear HO399
       clear HO403
       clear BK363
       clear BK364
       clear HB
       have HO382 := n0_
       have HO385 := n1_
       have HO388 := n2_
       have HO392 := n3_
       have HO396 := n4_
       have HO399 := n5_
       have HO403 := n6_
       have HO406 := n7_
       have BK363 := n8_
       have BK364 := n9_
       have HB := n10_
       clear n0_ n1_ n2_ n3_ n4_ n5_ n6_ n7_ n8_ n9_ n10_
       (try clear hb)
       (try clear hb2)
       (try clear hk)
       (try clear hi)
       (try clear ho0)
       obtain ⟨Ao80, co80, eo80⟩ := R_slice HO403.out
       (first | subst eo80 | (injection eo80 with f1_ f2_ f3_; have f4_ := f1_.symm; have f5_ := f3_.symm; clear f1_ f2_ f3_; subst f4_; subst f5_))
       obtain ⟨Ao81, co81, eo81⟩ := R_slice HO406.out
       (first | subst eo81 | (injection eo81 with f1_ f2_ f3_; have f4_ := f1_.symm; have f5_ := f3_.symm; clear f1_ f2_ f3_; subst f4_; subst f5_))
       refine hK.out _ _ ⟨(blk_cell BK363.out 0).trans rfl, (blk_cell BK363.out 1).trans rfl, (blk_cell BK363.out 2).trans rfl, (blk_cell BK363.out 3).trans rfl, (blk_cell BK363.out 4).trans rfl⟩ (fun hHeld => ?_)
       clear hK K
       refine norm_ (a' := ?_) ?_ ?_
       rotate_left
       ·show Act.put _ (some 79) _ = _
        simp only [Act.put, List.setIfInBounds_toArray, List.set_cons_zero, List.set_cons_succ, i64_w, i32_w]
        rfl
       refine one_ (i := 6) (N := some 80) #[true,true,true,true,true,true,true,false] rfl rfl (one_of HT_.out (by kernel_rfl)) (by decide) (fun K hK => ?_)
       refine goes_ Try.func23 (by kernel_rfl) rfl #[.slice Ao80 t401.length co80, .slice Ao81 t404.length co81] (by rfl) rfl rfl (by (try simp only [List.map_toArray, List.map_cons, List.map_nil]); first | done | rfl | (simp only [List.length_drop, List.length_take]; rfl)) ?_
       with_reducible refine (ref07_Same.calls kj6 _ _ t401 _ _ t404 t407 _ ?side1 ?side2 ?side3 ?side4 A57.out).mono ?_
       (case side1 => repeat (first | exact (R_reads' HO403.out).2.2 | (with_reducible refine Kd.C_alloc ?_ _) | (with_reducible refine Kd.C_drewN ?_ _) | (with_reducible refine Kd.C_drew ?_)))
       (case side2 => exact (R_reads' HO403.out).2.1)
       (case side3 => repeat (first | exact (R_reads' HO406.out).2.2 | (with_reducible refine Kd.C_alloc ?_ _) | (with_reducible refine Kd.C_drewN ?_ _) | (with_reducible refine Kd.C_drew ?_)))
       (case side4 => exact (R_reads' HO406.out).2.1)
       rintro e w' ⟨rfl, ⟨nd, rfl⟩⟩
       refine ⟨_, rfl, ?_⟩
       refine hK.out _ _ ⟨(blk_cell BK363.out 0).trans rfl, (blk_cell BK363.out 1).trans rfl, (blk_cell BK363.out 2).trans rfl, (blk_cell BK363.out 3).trans rfl, (blk_cell BK363.out 4).trans rfl⟩ (fun hHeld => ?_)
       clear hK K
       refine norm_ (a' := ?_) ?_ ?_
       rotate_left
       ·show Act.put _ (some 80) _ = _
        simp only [Act.put, List.setIfInBounds_toArray, List.set_cons_zero, List.set_cons_succ, i64_w, i32_w]
        rfl
       refine pure_ (i := 7) (N := some 15) (v := ?_) (a' := ?_) #[true,true,true,true,true,true,true,true] rfl rfl (any_of HT_.out (by kernel_rfl)) (fun _ _ _ h => h) (Or.inl ⟨by rfl, ?_⟩) ?_ ?_
       rotate_left
       ·intro w'
        go_simp
        with_reducible rfl
       rotate_left
       ·simp only [Act.put, List.setIfInBounds_toArray, List.set_cons_zero, List.set_cons_succ, i64_w, i32_w]
        rfl
       refine done_ (done_of HT_.out (by kernel_rfl)) ?_
       try go_wp2
       go_ret
       exact ⟨by first | rfl | (simp [errW_none, errW_some] <;> rfl) | (simp [*, errW_none, errW_some] <;> rfl), by repeat (first | (with_reducible first | exact HB.out | apply below_alloc | apply pw_below_drewN | apply below_drew1 | refine below_set ?_ GE363.out | refine below_set ?_ GE364.out) | exact HB.out)⟩
      ·replace c60 := Bool.eq_false_iff.mpr c60
       subst c60
       have H1 : (some false) = some r := by rw [if_neg (show ¬ (false = true) by decide)] at H; exact H
       clear H
       have H := H1
       clear H1
       obtain rfl := Option.some.inj H
       have hnb82 := NB363_364.out
       have hnc82 := NB364_363.out
       have hcz83_0 : wc.cell? ⟨gb363, 0, none⟩ = some (.string a1_0) := (blk_cell BK363.out 0).trans rfl
       have hcz83_1 : wc.cell? ⟨gb363, 1, none⟩ = some (.string a1_1) := (blk_cell BK363.out 1).trans rfl
       have hcz83_2 : wc.cell? ⟨gb363, 2, none⟩ = some (.int .i64 a1_2) := (blk_cell BK363.out 2).trans rfl
       have hcz83_3 : wc.cell? ⟨gb363, 3, none⟩ = some (.int .i64 a1_3) := (blk_cell BK363.out 3).trans rfl
       have hcz83_4 : wc.cell? ⟨gb363, 4, none⟩ = some (.int .i64 a1_4) := (blk_cell BK363.out 4).trans rfl
       have hfz83_0 := blk_frozen BK363.out 0
       have hfz83_1 := blk_frozen BK363.out 1
       have hfz83_2 := blk_frozen BK363.out 2
       have hfz83_3 := blk_frozen BK363.out 3
       have hfz83_4 := blk_frozen BK363.out 4
       try go_wp2_with (first | ((with_reducible refine gate_callee (f := 24) rfl ?_); refine goesL_ (some 53) rfl rfl Try.func24 (by kernel_rfl) rfl #[.slice A0 l0.length c0, .agg #[.string a1_0, .string a1_1, .int .i64 a1_2, .int .i64 a1_3, .int .i64 a1_4]] rfl (by (try simp only [List.map_toArray, List.map_cons, List.map_nil]); first | done | rfl | (simp only [List.length_drop, List.length_take]; rfl)) ?_; (with_reducible refine (reg_Put.calls kj6 _ _ l0 a1_0 a1_1 a1_2 a1_3 a1_4 t380 _ ?side1 ?side2 A46.out).mono ?_); (case side1 => repeat (first | exact (Kd.C_below HR0.out HB.out) | (with_reducible refine Kd.C_alloc ?_ _) | (with_reducible refine Kd.C_drewN ?_ _) | (with_reducible refine Kd.C_drew ?_))); (case side2 => exact HC0.out); rintro e w84 ⟨v381, rfl, ho0, hb⟩; refine ⟨_, rfl, ?_⟩; have n0_ := Aside0.mk (R_lower (R_newB (R_newB ho0 (g := gb363) (o := .cells #[.string a1_0, .string a1_1, .int .i64 a1_2, .int .i64 a1_3, .int .i64 a1_4] 26 (0, 0)) (by (with_reducible repeat (first | refine blk_drewN ?_ _ | refine blk_drew ?_ | refine blk_alloc ?_ _)); exact BK363.out)) (g := gb364) (o := .cells #[.string a2_0, .string a2_1, .int .i64 a2_2, .int .i64 a2_3, .int .i64 a2_4] 26 (0, 0)) (by (with_reducible repeat (first | refine blk_drewN ?_ _ | refine blk_drew ?_ | refine blk_alloc ?_ _)); exact BK364.out)) (below_size (by repeat (first | (with_reducible first | exact HB.out | apply below_alloc | apply pw_below_drewN | apply below_drew1 | refine below_set ?_ GE363.out | refine below_set ?_ GE364.out) | exact HB.out)))); have n1_ := Aside0.mk (blk_below (g := gb363) (o := .cells #[.string a1_0, .string a1_1, .int .i64 a1_2, .int .i64 a1_3, .int .i64 a1_4] 26 (0, 0)) (by (with_reducible repeat (first | refine blk_drewN ?_ _ | refine blk_drew ?_ | refine blk_alloc ?_ _)); exact BK363.out) hb); have n2_ := Aside0.mk (blk_below (g := gb364) (o := .cells #[.string a2_0, .string a2_1, .int .i64 a2_2, .int .i64 a2_3, .int .i64 a2_4] 26 (0, 0)) (by (with_reducible repeat (first | refine blk_drewN ?_ _ | refine blk_drew ?_ | refine blk_alloc ?_ _)); exact BK364.out) hb); have n3_ := Aside0.mk (below_step (by repeat (first | (with_reducible first | exact HB.out | apply below_alloc | apply pw_below_drewN | apply below_drew1 | refine below_set ?_ GE363.out | refine below_set ?_ GE364.out) | exact HB.out)) hb); clear BK363; clear BK364; clear HB; have HO382 := n0_; have BK363 := n1_; have BK364 := n2_; have HB := n3_; clear n0_ n1_ n2_ n3_; (try clear hb); (try clear hb2); (try clear hk); (try clear hi); (try clear ho0); have hcz85_0 : w84.cell? ⟨gb364, 0, none⟩ = some (.string a2_0) := (blk_cell BK364.out 0).trans rfl; have hcz85_1 : w84.cell? ⟨gb364, 1, none⟩ = some (.string a2_1) := (blk_cell BK364.out 1).trans rfl; have hcz85_2 : w84.cell? ⟨gb364, 2, none⟩ = some (.int .i64 a2_2) := (blk_cell BK364.out 2).trans rfl; have hcz85_3 : w84.cell? ⟨gb364, 3, none⟩ = some (.int .i64 a2_3) := (blk_cell BK364.out 3).trans rfl; have hcz85_4 : w84.cell? ⟨gb364, 4, none⟩ = some (.int .i64 a2_4) := (blk_cell BK364.out 4).trans rfl; have hfz85_0 := blk_frozen BK364.out 0; have hfz85_1 := blk_frozen BK364.out 1; have hfz85_2 := blk_frozen BK364.out 2; have hfz85_3 := blk_frozen BK364.out 3; have hfz85_4 := blk_frozen BK364.out 4) | ((with_reducible refine gate_callee (f := 24) rfl ?_); refine goesL_ (some 56) rfl rfl Try.func24 (by kernel_rfl) rfl #[.slice A0 l0.length c0, .agg #[.string a2_0, .string a2_1, .int .i64 a2_2, .int .i64 a2_3, .int .i64 a2_4]] rfl (by (try simp only [List.map_toArray, List.map_cons, List.map_nil]); first | done | rfl | (simp only [List.length_drop, List.length_take]; rfl)) ?_; (with_reducible refine (reg_Put.calls kj6 _ _ l0 a2_0 a2_1 a2_2 a2_3 a2_4 t383 _ ?side1 ?side2 A47.out).mono ?_); (case side1 => repeat (first | exact (Kd.C_below HR0.out HB.out) | (with_reducible refine Kd.C_alloc ?_ _) | (with_reducible refine Kd.C_drewN ?_ _) | (with_reducible refine Kd.C_drew ?_))); (case side2 => exact HC0.out); rintro e w86 ⟨v384, rfl, ho0, hb⟩; refine ⟨_, rfl, ?_⟩; have n0_ := Aside0.mk (R_elder' (by (with_reducible repeat (first | apply R_alloc | apply R_drewN | apply R_drew)); exact HO382.out) (R_base ho0) hb); have n1_ := Aside0.mk (R_lower (R_newB (R_newB (R_new' ho0 (R_lt (by (with_reducible repeat (first | apply R_alloc | apply R_drewN | apply R_drew)); exact HO382.out))) (g := gb363) (o := .cells #[.string a1_0, .string a1_1, .int .i64 a1_2, .int .i64 a1_3, .int .i64 a1_4] 26 (0, 0)) (by (with_reducible repeat (first | refine blk_drewN ?_ _ | refine blk_drew ?_ | refine blk_alloc ?_ _)); exact BK363.out)) (g := gb364) (o := .cells #[.string a2_0, .string a2_1, .int .i64 a2_2, .int .i64 a2_3, .int .i64 a2_4] 26 (0, 0)) (by (with_reducible repeat (first | refine blk_drewN ?_ _ | refine blk_drew ?_ | refine blk_alloc ?_ _)); exact BK364.out)) (below_size (by repeat (first | (with_reducible first | exact HB.out | apply below_alloc | apply pw_below_drewN | apply below_drew1 | refine below_set ?_ GE363.out | refine below_set ?_ GE364.out) | exact HB.out)))); have n2_ := Aside0.mk (blk_below (g := gb363) (o := .cells #[.string a1_0, .string a1_1, .int .i64 a1_2, .int .i64 a1_3, .int .i64 a1_4] 26 (0, 0)) (by (with_reducible repeat (first | refine blk_drewN ?_ _ | refine blk_drew ?_ | refine blk_alloc ?_ _)); exact BK363.out) hb); have n3_ := Aside0.mk (blk_below (g := gb364) (o := .cells #[.string a2_0, .string a2_1, .int .i64 a2_2, .int .i64 a2_3, .int .i64 a2_4] 26 (0, 0)) (by (with_reducible repeat (first | refine blk_drewN ?_ _ | refine blk_drew ?_ | refine blk_alloc ?_ _)); exact BK364.out) hb); have n4_ := Aside0.mk (below_step (by repeat (first | (with_reducible first | exact HB.out | apply below_alloc | apply pw_below_drewN | apply below_drew1 | refine below_set ?_ GE363.out | refine below_set ?_ GE364.out) | exact HB.out)) hb); clear HO382; clear BK363; clear BK364; clear HB; have HO382 := n0_; have HO385 := n1_; have BK363 := n2_; have BK364 := n3_; have HB := n4_; clear n0_ n1_ n2_ n3_ n4_; (try clear hb); (try clear hb2); (try clear hk); (try clear hi); (try clear ho0); obtain ⟨Ao87, co87, eo87⟩ := R_slice HO382.out; subst eo87) | ((with_reducible refine gate_callee (f := 26) rfl ?_); refine goesL_ (some 59) rfl rfl Try.func26 (by kernel_rfl) rfl #[.slice Ao87 t380.length co87, .slice A0 l0.length c0] rfl (by (try simp only [List.map_toArray, List.map_cons, List.map_nil]); first | done | rfl | (simp only [List.length_drop, List.length_take]; rfl)) ?_; (with_reducible refine (reg_Merge.calls kj6 _ _ t380 _ _ l0 t386 _ ?side1 ?side2 ?side3 ?side4 A48.out).mono ?_); (case side1 => repeat (first | exact (R_reads' HO382.out).2.2 | (with_reducible refine Kd.C_alloc ?_ _) | (with_reducible refine Kd.C_drewN ?_ _) | (with_reducible refine Kd.C_drew ?_))); (case side2 => exact (R_reads' HO382.out).2.1); (case side3 => repeat (first | exact (Kd.C_below HR0.out HB.out) | (with_reducible refine Kd.C_alloc ?_ _) | (with_reducible refine Kd.C_drewN ?_ _) | (with_reducible refine Kd.C_drew ?_))); (case side4 => exact HC0.out); rintro e w88 ⟨v387, rfl, ho0, hb⟩; refine ⟨_, rfl, ?_⟩; have n0_ := Aside0.mk (R_elder' (by (with_reducible repeat (first | apply R_alloc | apply R_drewN | apply R_drew)); exact HO382.out) (R_base ho0) hb); have n1_ := Aside0.mk (R_elder' (by (with_reducible repeat (first | apply R_alloc | apply R_drewN | apply R_drew)); exact HO385.out) (R_base ho0) hb); have n2_ := Aside0.mk (R_lower (R_newB (R_newB (R_new' (R_new' ho0 (R_lt (by (with_reducible repeat (first | apply R_alloc | apply R_drewN | apply R_drew)); exact HO382.out))) (R_lt (by (with_reducible repeat (first | apply R_alloc | apply R_drewN | apply R_drew)); exact HO385.out))) (g := gb363) (o := .cells #[.string a1_0, .string a1_1, .int .i64 a1_2, .int .i64 a1_3, .int .i64 a1_4] 26 (0, 0)) (by (with_reducible repeat (first | refine blk_drewN ?_ _ | refine blk_drew ?_ | refine blk_alloc ?_ _)); exact BK363.out)) (g := gb364) (o := .cells #[.string a2_0, .string a2_1, .int .i64 a2_2, .int .i64 a2_3, .int .i64 a2_4] 26 (0, 0)) (by (with_reducible repeat (first | refine blk_drewN ?_ _ | refine blk_drew ?_ | refine blk_alloc ?_ _)); exact BK364.out)) (below_size (by repeat (first | (with_reducible first | exact HB.out | apply below_alloc | apply pw_below_drewN | apply below_drew1 | refine below_set ?_ GE363.out | refine below_set ?_ GE364.out) | exact HB.out)))); have n3_ := Aside0.mk (blk_below (g := gb363) (o := .cells #[.string a1_0, .string a1_1, .int .i64 a1_2, .int .i64 a1_3, .int .i64 a1_4] 26 (0, 0)) (by (with_reducible repeat (first | refine blk_drewN ?_ _ | refine blk_drew ?_ | refine blk_alloc ?_ _)); exact BK363.out) hb); have n4_ := Aside0.mk (blk_below (g := gb364) (o := .cells #[.string a2_0, .string a2_1, .int .i64 a2_2, .int .i64 a2_3, .int .i64 a2_4] 26 (0, 0)) (by (with_reducible repeat (first | refine blk_drewN ?_ _ | refine blk_drew ?_ | refine blk_alloc ?_ _)); exact BK364.out) hb); have n5_ := Aside0.mk (below_step (by repeat (first | (with_reducible first | exact HB.out | apply below_alloc | apply pw_below_drewN | apply below_drew1 | refine below_set ?_ GE363.out | refine below_set ?_ GE364.out) | exact HB.out)) hb); clear HO382; clear HO385; clear BK363; clear BK364; clear HB; have HO382 := n0_; have HO385 := n1_; have HO388 := n2_; have BK363 := n3_; have BK364 := n4_; have HB := n5_; clear n0_ n1_ n2_ n3_ n4_ n5_; (try clear hb); (try clear hb2); (try clear hk); (try clear hi); (try clear ho0); obtain ⟨Ao89, co89, eo89⟩ := R_slice HO388.out; subst eo89) | ((with_reducible refine gate_callee (f := 23) rfl ?_); refine goesL_ (some 61) rfl rfl Try.func23 (by kernel_rfl) rfl #[.slice Ao89 t386.length co89, .slice Ao87 t380.length co87] rfl (by (try simp only [List.map_toArray, List.map_cons, List.map_nil]); first | done | rfl | (simp only [List.length_drop, List.length_take]; rfl)) ?_; (with_reducible refine (ref07_Same.calls kj6 _ _ t386 _ _ t380 true _ ?side1 ?side2 ?side3 ?side4 A49.out).mono ?_); (case side1 => repeat (first | exact (R_reads' HO388.out).2.2 | (with_reducible refine Kd.C_alloc ?_ _) | (with_reducible refine Kd.C_drewN ?_ _) | (with_reducible refine Kd.C_drew ?_))); (case side2 => exact (R_reads' HO388.out).2.1); (case side3 => repeat (first | exact (R_reads' HO382.out).2.2 | (with_reducible refine Kd.C_alloc ?_ _) | (with_reducible refine Kd.C_drewN ?_ _) | (with_reducible refine Kd.C_drew ?_))); (case side4 => exact (R_reads' HO382.out).2.1); rintro e w' ⟨rfl, ⟨nd, rfl⟩⟩; refine ⟨_, rfl, ?_⟩) | ((with_reducible refine gate_callee (f := 26) rfl ?_); refine goesL_ (some 64) rfl rfl Try.func26 (by kernel_rfl) rfl #[.slice A0 l0.length c0, .slice Ao87 t380.length co87] rfl (by (try simp only [List.map_toArray, List.map_cons, List.map_nil]); first | done | rfl | (simp only [List.length_drop, List.length_take]; rfl)) ?_; (with_reducible refine (reg_Merge.calls kj6 _ _ l0 _ _ t380 t390 _ ?side1 ?side2 ?side3 ?side4 A50.out).mono ?_); (case side1 => repeat (first | exact (Kd.C_below HR0.out (by repeat (first | (with_reducible first | exact HB.out | apply below_alloc | apply pw_below_drewN | apply below_drew1 | refine below_set ?_ GE363.out | refine below_set ?_ GE364.out) | exact HB.out))) | (with_reducible refine Kd.C_alloc ?_ _) | (with_reducible refine Kd.C_drewN ?_ _) | (with_reducible refine Kd.C_drew ?_))); (case side2 => exact HC0.out); (case side3 => repeat (first | exact (R_reads' HO382.out).2.2 | (with_reducible refine Kd.C_alloc ?_ _) | (with_reducible refine Kd.C_drewN ?_ _) | (with_reducible refine Kd.C_drew ?_))); (case side4 => exact (R_reads' HO382.out).2.1); rintro e w90 ⟨v391, rfl, ho0, hb⟩; refine ⟨_, rfl, ?_⟩; have n0_ := Aside0.mk (R_elder' (by (with_reducible repeat (first | apply R_alloc | apply R_drewN | apply R_drew)); exact HO382.out) (R_base ho0) hb); have n1_ := Aside0.mk (R_elder' (by (with_reducible repeat (first | apply R_alloc | apply R_drewN | apply R_drew)); exact HO385.out) (R_base ho0) hb); have n2_ := Aside0.mk (R_elder' (by (with_reducible repeat (first | apply R_alloc | apply R_drewN | apply R_drew)); exact HO388.out) (R_base ho0) hb); have n3_ := Aside0.mk (R_lower (R_newB (R_newB (R_new' (R_new' (R_new' ho0 (R_lt (by (with_reducible repeat (first | apply R_alloc | apply R_drewN | apply R_drew)); exact HO382.out))) (R_lt (by (with_reducible repeat (first | apply R_alloc | apply R_drewN | apply R_drew)); exact HO385.out))) (R_lt (by (with_reducible repeat (first | apply R_alloc | apply R_drewN | apply R_drew)); exact HO388.out))) (g := gb363) (o := .cells #[.string a1_0, .string a1_1, .int .i64 a1_2, .int .i64 a1_3, .int .i64 a1_4] 26 (0, 0)) (by (with_reducible repeat (first | refine blk_drewN ?_ _ | refine blk_drew ?_ | refine blk_alloc ?_ _)); exact BK363.out)) (g := gb364) (o := .cells #[.string a2_0, .string a2_1, .int .i64 a2_2, .int .i64 a2_3, .int .i64 a2_4] 26 (0, 0)) (by (with_reducible repeat (first | refine blk_drewN ?_ _ | refine blk_drew ?_ | refine blk_alloc ?_ _)); exact BK364.out)) (below_size (by repeat (first | (with_reducible first | exact HB.out | apply below_alloc | apply pw_below_drewN | apply below_drew1 | refine below_set ?_ GE363.out | refine below_set ?_ GE364.out) | exact HB.out)))); have n4_ := Aside0.mk (blk_below (g := gb363) (o := .cells #[.string a1_0, .string a1_1, .int .i64 a1_2, .int .i64 a1_3, .int .i64 a1_4] 26 (0, 0)) (by (with_reducible repeat (first | refine blk_drewN ?_ _ | refine blk_drew ?_ | refine blk_alloc ?_ _)); exact BK363.out) hb); have n5_ := Aside0.mk (blk_below (g := gb364) (o := .cells #[.string a2_0, .string a2_1, .int .i64 a2_2, .int .i64 a2_3, .int .i64 a2_4] 26 (0, 0)) (by (with_reducible repeat (first | refine blk_drewN ?_ _ | refine blk_drew ?_ | refine blk_alloc ?_ _)); exact BK364.out) hb); have n6_ := Aside0.mk (below_step (by repeat (first | (with_reducible first | exact HB.out | apply below_alloc | apply pw_below_drewN | apply below_drew1 | refine below_set ?_ GE363.out | refine below_set ?_ GE364.out) | exact HB.out)) hb); clear HO382; clear HO385; clear HO388; clear BK363; clear BK364; clear HB; have HO382 := n0_; have HO385 := n1_; have HO388 := n2_; have HO392 := n3_; have BK363 := n4_; have BK364 := n5_; have HB := n6_; clear n0_ n1_ n2_ n3_ n4_ n5_ n6_; (try clear hb); (try clear hb2); (try clear hk); (try clear hi); (try clear ho0); obtain ⟨Ao91, co91, eo91⟩ := R_slice HO392.out; subst eo91) | ((with_reducible refine gate_callee (f := 23) rfl ?_); refine goesL_ (some 66) rfl rfl Try.func23 (by kernel_rfl) rfl #[.slice Ao91 t390.length co91, .slice Ao87 t380.length co87] rfl (by (try simp only [List.map_toArray, List.map_cons, List.map_nil]); first | done | rfl | (simp only [List.length_drop, List.length_take]; rfl)) ?_; (with_reducible refine (ref07_Same.calls kj6 _ _ t390 _ _ t380 true _ ?side1 ?side2 ?side3 ?side4 A51.out).mono ?_); (case side1 => repeat (first | exact (R_reads' HO392.out).2.2 | (with_reducible refine Kd.C_alloc ?_ _) | (with_reducible refine Kd.C_drewN ?_ _) | (with_reducible refine Kd.C_drew ?_))); (case side2 => exact (R_reads' HO392.out).2.1); (case side3 => repeat (first | exact (R_reads' HO382.out).2.2 | (with_reducible refine Kd.C_alloc ?_ _) | (with_reducible refine Kd.C_drewN ?_ _) | (with_reducible refine Kd.C_drew ?_))); (case side4 => exact (R_reads' HO382.out).2.1); rintro e w' ⟨rfl, ⟨nd, rfl⟩⟩; refine ⟨_, rfl, ?_⟩))
       (try (rw [drewN_self w90]; generalize hq_ : World.drewN w90 _ = w90; have n0_ : Aside0 (Kd.R k26 26 w90 w.heap.size (fun k_ => some k_ ≠ (v384 : Value).ownBlock ∧ some k_ ≠ (.slice Ao89 t386.length co89 : Value).ownBlock ∧ some k_ ≠ (.slice Ao91 t390.length co91 : Value).ownBlock ∧ k_ ≠ gb363 ∧ k_ ≠ gb364) (.slice Ao87 t380.length co87) t380) := ⟨by rw [← hq_]; exact (by (with_reducible repeat (first | apply R_alloc | apply R_drewN | apply R_drew)); exact R_mono HO382.out (fun _ hk => by simp only [ne_eq, hk, not_false_eq_true, and_self]))⟩; have n1_ : Aside0 (Kd.R k26 26 w90 w.heap.size (fun k_ => some k_ ≠ (.slice Ao87 t380.length co87 : Value).ownBlock ∧ some k_ ≠ (.slice Ao89 t386.length co89 : Value).ownBlock ∧ some k_ ≠ (.slice Ao91 t390.length co91 : Value).ownBlock ∧ k_ ≠ gb363 ∧ k_ ≠ gb364) v384 t383) := ⟨by rw [← hq_]; exact (by (with_reducible repeat (first | apply R_alloc | apply R_drewN | apply R_drew)); exact R_mono HO385.out (fun _ hk => by simp only [ne_eq, hk, not_false_eq_true, and_self]))⟩; have n2_ : Aside0 (Kd.R k26 26 w90 w.heap.size (fun k_ => some k_ ≠ (.slice Ao87 t380.length co87 : Value).ownBlock ∧ some k_ ≠ (v384 : Value).ownBlock ∧ some k_ ≠ (.slice Ao91 t390.length co91 : Value).ownBlock ∧ k_ ≠ gb363 ∧ k_ ≠ gb364) (.slice Ao89 t386.length co89) t386) := ⟨by rw [← hq_]; exact (by (with_reducible repeat (first | apply R_alloc | apply R_drewN | apply R_drew)); exact R_mono HO388.out (fun _ hk => by simp only [ne_eq, hk, not_false_eq_true, and_self]))⟩; have n3_ : Aside0 (Kd.R k26 26 w90 w.heap.size (fun k_ => some k_ ≠ (.slice Ao87 t380.length co87 : Value).ownBlock ∧ some k_ ≠ (v384 : Value).ownBlock ∧ some k_ ≠ (.slice Ao89 t386.length co89 : Value).ownBlock ∧ k_ ≠ gb363 ∧ k_ ≠ gb364) (.slice Ao91 t390.length co91) t390) := ⟨by rw [← hq_]; exact (by (with_reducible repeat (first | apply R_alloc | apply R_drewN | apply R_drew)); exact R_mono HO392.out (fun _ hk => by simp only [ne_eq, hk, not_false_eq_true, and_self]))⟩; have n4_ : Aside0 (w90.heap[gb363]? = some (.cells #[.string a1_0, .string a1_1, .int .i64 a1_2, .int .i64 a1_3, .int .i64 a1_4] 26 (0, 0))) := ⟨by rw [← hq_]; exact (by (with_reducible repeat (first | refine blk_drewN ?_ _ | refine blk_drew ?_ | refine blk_alloc ?_ _)); exact BK363.out)⟩; have n5_ : Aside0 (w90.heap[gb364]? = some (.cells #[.string a2_0, .string a2_1, .int .i64 a2_2, .int .i64 a2_3, .int .i64 a2_4] 26 (0, 0))) := ⟨by rw [← hq_]; exact (by (with_reducible repeat (first | refine blk_drewN ?_ _ | refine blk_drew ?_ | refine blk_alloc ?_ _)); exact BK364.out)⟩; have n6_ : Aside0 (Below w.heap.size w w90) := ⟨by rw [← hq_]; exact (by repeat (first | (with_reducible first | exact HB.out | apply below_alloc | apply pw_below_drewN | apply below_drew1 | refine below_set ?_ GE363.out | refine below_set ?_ GE364.out) | exact HB.out))⟩; clear HO382 HO385 HO388 HO392 BK363 BK364 HB hq_; have HO382 := n0_; have HO385 := n1_; have HO388 := n2_; have HO392 := n3_; have BK363 := n4_; have BK364 := n5_; have HB := n6_; clear n0_ n1_ n2_ n3_ n4_ n5_ n6_))
       have n0_ := Aside0.mk (R_drew HO382.out)
       have n1_ := Aside0.mk (R_drew HO385.out)
       have n2_ := Aside0.mk (R_drew HO388.out)
       have n3_ := Aside0.mk (R_drew HO392.out)
       have n4_ := Aside0.mk (blk_drew BK363.out)
       have n5_ := Aside0.mk (blk_drew BK364.out)
       have n6_ := Aside0.mk (below_drew1 HB.out)
       clear HO382
       clear HO385
       clear HO388
       clear HO392
       clear BK363
       clear BK364
       clear HB
       have HO382 := n0_
       have HO385 := n1_
       have HO388 := n2_
       have HO392 := n3_
       have BK363 := n4_
       have BK364 := n5_
       have HB := n6_
       clear n0_ n1_ n2_ n3_ n4_ n5_ n6_
       obtain ⟨Ao93, co93, eo93⟩ := R_slice HO385.out
       (first | subst eo93 | (injection eo93 with f1_ f2_ f3_; have f4_ := f1_.symm; have f5_ := f3_.symm; clear f1_ f2_ f3_; subst f4_; subst f5_))
       refine start_ (n := 8) (S := fun w' => w'.cell? ⟨gb364, 0, none⟩ = some (.string a2_0) ∧ w'.cell? ⟨gb364, 1, none⟩ = some (.string a2_1) ∧ w'.cell? ⟨gb364, 2, none⟩ = some (.int .i64 a2_2) ∧ w'.cell? ⟨gb364, 3, none⟩ = some (.int .i64 a2_3) ∧ w'.cell? ⟨gb364, 4, none⟩ = some (.int .i64 a2_4)) (ds := []) #[false,false,false,false,false,false,false,false] (by kernel_rfl) rfl rfl ⟨(blk_cell BK364.out 0).trans rfl, (blk_cell BK364.out 1).trans rfl, (blk_cell BK364.out 2).trans rfl, (blk_cell BK364.out 3).trans rfl, (blk_cell BK364.out 4).trans rfl⟩ (fun hHeld => ?_); refine with_tabW law07_RegOld.tab10 law07_RegOld.bits10 (fun HT_ HW_ => ?_)
       generalize w90.drew = w92 at HO382 HO385 HO388 HO392 BK363 BK364 HB hHeld ⊢
       refine pure_ (i := 0) (N := some 67) (v := ?_) (a' := ?_) #[true,false,false,false,false,false,false,false] rfl rfl (any_of HT_.out (by kernel_rfl)) (fun _ _ _ h => h) (Or.inl ⟨by rfl, ?_⟩) ?_ ?_
       rotate_left
       ·intro w'
        go_simp
        with_reducible rfl
       rotate_left
       ·simp only [Act.put, List.setIfInBounds_toArray, List.set_cons_zero, List.set_cons_succ, i64_w, i32_w]
        rfl
       refine pure_ (i := 1) (N := some 68) (v := ?_) (a' := ?_) #[true,true,false,false,false,false,false,false] rfl rfl (any_of HT_.out (by kernel_rfl)) (fun _ _ _ h => h) (Or.inl ⟨by rfl, ?_⟩) ?_ ?_
       rotate_left
       ·intro w'
        go_simp
        with_reducible rfl
       rotate_left
       ·simp only [Act.put, List.setIfInBounds_toArray, List.set_cons_zero, List.set_cons_succ, i64_w, i32_w]
        rfl
       refine pure_ (i := 3) (N := some 70) (v := ?_) (a' := ?_) #[true,true,false,true,false,false,false,false] rfl rfl (any_of HT_.out (by kernel_rfl)) (fun _ _ _ h => h) (Or.inl ⟨by rfl, ?_⟩) ?_ ?_
       rotate_left
       ·intro w'
        go_simp
        with_reducible rfl
       rotate_left
       ·simp only [Act.put, List.setIfInBounds_toArray, List.set_cons_zero, List.set_cons_succ, i64_w, i32_w]
        rfl
       refine take_ (i := 4) (N := some 71) (v := ?_) (a' := ?_) #[true,true,false,true,true,false,false,false] rfl rfl (take_ofW HT_.out HW_.out (by kernel_rfl)) (fun _ _ _ h => h) (Or.inl ⟨by rfl, ?_⟩) hHeld ?_ ?_
       rotate_left
       ·rintro w' ⟨s0, s1, s2, s3, s4⟩
        go_simp
        with_reducible rfl
       rotate_left
       ·simp only [Act.put, List.setIfInBounds_toArray, List.set_cons_zero, List.set_cons_succ, i64_w, i32_w]
        rfl
       refine one_ (i := 2) (N := some 69) #[true,true,true,true,true,false,false,false] rfl rfl (one_of HT_.out (by kernel_rfl)) (by decide) (fun K hK => ?_)
       refine goes_ Try.func26 (by kernel_rfl) rfl #[.slice Ao87 t380.length co87, .slice Ao93 t383.length co93] (by rfl) rfl rfl (by (try simp only [List.map_toArray, List.map_cons, List.map_nil]); first | done | rfl | (simp only [List.length_drop, List.length_take]; rfl)) ?_
       with_reducible refine (reg_Merge.calls kj6 _ _ t380 _ _ t383 t394 _ ?side1 ?side2 ?side3 ?side4 A52.out).mono ?_
       (case side1 => repeat (first | exact (R_reads' HO382.out).2.2 | (with_reducible refine Kd.C_alloc ?_ _) | (with_reducible refine Kd.C_drewN ?_ _) | (with_reducible refine Kd.C_drew ?_)))
       (case side2 => exact (R_reads' HO382.out).2.1)
       (case side3 => repeat (first | exact (R_reads' HO385.out).2.2 | (with_reducible refine Kd.C_alloc ?_ _) | (with_reducible refine Kd.C_drewN ?_ _) | (with_reducible refine Kd.C_drew ?_)))
       (case side4 => exact (R_reads' HO385.out).2.1)
       rintro e w94 ⟨v395, rfl, ho0, hb⟩
       refine ⟨_, rfl, ?_⟩
       have n0_ := Aside0.mk (R_elder' (by (with_reducible repeat (first | apply R_alloc | apply R_drewN | apply R_drew)); exact HO382.out) (R_base ho0) hb)
       have n1_ := Aside0.mk (R_elder' (by (with_reducible repeat (first | apply R_alloc | apply R_drewN | apply R_drew)); exact HO385.out) (R_base ho0) hb)
       have n2_ := Aside0.mk (R_elder' (by (with_reducible repeat (first | apply R_alloc | apply R_drewN | apply R_drew)); exact HO388.out) (R_base ho0) hb)
       have n3_ := Aside0.mk (R_elder' (by (with_reducible repeat (first | apply R_alloc | apply R_drewN | apply R_drew)); exact HO392.out) (R_base ho0) hb)
       have n4_ := Aside0.mk (R_lower (R_newB (R_newB (R_new' (R_new' (R_new' (R_new' ho0 (R_lt (by (with_reducible repeat (first | apply R_alloc | apply R_drewN | apply R_drew)); exact HO382.out))) (R_lt (by (with_reducible repeat (first | apply R_alloc | apply R_drewN | apply R_drew)); exact HO385.out))) (R_lt (by (with_reducible repeat (first | apply R_alloc | apply R_drewN | apply R_drew)); exact HO388.out))) (R_lt (by (with_reducible repeat (first | apply R_alloc | apply R_drewN | apply R_drew)); exact HO392.out))) (g := gb363) (o := .cells #[.string a1_0, .string a1_1, .int .i64 a1_2, .int .i64 a1_3, .int .i64 a1_4] 26 (0, 0)) (by (with_reducible repeat (first | refine blk_drewN ?_ _ | refine blk_drew ?_ | refine blk_alloc ?_ _)); exact BK363.out)) (g := gb364) (o := .cells #[.string a2_0, .string a2_1, .int .i64 a2_2, .int .i64 a2_3, .int .i64 a2_4] 26 (0, 0)) (by (with_reducible repeat (first | refine blk_drewN ?_ _ | refine blk_drew ?_ | refine blk_alloc ?_ _)); exact BK364.out)) (below_size (by repeat (first | (with_reducible first | exact HB.out | apply below_alloc | apply pw_below_drewN | apply below_drew1 | refine below_set ?_ GE363.out | refine below_set ?_ GE364.out) | exact HB.out))))
       have n5_ := Aside0.mk (blk_below (g := gb363) (o := .cells #[.string a1_0, .string a1_1, .int .i64 a1_2, .int .i64 a1_3, .int .i64 a1_4] 26 (0, 0)) (by (with_reducible repeat (first | refine blk_drewN ?_ _ | refine blk_drew ?_ | refine blk_alloc ?_ _)); exact BK363.out) hb)
       have n6_ := Aside0.mk (blk_below (g := gb364) (o := .cells #[.string a2_0, .string a2_1, .int .i64 a2_2, .int .i64 a2_3, .int .i64 a2_4] 26 (0, 0)) (by (with_reducible repeat (first | refine blk_drewN ?_ _ | refine blk_drew ?_ | refine blk_alloc ?_ _)); exact BK364.out) hb)
       have n7_ := Aside0.mk (below_step (by repeat (first | (with_reducible first | exact HB.out | apply below_alloc | apply pw_below_drewN | apply below_drew1 | refine below_set ?_ GE363.out | refine below_set ?_ GE364.out) | exact HB.out)) hb)
       clear HO382
       clear HO385
       clear HO388
       clear HO392
       clear BK363
       clear BK364
       clear HB
       have HO382 := n0_
       have HO385 := n1_
       have HO388 := n2_
       have HO392 := n3_
       have HO396 := n4_
       have BK363 := n5_
       have BK364 := n6_
       have HB := n7_
       clear n0_ n1_ n2_ n3_ n4_ n5_ n6_ n7_
       (try clear hb)
       (try clear hb2)
       (try clear hk)
       (try clear hi)
       (try clear ho0)
       refine hK.out _ _ ⟨(blk_cell BK364.out 0).trans rfl, (blk_cell BK364.out 1).trans rfl, (blk_cell BK364.out 2).trans rfl, (blk_cell BK364.out 3).trans rfl, (blk_cell BK364.out 4).trans rfl⟩ (fun hHeld => ?_)
       clear hK K
       refine norm_ (a' := ?_) ?_ ?_
       rotate_left
       ·show Act.put _ (some 69) _ = _
        simp only [Act.put, List.setIfInBounds_toArray, List.set_cons_zero, List.set_cons_succ, i64_w, i32_w]
        rfl
       refine one_ (i := 5) (N := some 72) #[true,true,true,true,true,true,false,false] rfl rfl (one_of HT_.out (by kernel_rfl)) (by decide) (fun K hK => ?_)
       refine goes_ Try.func24 (by kernel_rfl) rfl #[.slice Ao87 t380.length co87, .agg #[.string a2_0, .string a2_1, .int .i64 a2_2, .int .i64 a2_3, .int .i64 a2_4]] (by rfl) rfl rfl (by (try simp only [List.map_toArray, List.map_cons, List.map_nil]); first | done | rfl | (simp only [List.length_drop, List.length_take]; rfl)) ?_
       with_reducible refine (reg_Put.calls kj6 _ _ t380 a2_0 a2_1 a2_2 a2_3 a2_4 t397 _ ?side1 ?side2 A53.out).mono ?_
       (case side1 => repeat (first | exact (R_reads' HO382.out).2.2 | (with_reducible refine Kd.C_alloc ?_ _) | (with_reducible refine Kd.C_drewN ?_ _) | (with_reducible refine Kd.C_drew ?_)))
       (case side2 => exact (R_reads' HO382.out).2.1)
       rintro e w95 ⟨v398, rfl, ho0, hb⟩
       refine ⟨_, rfl, ?_⟩
       have n0_ := Aside0.mk (R_elder' (by (with_reducible repeat (first | apply R_alloc | apply R_drewN | apply R_drew)); exact HO382.out) (R_base ho0) hb)
       have n1_ := Aside0.mk (R_elder' (by (with_reducible repeat (first | apply R_alloc | apply R_drewN | apply R_drew)); exact HO385.out) (R_base ho0) hb)
       have n2_ := Aside0.mk (R_elder' (by (with_reducible repeat (first | apply R_alloc | apply R_drewN | apply R_drew)); exact HO388.out) (R_base ho0) hb)
       have n3_ := Aside0.mk (R_elder' (by (with_reducible repeat (first | apply R_alloc | apply R_drewN | apply R_drew)); exact HO392.out) (R_base ho0) hb)
       have n4_ := Aside0.mk (R_elder' (by (with_reducible repeat (first | apply R_alloc | apply R_drewN | apply R_drew)); exact HO396.out) (R_base ho0) hb)
       have n5_ := Aside0.mk (R_lower (R_newB (R_newB (R_new' (R_new' (R_new' (R_new' (R_new' ho0 (R_lt (by (with_reducible repeat (first | apply R_alloc | apply R_drewN | apply R_drew)); exact HO382.out))) (R_lt (by (with_reducible repeat (first | apply R_alloc | apply R_drewN | apply R_drew)); exact HO385.out))) (R_lt (by (with_reducible repeat (first | apply R_alloc | apply R_drewN | apply R_drew)); exact HO388.out))) (R_lt (by (with_reducible repeat (first | apply R_alloc | apply R_drewN | apply R_drew)); exact HO392.out))) (R_lt (by (with_reducible repeat (first | apply R_alloc | apply R_drewN | apply R_drew)); exact HO396.out))) (g := gb363) (o := .cells #[.string a1_0, .string a1_1, .int .i64 a1_2, .int .i64 a1_3, .int .i64 a1_4] 26 (0, 0)) (by (with_reducible repeat (first | refine blk_drewN ?_ _ | refine blk_drew ?_ | refine blk_alloc ?_ _)); exact BK363.out)) (g := gb364) (o := .cells #[.string a2_0, .string a2_1, .int .i64 a2_2, .int .i64 a2_3, .int .i64 a2_4] 26 (0, 0)) (by (with_reducible repeat (first | refine blk_drewN ?_ _ | refine blk_drew ?_ | refine blk_alloc ?_ _)); exact BK364.out)) (below_size (by repeat (first | (with_reducible first | exact HB.out | apply below_alloc | apply pw_below_drewN | apply below_drew1 | refine below_set ?_ GE363.out | refine below_set ?_ GE364.out) | exact HB.out))))
       have n6_ := Aside0.mk (blk_below (g := gb363) (o := .cells #[.string a1_0, .string a1_1, .int .i64 a1_2, .int .i64 a1_3, .int .i64 a1_4] 26 (0, 0)) (by (with_reducible repeat (first | refine blk_drewN ?_ _ | refine blk_drew ?_ | refine blk_alloc ?_ _)); exact BK363.out) hb)
       have n7_ := Aside0.mk (blk_below (g := gb364) (o := .cells #[.string a2_0, .string a2_1, .int .i64 a2_2, .int .i64 a2_3, .int .i64 a2_4] 26 (0, 0)) (by (with_reducible repeat (first | refine blk_drewN ?_ _ | refine blk_drew ?_ | refine blk_alloc ?_ _)); exact BK364.out) hb)
       have n8_ := Aside0.mk (below_step (by repeat (first | (with_reducible first | exact HB.out | apply below_alloc | apply pw_below_drewN | apply below_drew1 | refine below_set ?_ GE363.out | refine below_set ?_ GE364.out) | exact HB.out)) hb)
       clear HO382
       clear HO385
       clear HO388
       clear HO392
       clear HO396
       clear BK363
       clear BK364
       clear HB
       have HO382 := n0_
       have HO385 := n1_
       have HO388 := n2_
       have HO392 := n3_
       have HO396 := n4_
       have HO399 := n5_
       have BK363 := n6_
       have BK364 := n7_
       have HB := n8_
       clear n0_ n1_ n2_ n3_ n4_ n5_ n6_ n7_ n8_
       (try clear hb)
       (try clear hb2)
       (try clear hk)
       (try clear hi)
       (try clear ho0)
       obtain ⟨Ao96, co96, eo96⟩ := R_slice HO396.out
       (first | subst eo96 | (injection eo96 with f1_ f2_ f3_; have f4_ := f1_.symm; have f5_ := f3_.symm; clear f1_ f2_ f3_; subst f4_; subst f5_))
       obtain ⟨Ao97, co97, eo97⟩ := R_slice HO399.out
       (first | subst eo97 | (injection eo97 with f1_ f2_ f3_; have f4_ := f1_.symm; have f5_ := f3_.symm; clear f1_ f2_ f3_; subst f4_; subst f5_))
       refine hK.out _ _ ⟨(blk_cell BK364.out 0).trans rfl, (blk_cell BK364.out 1).trans rfl, (blk_cell BK364.out 2).trans rfl, (blk_cell BK364.out 3).trans rfl, (blk_cell BK364.out 4).trans rfl⟩ (fun hHeld => ?_)
       clear hK K
       refine norm_ (a' := ?_) ?_ ?_
       rotate_left
       ·show Act.put _ (some 72) _ = _
        simp only [Act.put, List.setIfInBounds_toArray, List.set_cons_zero, List.set_cons_succ, i64_w, i32_w]
        rfl
       refine one_ (i := 6) (N := some 73) #[true,true,true,true,true,true,true,false] rfl rfl (one_of HT_.out (by kernel_rfl)) (by decide) (fun K hK => ?_)
       refine goes_ Try.func23 (by kernel_rfl) rfl #[.slice Ao96 t394.length co96, .slice Ao97 t397.length co97] (by rfl) rfl rfl (by (try simp only [List.map_toArray, List.map_cons, List.map_nil]); first | done | rfl | (simp only [List.length_drop, List.length_take]; rfl)) ?_
       with_reducible refine (ref07_Same.calls kj6 _ _ t394 _ _ t397 false _ ?side1 ?side2 ?side3 ?side4 A54.out).mono ?_
       (case side1 => repeat (first | exact (R_reads' HO396.out).2.2 | (with_reducible refine Kd.C_alloc ?_ _) | (with_reducible refine Kd.C_drewN ?_ _) | (with_reducible refine Kd.C_drew ?_)))
       (case side2 => exact (R_reads' HO396.out).2.1)
       (case side3 => repeat (first | exact (R_reads' HO399.out).2.2 | (with_reducible refine Kd.C_alloc ?_ _) | (with_reducible refine Kd.C_drewN ?_ _) | (with_reducible refine Kd.C_drew ?_)))
       (case side4 => exact (R_reads' HO399.out).2.1)
       rintro e w' ⟨rfl, ⟨nd, rfl⟩⟩
       refine ⟨_, rfl, ?_⟩
       refine hK.out _ _ ⟨(blk_cell BK364.out 0).trans rfl, (blk_cell BK364.out 1).trans rfl, (blk_cell BK364.out 2).trans rfl, (blk_cell BK364.out 3).trans rfl, (blk_cell BK364.out 4).trans rfl⟩ (fun hHeld => ?_)
       clear hK K
       refine norm_ (a' := ?_) ?_ ?_
       rotate_left
       ·show Act.put _ (some 73) _ = _
        simp only [Act.put, List.setIfInBounds_toArray, List.set_cons_zero, List.set_cons_succ, i64_w, i32_w]
        rfl
       refine pure_ (i := 7) (N := some 14) (v := ?_) (a' := ?_) #[true,true,true,true,true,true,true,true] rfl rfl (any_of HT_.out (by kernel_rfl)) (fun _ _ _ h => h) (Or.inl ⟨by rfl, ?_⟩) ?_ ?_
       rotate_left
       ·intro w'
        go_simp
        with_reducible rfl
       rotate_left
       ·simp only [Act.put, List.setIfInBounds_toArray, List.set_cons_zero, List.set_cons_succ, i64_w, i32_w]
        rfl
       refine done_ (done_of HT_.out (by kernel_rfl)) ?_
       try go_wp2
       (try (rw [drewN_self w95]; generalize hq_ : World.drewN w95 _ = w95; have n0_ : Aside0 (Kd.R k26 26 w95 w.heap.size (fun k_ => some k_ ≠ (.slice Ao93 t383.length co93 : Value).ownBlock ∧ some k_ ≠ (.slice Ao89 t386.length co89 : Value).ownBlock ∧ some k_ ≠ (.slice Ao91 t390.length co91 : Value).ownBlock ∧ some k_ ≠ (.slice Ao96 t394.length co96 : Value).ownBlock ∧ some k_ ≠ (.slice Ao97 t397.length co97 : Value).ownBlock ∧ k_ ≠ gb363 ∧ k_ ≠ gb364) (.slice Ao87 t380.length co87) t380) := ⟨by rw [← hq_]; exact (by (with_reducible repeat (first | apply R_alloc | apply R_drewN | apply R_drew)); exact R_mono HO382.out (fun _ hk => by simp only [ne_eq, hk, not_false_eq_true, and_self]))⟩; have n1_ : Aside0 (Kd.R k26 26 w95 w.heap.size (fun k_ => some k_ ≠ (.slice Ao87 t380.length co87 : Value).ownBlock ∧ some k_ ≠ (.slice Ao89 t386.length co89 : Value).ownBlock ∧ some k_ ≠ (.slice Ao91 t390.length co91 : Value).ownBlock ∧ some k_ ≠ (.slice Ao96 t394.length co96 : Value).ownBlock ∧ some k_ ≠ (.slice Ao97 t397.length co97 : Value).ownBlock ∧ k_ ≠ gb363 ∧ k_ ≠ gb364) (.slice Ao93 t383.length co93) t383) := ⟨by rw [← hq_]; exact (by (with_reducible repeat (first | apply R_alloc | apply R_drewN | apply R_drew)); exact R_mono HO385.out (fun _ hk => by simp only [ne_eq, hk, not_false_eq_true, and_self]))⟩; have n2_ : Aside0 (Kd.R k26 26 w95 w.heap.size (fun k_ => some k_ ≠ (.slice Ao87 t380.length co87 : Value).ownBlock ∧ some k_ ≠ (.slice Ao93 t383.length co93 : Value).ownBlock ∧ some k_ ≠ (.slice Ao91 t390.length co91 : Value).ownBlock ∧ some k_ ≠ (.slice Ao96 t394.length co96 : Value).ownBlock ∧ some k_ ≠ (.slice Ao97 t397.length co97 : Value).ownBlock ∧ k_ ≠ gb363 ∧ k_ ≠ gb364) (.slice Ao89 t386.length co89) t386) := ⟨by rw [← hq_]; exact (by (with_reducible repeat (first | apply R_alloc | apply R_drewN | apply R_drew)); exact R_mono HO388.out (fun _ hk => by simp only [ne_eq, hk, not_false_eq_true, and_self]))⟩; have n3_ : Aside0 (Kd.R k26 26 w95 w.heap.size (fun k_ => some k_ ≠ (.slice Ao87 t380.length co87 : Value).ownBlock ∧ some k_ ≠ (.slice Ao93 t383.length co93 : Value).ownBlock ∧ some k_ ≠ (.slice Ao89 t386.length co89 : Value).ownBlock ∧ some k_ ≠ (.slice Ao96 t394.length co96 : Value).ownBlock ∧ some k_ ≠ (.slice Ao97 t397.length co97 : Value).ownBlock ∧ k_ ≠ gb363 ∧ k_ ≠ gb364) (.slice Ao91 t390.length co91) t390) := ⟨by rw [← hq_]; exact (by (with_reducible repeat (first | apply R_alloc | apply R_drewN | apply R_drew)); exact R_mono HO392.out (fun _ hk => by simp only [ne_eq, hk, not_false_eq_true, and_self]))⟩; have n4_ : Aside0 (Kd.R k26 26 w95 w.heap.size (fun k_ => some k_ ≠ (.slice Ao87 t380.length co87 : Value).ownBlock ∧ some k_ ≠ (.slice Ao93 t383.length co93 : Value).ownBlock ∧ some k_ ≠ (.slice Ao89 t386.length co89 : Value).ownBlock ∧ some k_ ≠ (.slice Ao91 t390.length co91 : Value).ownBlock ∧ some k_ ≠ (.slice Ao97 t397.length co97 : Value).ownBlock ∧ k_ ≠ gb363 ∧ k_ ≠ gb364) (.slice Ao96 t394.length co96) t394) := ⟨by rw [← hq_]; exact (by (with_reducible repeat (first | apply R_alloc | apply R_drewN | apply R_drew)); exact R_mono HO396.out (fun _ hk => by simp only [ne_eq, hk, not_false_eq_true, and_self]))⟩; have n5_ : Aside0 (Kd.R k26 26 w95 w.heap.size (fun k_ => some k_ ≠ (.slice Ao87 t380.length co87 : Value).ownBlock ∧ some k_ ≠ (.slice Ao93 t383.length co93 : Value).ownBlock ∧ some k_ ≠ (.slice Ao89 t386.length co89 : Value).ownBlock ∧ some k_ ≠ (.slice Ao91 t390.length co91 : Value).ownBlock ∧ some k_ ≠ (.slice Ao96 t394.length co96 : Value).ownBlock ∧ k_ ≠ gb363 ∧ k_ ≠ gb364) (.slice Ao97 t397.length co97) t397) := ⟨by rw [← hq_]; exact (by (with_reducible repeat (first | apply R_alloc | apply R_drewN | apply R_drew)); exact R_mono HO399.out (fun _ hk => by simp only [ne_eq, hk, not_false_eq_true, and_self]))⟩; have n6_ : Aside0 (w95.heap[gb363]? = some (.cells #[.string a1_0, .string a1_1, .int .i64 a1_2, .int .i64 a1_3, .int .i64 a1_4] 26 (0, 0))) := ⟨by rw [← hq_]; exact (by (with_reducible repeat (first | refine blk_drewN ?_ _ | refine blk_drew ?_ | refine blk_alloc ?_ _)); exact BK363.out)⟩; have n7_ : Aside0 (w95.heap[gb364]? = some (.cells #[.string a2_0, .string a2_1, .int .i64 a2_2, .int .i64 a2_3, .int .i64 a2_4] 26 (0, 0))) := ⟨by rw [← hq_]; exact (by (with_reducible repeat (first | refine blk_drewN ?_ _ | refine blk_drew ?_ | refine blk_alloc ?_ _)); exact BK364.out)⟩; have n8_ : Aside0 (Below w.heap.size w w95) := ⟨by rw [← hq_]; exact (by repeat (first | (with_reducible first | exact HB.out | apply below_alloc | apply pw_below_drewN | apply below_drew1 | refine below_set ?_ GE363.out | refine below_set ?_ GE364.out) | exact HB.out))⟩; clear HO382 HO385 HO388 HO392 HO396 HO399 BK363 BK364 HB hq_; have HO382 := n0_; have HO385 := n1_; have HO388 := n2_; have HO392 := n3_; have HO396 := n4_; have HO399 := n5_; have BK363 := n6_; have BK364 := n7_; have HB := n8_; clear n0_ n1_ n2_ n3_ n4_ n5_ n6_ n7_ n8_))
       have n0_ := Aside0.mk (R_drew HO382.out)
       have n1_ := Aside0.mk (R_drew HO385.out)
       have n2_ := Aside0.mk (R_drew HO388.out)
       have n3_ := Aside0.mk (R_drew HO392.out)
       have n4_ := Aside0.mk (R_drew HO396.out)
       have n5_ := Aside0.mk (R_drew HO399.out)
       have n6_ := Aside0.mk (blk_drew BK363.out)
       have n7_ := Aside0.mk (blk_drew BK364.out)
       have n8_ := Aside0.mk (below_drew1 HB.out)
       clear HO382
       clear HO385
       clear HO388
       clear HO392
       clear HO396
       clear HO399
       clear BK363
       clear BK364
       clear HB
       have HO382 := n0_
       have HO385 := n1_
       have HO388 := n2_
       have HO392 := n3_
       have HO396 := n4_
       have HO399 := n5_
       have BK363 := n6_
       have BK364 := n7_
       have HB := n8_
       clear n0_ n1_ n2_ n3_ n4_ n5_ n6_ n7_ n8_
       refine start_ (n := 8) (S := fun w' => w'.cell? ⟨gb363, 0, none⟩ = some (.string a1_0) ∧ w'.cell? ⟨gb363, 1, none⟩ = some (.string a1_1) ∧ w'.cell? ⟨gb363, 2, none⟩ = some (.int .i64 a1_2) ∧ w'.cell? ⟨gb363, 3, none⟩ = some (.int .i64 a1_3) ∧ w'.cell? ⟨gb363, 4, none⟩ = some (.int .i64 a1_4)) (ds := []) #[false,false,false,false,false,false,false,false] (by kernel_rfl) rfl rfl ⟨(blk_cell BK363.out 0).trans rfl, (blk_cell BK363.out 1).trans rfl, (blk_cell BK363.out 2).trans rfl, (blk_cell BK363.out 3).trans rfl, (blk_cell BK363.out 4).trans rfl⟩ (fun hHeld => ?_); refine with_tabW law07_RegOld.tab11 law07_RegOld.bits11 (fun HT_ HW_ => ?_)
       generalize w95.drew = w98 at HO382 HO385 HO388 HO392 HO396 HO399 BK363 BK364 HB hHeld ⊢
       refine pure_ (i := 0) (N := some 74) (v := ?_) (a' := ?_) #[true,false,false,false,false,false,false,false] rfl rfl (any_of HT_.out (by kernel_rfl)) (fun _ _ _ h => h) (Or.inl ⟨by rfl, ?_⟩) ?_ ?_
       rotate_left
       ·intro w'
        go_simp
        with_reducible rfl
       rotate_left
       ·simp only [Act.put, List.setIfInBounds_toArray, List.set_cons_zero, List.set_cons_succ, i64_w, i32_w]
        rfl
       refine pure_ (i := 1) (N := some 75) (v := ?_) (a' := ?_) #[true,true,false,false,false,false,false,false] rfl rfl (any_of HT_.out (by kernel_rfl)) (fun _ _ _ h => h) (Or.inl ⟨by rfl, ?_⟩) ?_ ?_
       rotate_left
       ·intro w'
        go_simp
        with_reducible rfl
       rotate_left
       ·simp only [Act.put, List.setIfInBounds_toArray, List.set_cons_zero, List.set_cons_succ, i64_w, i32_w]
        rfl
       refine pure_ (i := 3) (N := some 77) (v := ?_) (a' := ?_) #[true,true,false,true,false,false,false,false] rfl rfl (any_of HT_.out (by kernel_rfl)) (fun _ _ _ h => h) (Or.inl ⟨by rfl, ?_⟩) ?_ ?_
       rotate_left
       ·intro w'
        go_simp
        with_reducible rfl
       rotate_left
       ·simp only [Act.put, List.setIfInBounds_toArray, List.set_cons_zero, List.set_cons_succ, i64_w, i32_w]
        rfl
       refine take_ (i := 4) (N := some 78) (v := ?_) (a' := ?_) #[true,true,false,true,true,false,false,false] rfl rfl (take_ofW HT_.out HW_.out (by kernel_rfl)) (fun _ _ _ h => h) (Or.inl ⟨by rfl, ?_⟩) hHeld ?_ ?_
       rotate_left
       ·rintro w' ⟨s0, s1, s2, s3, s4⟩
        go_simp
        with_reducible rfl
       rotate_left
       ·simp only [Act.put, List.setIfInBounds_toArray, List.set_cons_zero, List.set_cons_succ, i64_w, i32_w]
        rfl
       refine one_ (i := 2) (N := some 76) #[true,true,true,true,true,false,false,false] rfl rfl (one_of HT_.out (by kernel_rfl)) (by decide) (fun K hK => ?_)
       refine goes_ Try.func26 (by kernel_rfl) rfl #[.slice Ao87 t380.length co87, .slice Ao93 t383.length co93] (by rfl) rfl rfl (by (try simp only [List.map_toArray, List.map_cons, List.map_nil]); first | done | rfl | (simp only [List.length_drop, List.length_take]; rfl)) ?_
       with_reducible refine (reg_Merge.calls kj6 _ _ t380 _ _ t383 t401 _ ?side1 ?side2 ?side3 ?side4 A55.out).mono ?_
       (case side1 => repeat (first | exact (R_reads' HO382.out).2.2 | (with_reducible refine Kd.C_alloc ?_ _) | (with_reducible refine Kd.C_drewN ?_ _) | (with_reducible refine Kd.C_drew ?_)))
       (case side2 => exact (R_reads' HO382.out).2.1)
       (case side3 => repeat (first | exact (R_reads' HO385.out).2.2 | (with_reducible refine Kd.C_alloc ?_ _) | (with_reducible refine Kd.C_drewN ?_ _) | (with_reducible refine Kd.C_drew ?_)))
       (case side4 => exact (R_reads' HO385.out).2.1)
       rintro e w99 ⟨v402, rfl, ho0, hb⟩
       refine ⟨_, rfl, ?_⟩
       have n0_ := Aside0.mk (R_elder' (by (with_reducible repeat (first | apply R_alloc | apply R_drewN | apply R_drew)); exact HO382.out) (R_base ho0) hb)
       have n1_ := Aside0.mk (R_elder' (by (with_reducible repeat (first | apply R_alloc | apply R_drewN | apply R_drew)); exact HO385.out) (R_base ho0) hb)
       have n2_ := Aside0.mk (R_elder' (by (with_reducible repeat (first | apply R_alloc | apply R_drewN | apply R_drew)); exact HO388.out) (R_base ho0) hb)
       have n3_ := Aside0.mk (R_elder' (by (with_reducible repeat (first | apply R_alloc | apply R_drewN | apply R_drew)); exact HO392.out) (R_base ho0) hb)
       have n4_ := Aside0.mk (R_elder' (by (with_reducible repeat (first | apply R_alloc | apply R_drewN | apply R_drew)); exact HO396.out) (R_base ho0) hb)
       have n5_ := Aside0.mk (R_elder' (by (with_reducible repeat (first | apply R_alloc | apply R_drewN | apply R_drew)); exact HO399.out) (R_base ho0) hb)
       have n6_ := Aside0.mk (R_lower (R_newB (R_newB (R_new' (R_new' (R_new' (R_new' (R_new' (R_new' ho0 (R_lt (by (with_reducible repeat (first | apply R_alloc | apply R_drewN | apply R_drew)); exact HO382.out))) (R_lt (by (with_reducible repeat (first | apply R_alloc | apply R_drewN | apply R_drew)); exact HO385.out))) (R_lt (by (with_reducible repeat (first | apply R_alloc | apply R_drewN | apply R_drew)); exact HO388.out))) (R_lt (by (with_reducible repeat (first | apply R_alloc | apply R_drewN | apply R_drew)); exact HO392.out))) (R_lt (by (with_reducible repeat (first | apply R_alloc | apply R_drewN | apply R_drew)); exact HO396.out))) (R_lt (by (with_reducible repeat (first | apply R_alloc | apply R_drewN | apply R_drew)); exact HO399.out))) (g := gb363) (o := .cells #[.string a1_0, .string a1_1, .int .i64 a1_2, .int .i64 a1_3, .int .i64 a1_4] 26 (0, 0)) (by (with_reducible repeat (first | refine blk_drewN ?_ _ | refine blk_drew ?_ | refine blk_alloc ?_ _)); exact BK363.out)) (g := gb364) (o := .cells #[.string a2_0, .string a2_1, .int .i64 a2_2, .int .i64 a2_3, .int .i64 a2_4] 26 (0, 0)) (by (with_reducible repeat (first | refine blk_drewN ?_ _ | refine blk_drew ?_ | refine blk_alloc ?_ _)); exact BK364.out)) (below_size (by repeat (first | (with_reducible first | exact HB.out | apply below_alloc | apply pw_below_drewN | apply below_drew1 | refine below_set ?_ GE363.out | refine below_set ?_ GE364.out) | exact HB.out))))
       have n7_ := Aside0.mk (blk_below (g := gb363) (o := .cells #[.string a1_0, .string a1_1, .int .i64 a1_2, .int .i64 a1_3, .int .i64 a1_4] 26 (0, 0)) (by (with_reducible repeat (first | refine blk_drewN ?_ _ | refine blk_drew ?_ | refine blk_alloc ?_ _)); exact BK363.out) hb)
       have n8_ := Aside0.mk (blk_below (g := gb364) (o := .cells #[.string a2_0, .string a2_1, .int .i64 a2_2, .int .i64 a2_3, .int .i64 a2_4] 26 (0, 0)) (by (with_reducible repeat (first | refine blk_drewN ?_ _ | refine blk_drew ?_ | refine blk_alloc ?_ _)); exact BK364.out) hb)
       have n9_ := Aside0.mk (below_step (by repeat (first | (with_reducible first | exact HB.out | apply below_alloc | apply pw_below_drewN | apply below_drew1 | refine below_set ?_ GE363.out | refine below_set ?_ GE364.out) | exact HB.out)) hb)
       clear HO382
       clear HO385
       clear HO388
       clear HO392
       clear HO396
       clear HO399
       clear BK363
       clear BK364
       clear HB
       have HO382 := n0_
       have HO385 := n1_
       have HO388 := n2_
       have HO392 := n3_
       have HO396 := n4_
       have HO399 := n5_
       have HO403 := n6_
       have BK363 := n7_
       have BK364 := n8_
       have HB := n9_
       clear n0_ n1_ n2_ n3_ n4_ n5_ n6_ n7_ n8_ n9_
       (try clear hb)
       (try clear hb2)
       (try clear hk)
       (try clear hi)
       (try clear ho0)
       refine hK.out _ _ ⟨(blk_cell BK363.out 0).trans rfl, (blk_cell BK363.out 1).trans rfl, (blk_cell BK363.out 2).trans rfl, (blk_cell BK363.out 3).trans rfl, (blk_cell BK363.out 4).trans rfl⟩ (fun hHeld => ?_)
       clear hK K
       refine norm_ (a' := ?_) ?_ ?_
       rotate_left
       ·show Act.put _ (some 76) _ = _
        simp only [Act.put, List.setIfInBounds_toArray, List.set_cons_zero, List.set_cons_succ, i64_w, i32_w]
        rfl
       refine one_ (i := 5) (N := some 79) #[true,true,true,true,true,true,false,false] rfl rfl (one_of HT_.out (by kernel_rfl)) (by decide) (fun K hK => ?_)
       refine goes_ Try.func24 (by kernel_rfl) rfl #[.slice Ao93 t383.length co93, .agg #[.string a1_0, .string a1_1, .int .i64 a1_2, .int .i64 a1_3, .int .i64 a1_4]] (by rfl) rfl rfl (by (try simp only [List.map_toArray, List.map_cons, List.map_nil]); first | done | rfl | (simp only [List.length_drop, List.length_take]; rfl)) ?_
       with_reducible refine (reg_Put.calls kj6 _ _ t383 a1_0 a1_1 a1_2 a1_3 a1_4 t404 _ ?side1 ?side2 A56.out).mono ?_
       (case side1 => repeat (first | exact (R_reads' HO385.out).2.2 | (with_reducible refine Kd.C_alloc ?_ _) | (with_reducible refine Kd.C_drewN ?_ _) | (with_reducible refine Kd.C_drew ?_)))
       (case side2 => exact (R_reads' HO385.out).2.1)
       rintro e w100 ⟨v405, rfl, ho0, hb⟩
       refine ⟨_, rfl, ?_⟩
       have n0_ := Aside0.mk (R_elder' (by (with_reducible repeat (first | apply R_alloc | apply R_drewN | apply R_drew)); exact HO382.out) (R_base ho0) hb)
       have n1_ := Aside0.mk (R_elder' (by (with_reducible repeat (first | apply R_alloc | apply R_drewN | apply R_drew)); exact HO385.out) (R_base ho0) hb)
       have n2_ := Aside0.mk (R_elder' (by (with_reducible repeat (first | apply R_alloc | apply R_drewN | apply R_drew)); exact HO388.out) (R_base ho0) hb)
       have n3_ := Aside0.mk (R_elder' (by (with_reducible repeat (first | apply R_alloc | apply R_drewN | apply R_drew)); exact HO392.out) (R_base ho0) hb)
       have n4_ := Aside0.mk (R_elder' (by (with_reducible repeat (first | apply R_alloc | apply R_drewN | apply R_drew)); exact HO396.out) (R_base ho0) hb)
       have n5_ := Aside0.mk (R_elder' (by (with_reducible repeat (first | apply R_alloc | apply R_drewN | apply R_drew)); exact HO399.out) (R_base ho0) hb)
       have n6_ := Aside0.mk (R_elder' (by (with_reducible repeat (first | apply R_alloc | apply R_drewN | apply R_drew)); exact HO403.out) (R_base ho0) hb)
       have n7_ := Aside0.mk (R_lower (R_newB (R_newB (R_new' (R_new' (R_new' (R_new' (R_new' (R_new' (R_new' ho0 (R_lt (by (with_reducible repeat (first | apply R_alloc | apply R_drewN | apply R_drew)); exact HO382.out))) (R_lt (by (with_reducible repeat (first | apply R_alloc | apply R_drewN | apply R_drew)); exact HO385.out))) (R_lt (by (with_reducible repeat (first | apply R_alloc | apply R_drewN | apply R_drew)); exact HO388.out))) (R_lt (by (with_reducible repeat (first | apply R_alloc | apply R_drewN | apply R_drew)); exact HO392.out))) (R_lt (by (with_reducible repeat (first | apply R_alloc | apply R_drewN | apply R_drew)); exact HO396.out))) (R_lt (by (with_reducible repeat (first | apply R_alloc | apply R_drewN | apply R_drew)); exact HO399.out))) (R_lt (by (with_reducible repeat (first | apply R_alloc | apply R_drewN | apply R_drew)); exact HO403.out))) (g := gb363) (o := .cells #[.string a1_0, .string a1_1, .int .i64 a1_2, .int .i64 a1_3, .int .i64 a1_4] 26 (0, 0)) (by (with_reducible repeat (first | refine blk_drewN ?_ _ | refine blk_drew ?_ | refine blk_alloc ?_ _)); exact BK363.out)) (g := gb364) (o := .cells #[.string a2_0, .string a2_1, .int .i64 a2_2, .int .i64 a2_3, .int .i64 a2_4] 26 (0, 0)) (by (with_reducible repeat (first | refine blk_drewN ?_ _ | refine blk_drew ?_ | refine blk_alloc ?_ _)); exact BK364.out)) (below_size (by repeat (first | (with_reducible first | exact HB.out | apply below_alloc | apply pw_below_drewN | apply below_drew1 | refine below_set ?_ GE363.out | refine below_set ?_ GE364.out) | exact HB.out))))
       have n8_ := Aside0.mk (blk_below (g := gb363) (o := .cells #[.string a1_0, .string a1_1, .int .i64 a1_2, .int .i64 a1_3, .int .i64 a1_4] 26 (0, 0)) (by (with_reducible repeat (first | refine blk_drewN ?_ _ | refine blk_drew ?_ | refine blk_alloc ?_ _)); exact BK363.out) hb)
       have n9_ := Aside0.mk (blk_below (g := gb364) (o := .cells #[.string a2_0, .string a2_1, .int .i64 a2_2, .int .i64 a2_3, .int .i64 a2_4] 26 (0, 0)) (by (with_reducible repeat (first | refine blk_drewN ?_ _ | refine blk_drew ?_ | refine blk_alloc ?_ _)); exact BK364.out) hb)
       have n10_ := Aside0.mk (below_step (by repeat (first | (with_reducible first | exact HB.out | apply below_alloc | apply pw_below_drewN | apply below_drew1 | refine below_set ?_ GE363.out | refine below_set ?_ GE364.out) | exact HB.out)) hb)
       clear HO382
       clear HO385
       clear HO388
       clear HO392
       clear HO396
       clear HO399
       clear HO403
       clear BK363
       clear BK364
       clear HB
       have HO382 := n0_
       have HO385 := n1_
       have HO388 := n2_
       have HO392 := n3_
       have HO396 := n4_
       have HO399 := n5_
       have HO403 := n6_
       have HO406 := n7_
       have BK363 := n8_
       have BK364 := n9_
       have HB := n10_
       clear n0_ n1_ n2_ n3_ n4_ n5_ n6_ n7_ n8_ n9_ n10_
       (try clear hb)
       (try clear hb2)
       (try clear hk)
       (try clear hi)
       (try clear ho0)
       obtain ⟨Ao101, co101, eo101⟩ := R_slice HO403.out
       (first | subst eo101 | (injection eo101 with f1_ f2_ f3_; have f4_ := f1_.symm; have f5_ := f3_.symm; clear f1_ f2_ f3_; subst f4_; subst f5_))
       obtain ⟨Ao102, co102, eo102⟩ := R_slice HO406.out
       (first | subst eo102 | (injection eo102 with f1_ f2_ f3_; have f4_ := f1_.symm; have f5_ := f3_.symm; clear f1_ f2_ f3_; subst f4_; subst f5_))
       refine hK.out _ _ ⟨(blk_cell BK363.out 0).trans rfl, (blk_cell BK363.out 1).trans rfl, (blk_cell BK363.out 2).trans rfl, (blk_cell BK363.out 3).trans rfl, (blk_cell BK363.out 4).trans rfl⟩ (fun hHeld => ?_)
       clear hK K
       refine norm_ (a' := ?_) ?_ ?_
       rotate_left
       ·show Act.put _ (some 79) _ = _
        simp only [Act.put, List.setIfInBounds_toArray, List.set_cons_zero, List.set_cons_succ, i64_w, i32_w]
        rfl
       refine one_ (i := 6) (N := some 80) #[true,true,true,true,true,true,true,false] rfl rfl (one_of HT_.out (by kernel_rfl)) (by decide) (fun K hK => ?_)
       refine goes_ Try.func23 (by kernel_rfl) rfl #[.slice Ao101 t401.length co101, .slice Ao102 t404.length co102] (by rfl) rfl rfl (by (try simp only [List.map_toArray, List.map_cons, List.map_nil]); first | done | rfl | (simp only [List.length_drop, List.length_take]; rfl)) ?_
       with_reducible refine (ref07_Same.calls kj6 _ _ t401 _ _ t404 t407 _ ?side1 ?side2 ?side3 ?side4 A57.out).mono ?_
       (case side1 => repeat (first | exact (R_reads' HO403.out).2.2 | (with_reducible refine Kd.C_alloc ?_ _) | (with_reducible refine Kd.C_drewN ?_ _) | (with_reducible refine Kd.C_drew ?_)))
       (case side2 => exact (R_reads' HO403.out).2.1)
       (case side3 => repeat (first | exact (R_reads' HO406.out).2.2 | (with_reducible refine Kd.C_alloc ?_ _) | (with_reducible refine Kd.C_drewN ?_ _) | (with_reducible refine Kd.C_drew ?_)))
       (case side4 => exact (R_reads' HO406.out).2.1)
       rintro e w' ⟨rfl, ⟨nd, rfl⟩⟩
       refine ⟨_, rfl, ?_⟩
       refine hK.out _ _ ⟨(blk_cell BK363.out 0).trans rfl, (blk_cell BK363.out 1).trans rfl, (blk_cell BK363.out 2).trans rfl, (blk_cell BK363.out 3).trans rfl, (blk_cell BK363.out 4).trans rfl⟩ (fun hHeld => ?_)
       clear hK K
       refine norm_ (a' := ?_) ?_ ?_
       rotate_left
       ·show Act.put _ (some 80) _ = _
        simp only [Act.put, List.setIfInBounds_toArray, List.set_cons_zero, List.set_cons_succ, i64_w, i32_w]
        rfl
       refine pure_ (i := 7) (N := some 15) (v := ?_) (a' := ?_) #[true,true,true,true,true,true,true,true] rfl rfl (any_of HT_.out (by kernel_rfl)) (fun _ _ _ h => h) (Or.inl ⟨by rfl, ?_⟩) ?_ ?_
       rotate_left
       ·intro w'
        go_simp
        with_reducible rfl
       rotate_left
       ·simp only [Act.put, List.setIfInBounds_toArray, List.set_cons_zero, List.set_cons_succ, i64_w, i32_w]
        rfl
       refine done_ (done_of HT_.out (by kernel_rfl)) ?_
       try go_wp2
       go_ret
       exact ⟨by first | rfl | (simp [errW_none, errW_some] <;> rfl) | (simp [*, errW_none, errW_some] <;> rfl), by repeat (first | (with_reducible first | exact HB.out | apply below_alloc | apply pw_below_drewN | apply below_drew1 | refine below_set ?_ GE363.out | refine below_set ?_ GE364.out) | exact HB.out)⟩
     ·replace c59 := Bool.eq_false_iff.mpr c59
      subst c59
      have H1 : (some false) = some r := by rw [if_neg (show ¬ (false = true) by decide)] at H; exact H
      clear H
      have H := H1
      clear H1
      obtain rfl := Option.some.inj H
      have hnb103 := NB363_364.out
      have hnc103 := NB364_363.out
      have hcz104_0 : wc.cell? ⟨gb363, 0, none⟩ = some (.string a1_0) := (blk_cell BK363.out 0).trans rfl
      have hcz104_1 : wc.cell? ⟨gb363, 1, none⟩ = some (.string a1_1) := (blk_cell BK363.out 1).trans rfl
      have hcz104_2 : wc.cell? ⟨gb363, 2, none⟩ = some (.int .i64 a1_2) := (blk_cell BK363.out 2).trans rfl
      have hcz104_3 : wc.cell? ⟨gb363, 3, none⟩ = some (.int .i64 a1_3) := (blk_cell BK363.out 3).trans rfl
      have hcz104_4 : wc.cell? ⟨gb363, 4, none⟩ = some (.int .i64 a1_4) := (blk_cell BK363.out 4).trans rfl
      have hfz104_0 := blk_frozen BK363.out 0
      have hfz104_1 := blk_frozen BK363.out 1
      have hfz104_2 := blk_frozen BK363.out 2
      have hfz104_3 := blk_frozen BK363.out 3
      have hfz104_4 := blk_frozen BK363.out 4
      try go_wp2_with (first | ((with_reducible refine gate_callee (f := 24) rfl ?_); refine goesL_ (some 53) rfl rfl Try.func24 (by kernel_rfl) rfl #[.slice A0 l0.length c0, .agg #[.string a1_0, .string a1_1, .int .i64 a1_2, .int .i64 a1_3, .int .i64 a1_4]] rfl (by (try simp only [List.map_toArray, List.map_cons, List.map_nil]); first | done | rfl | (simp only [List.length_drop, List.length_take]; rfl)) ?_; (with_reducible refine (reg_Put.calls kj6 _ _ l0 a1_0 a1_1 a1_2 a1_3 a1_4 t380 _ ?side1 ?side2 A46.out).mono ?_); (case side1 => repeat (first | exact (Kd.C_below HR0.out HB.out) | (with_reducible refine Kd.C_alloc ?_ _) | (with_reducible refine Kd.C_drewN ?_ _) | (with_reducible refine Kd.C_drew ?_))); (case side2 => exact HC0.out); rintro e w105 ⟨v381, rfl, ho0, hb⟩; refine ⟨_, rfl, ?_⟩; have n0_ := Aside0.mk (R_lower (R_newB (R_newB ho0 (g := gb363) (o := .cells #[.string a1_0, .string a1_1, .int .i64 a1_2, .int .i64 a1_3, .int .i64 a1_4] 26 (0, 0)) (by (with_reducible repeat (first | refine blk_drewN ?_ _ | refine blk_drew ?_ | refine blk_alloc ?_ _)); exact BK363.out)) (g := gb364) (o := .cells #[.string a2_0, .string a2_1, .int .i64 a2_2, .int .i64 a2_3, .int .i64 a2_4] 26 (0, 0)) (by (with_reducible repeat (first | refine blk_drewN ?_ _ | refine blk_drew ?_ | refine blk_alloc ?_ _)); exact BK364.out)) (below_size (by repeat (first | (with_reducible first | exact HB.out | apply below_alloc | apply pw_below_drewN | apply below_drew1 | refine below_set ?_ GE363.out | refine below_set ?_ GE364.out) | exact HB.out)))); have n1_ := Aside0.mk (blk_below (g := gb363) (o := .cells #[.string a1_0, .string a1_1, .int .i64 a1_2, .int .i64 a1_3, .int .i64 a1_4] 26 (0, 0)) (by (with_reducible repeat (first | refine blk_drewN ?_ _ | refine blk_drew ?_ | refine blk_alloc ?_ _)); exact BK363.out) hb); have n2_ := Aside0.mk (blk_below (g := gb364) (o := .cells #[.string a2_0, .string a2_1, .int .i64 a2_2, .int .i64 a2_3, .int .i64 a2_4] 26 (0, 0)) (by (with_reducible repeat (first | refine blk_drewN ?_ _ | refine blk_drew ?_ | refine blk_alloc ?_ _)); exact BK364.out) hb); have n3_ := Aside0.mk (below_step (by repeat (first | (with_reducible first | exact HB.out | apply below_alloc | apply pw_below_drewN | apply below_drew1 | refine below_set ?_ GE363.out | refine below_set ?_ GE364.out) | exact HB.out)) hb); clear BK363; clear BK364; clear HB; have HO382 := n0_; have BK363 := n1_; have BK364 := n2_; have HB := n3_; clear n0_ n1_ n2_ n3_; (try clear hb); (try clear hb2); (try clear hk); (try clear hi); (try clear ho0); have hcz106_0 : w105.cell? ⟨gb364, 0, none⟩ = some (.string a2_0) := (blk_cell BK364.out 0).trans rfl; have hcz106_1 : w105.cell? ⟨gb364, 1, none⟩ = some (.string a2_1) := (blk_cell BK364.out 1).trans rfl; have hcz106_2 : w105.cell? ⟨gb364, 2, none⟩ = some (.int .i64 a2_2) := (blk_cell BK364.out 2).trans rfl; have hcz106_3 : w105.cell? ⟨gb364, 3, none⟩ = some (.int .i64 a2_3) := (blk_cell BK364.out 3).trans rfl; have hcz106_4 : w105.cell? ⟨gb364, 4, none⟩ = some (.int .i64 a2_4) := (blk_cell BK364.out 4).trans rfl; have hfz106_0 := blk_frozen BK364.out 0; have hfz106_1 := blk_frozen BK364.out 1; have hfz106_2 := blk_frozen BK364.out 2; have hfz106_3 := blk_frozen BK364.out 3; have hfz106_4 := blk_frozen BK364.out 4) | ((with_reducible refine gate_callee (f := 24) rfl ?_); refine goesL_ (some 56) rfl rfl Try.func24 (by kernel_rfl) rfl #[.slice A0 l0.length c0, .agg #[.string a2_0, .string a2_1, .int .i64 a2_2, .int .i64 a2_3, .int .i64 a2_4]] rfl (by (try simp only [List.map_toArray, List.map_cons, List.map_nil]); first | done | rfl | (simp only [List.length_drop, List.length_take]; rfl)) ?_; (with_reducible refine (reg_Put.calls kj6 _ _ l0 a2_0 a2_1 a2_2 a2_3 a2_4 t383 _ ?side1 ?side2 A47.out).mono ?_); (case side1 => repeat (first | exact (Kd.C_below HR0.out HB.out) | (with_reducible refine Kd.C_alloc ?_ _) | (with_reducible refine Kd.C_drewN ?_ _) | (with_reducible refine Kd.C_drew ?_))); (case side2 => exact HC0.out); rintro e w107 ⟨v384, rfl, ho0, hb⟩; refine ⟨_, rfl, ?_⟩; have n0_ := Aside0.mk (R_elder' (by (with_reducible repeat (first | apply R_alloc | apply R_drewN | apply R_drew)); exact HO382.out) (R_base ho0) hb); have n1_ := Aside0.mk (R_lower (R_newB (R_newB (R_new' ho0 (R_lt (by (with_reducible repeat (first | apply R_alloc | apply R_drewN | apply R_drew)); exact HO382.out))) (g := gb363) (o := .cells #[.string a1_0, .string a1_1, .int .i64 a1_2, .int .i64 a1_3, .int .i64 a1_4] 26 (0, 0)) (by (with_reducible repeat (first | refine blk_drewN ?_ _ | refine blk_drew ?_ | refine blk_alloc ?_ _)); exact BK363.out)) (g := gb364) (o := .cells #[.string a2_0, .string a2_1, .int .i64 a2_2, .int .i64 a2_3, .int .i64 a2_4] 26 (0, 0)) (by (with_reducible repeat (first | refine blk_drewN ?_ _ | refine blk_drew ?_ | refine blk_alloc ?_ _)); exact BK364.out)) (below_size (by repeat (first | (with_reducible first | exact HB.out | apply below_alloc | apply pw_below_drewN | apply below_drew1 | refine below_set ?_ GE363.out | refine below_set ?_ GE364.out) | exact HB.out)))); have n2_ := Aside0.mk (blk_below (g := gb363) (o := .cells #[.string a1_0, .string a1_1, .int .i64 a1_2, .int .i64 a1_3, .int .i64 a1_4] 26 (0, 0)) (by (with_reducible repeat (first | refine blk_drewN ?_ _ | refine blk_drew ?_ | refine blk_alloc ?_ _)); exact BK363.out) hb); have n3_ := Aside0.mk (blk_below (g := gb364) (o := .cells #[.string a2_0, .string a2_1, .int .i64 a2_2, .int .i64 a2_3, .int .i64 a2_4] 26 (0, 0)) (by (with_reducible repeat (first | refine blk_drewN ?_ _ | refine blk_drew ?_ | refine blk_alloc ?_ _)); exact BK364.out) hb); have n4_ := Aside0.mk (below_step (by repeat (first | (with_reducible first | exact HB.out | apply below_alloc | apply pw_below_drewN | apply below_drew1 | refine below_set ?_ GE363.out | refine below_set ?_ GE364.out) | exact HB.out)) hb); clear HO382; clear BK363; clear BK364; clear HB; have HO382 := n0_; have HO385 := n1_; have BK363 := n2_; have BK364 := n3_; have HB := n4_; clear n0_ n1_ n2_ n3_ n4_; (try clear hb); (try clear hb2); (try clear hk); (try clear hi); (try clear ho0); obtain ⟨Ao108, co108, eo108⟩ := R_slice HO382.out; subst eo108) | ((with_reducible refine gate_callee (f := 26) rfl ?_); refine goesL_ (some 59) rfl rfl Try.func26 (by kernel_rfl) rfl #[.slice Ao108 t380.length co108, .slice A0 l0.length c0] rfl (by (try simp only [List.map_toArray, List.map_cons, List.map_nil]); first | done | rfl | (simp only [List.length_drop, List.length_take]; rfl)) ?_; (with_reducible refine (reg_Merge.calls kj6 _ _ t380 _ _ l0 t386 _ ?side1 ?side2 ?side3 ?side4 A48.out).mono ?_); (case side1 => repeat (first | exact (R_reads' HO382.out).2.2 | (with_reducible refine Kd.C_alloc ?_ _) | (with_reducible refine Kd.C_drewN ?_ _) | (with_reducible refine Kd.C_drew ?_))); (case side2 => exact (R_reads' HO382.out).2.1); (case side3 => repeat (first | exact (Kd.C_below HR0.out HB.out) | (with_reducible refine Kd.C_alloc ?_ _) | (with_reducible refine Kd.C_drewN ?_ _) | (with_reducible refine Kd.C_drew ?_))); (case side4 => exact HC0.out); rintro e w109 ⟨v387, rfl, ho0, hb⟩; refine ⟨_, rfl, ?_⟩; have n0_ := Aside0.mk (R_elder' (by (with_reducible repeat (first | apply R_alloc | apply R_drewN | apply R_drew)); exact HO382.out) (R_base ho0) hb); have n1_ := Aside0.mk (R_elder' (by (with_reducible repeat (first | apply R_alloc | apply R_drewN | apply R_drew)); exact HO385.out) (R_base ho0) hb); have n2_ := Aside0.mk (R_lower (R_newB (R_newB (R_new' (R_new' ho0 (R_lt (by (with_reducible repeat (first | apply R_alloc | apply R_drewN | apply R_drew)); exact HO382.out))) (R_lt (by (with_reducible repeat (first | apply R_alloc | apply R_drewN | apply R_drew)); exact HO385.out))) (g := gb363) (o := .cells #[.string a1_0, .string a1_1, .int .i64 a1_2, .int .i64 a1_3, .int .i64 a1_4] 26 (0, 0)) (by (with_reducible repeat (first | refine blk_drewN ?_ _ | refine blk_drew ?_ | refine blk_alloc ?_ _)); exact BK363.out)) (g := gb364) (o := .cells #[.string a2_0, .string a2_1, .int .i64 a2_2, .int .i64 a2_3, .int .i64 a2_4] 26 (0, 0)) (by (with_reducible repeat (first | refine blk_drewN ?_ _ | refine blk_drew ?_ | refine blk_alloc ?_ _)); exact BK364.out)) (below_size (by repeat (first | (with_reducible first | exact HB.out | apply below_alloc | apply pw_below_drewN | apply below_drew1 | refine below_set ?_ GE363.out | refine below_set ?_ GE364.out) | exact HB.out)))); have n3_ := Aside0.mk (blk_below (g := gb363) (o := .cells #[.string a1_0, .string a1_1, .int .i64 a1_2, .int .i64 a1_3, .int .i64 a1_4] 26 (0, 0)) (by (with_reducible repeat (first | refine blk_drewN ?_ _ | refine blk_drew ?_ | refine blk_alloc ?_ _)); exact BK363.out) hb); have n4_ := Aside0.mk (blk_below (g := gb364) (o := .cells #[.string a2_0, .string a2_1, .int .i64 a2_2, .int .i64 a2_3, .int .i64 a2_4] 26 (0, 0)) (by (with_reducible repeat (first | refine blk_drewN ?_ _ | refine blk_drew ?_ | refine blk_alloc ?_ _)); exact BK364.out) hb); have n5_ := Aside0.mk (below_step (by repeat (first | (with_reducible first | exact HB.out | apply below_alloc | apply pw_below_drewN | apply below_drew1 | refine below_set ?_ GE363.out | refine below_set ?_ GE364.out) | exact HB.out)) hb); clear HO382; clear HO385; clear BK363; clear BK364; clear HB; have HO382 := n0_; have HO385 := n1_; have HO388 := n2_; have BK363 := n3_; have BK364 := n4_; have HB := n5_; clear n0_ n1_ n2_ n3_ n4_ n5_; (try clear hb); (try clear hb2); (try clear hk); (try clear hi); (try clear ho0); obtain ⟨Ao110, co110, eo110⟩ := R_slice HO388.out; subst eo110) | ((with_reducible refine gate_callee (f := 23) rfl ?_); refine goesL_ (some 61) rfl rfl Try.func23 (by kernel_rfl) rfl #[.slice Ao110 t386.length co110, .slice Ao108 t380.length co108] rfl (by (try simp only [List.map_toArray, List.map_cons, List.map_nil]); first | done | rfl | (simp only [List.length_drop, List.length_take]; rfl)) ?_; (with_reducible refine (ref07_Same.calls kj6 _ _ t386 _ _ t380 true _ ?side1 ?side2 ?side3 ?side4 A49.out).mono ?_); (case side1 => repeat (first | exact (R_reads' HO388.out).2.2 | (with_reducible refine Kd.C_alloc ?_ _) | (with_reducible refine Kd.C_drewN ?_ _) | (with_reducible refine Kd.C_drew ?_))); (case side2 => exact (R_reads' HO388.out).2.1); (case side3 => repeat (first | exact (R_reads' HO382.out).2.2 | (with_reducible refine Kd.C_alloc ?_ _) | (with_reducible refine Kd.C_drewN ?_ _) | (with_reducible refine Kd.C_drew ?_))); (case side4 => exact (R_reads' HO382.out).2.1); rintro e w' ⟨rfl, ⟨nd, rfl⟩⟩; refine ⟨_, rfl, ?_⟩) | ((with_reducible refine gate_callee (f := 26) rfl ?_); refine goesL_ (some 64) rfl rfl Try.func26 (by kernel_rfl) rfl #[.slice A0 l0.length c0, .slice Ao108 t380.length co108] rfl (by (try simp only [List.map_toArray, List.map_cons, List.map_nil]); first | done | rfl | (simp only [List.length_drop, List.length_take]; rfl)) ?_; (with_reducible refine (reg_Merge.calls kj6 _ _ l0 _ _ t380 t390 _ ?side1 ?side2 ?side3 ?side4 A50.out).mono ?_); (case side1 => repeat (first | exact (Kd.C_below HR0.out (by repeat (first | (with_reducible first | exact HB.out | apply below_alloc | apply pw_below_drewN | apply below_drew1 | refine below_set ?_ GE363.out | refine below_set ?_ GE364.out) | exact HB.out))) | (with_reducible refine Kd.C_alloc ?_ _) | (with_reducible refine Kd.C_drewN ?_ _) | (with_reducible refine Kd.C_drew ?_))); (case side2 => exact HC0.out); (case side3 => repeat (first | exact (R_reads' HO382.out).2.2 | (with_reducible refine Kd.C_alloc ?_ _) | (with_reducible refine Kd.C_drewN ?_ _) | (with_reducible refine Kd.C_drew ?_))); (case side4 => exact (R_reads' HO382.out).2.1); rintro e w111 ⟨v391, rfl, ho0, hb⟩; refine ⟨_, rfl, ?_⟩; have n0_ := Aside0.mk (R_elder' (by (with_reducible repeat (first | apply R_alloc | apply R_drewN | apply R_drew)); exact HO382.out) (R_base ho0) hb); have n1_ := Aside0.mk (R_elder' (by (with_reducible repeat (first | apply R_alloc | apply R_drewN | apply R_drew)); exact HO385.out) (R_base ho0) hb); have n2_ := Aside0.mk (R_elder' (by (with_reducible repeat (first | apply R_alloc | apply R_drewN | apply R_drew)); exact HO388.out) (R_base ho0) hb); have n3_ := Aside0.mk (R_lower (R_newB (R_newB (R_new' (R_new' (R_new' ho0 (R_lt (by (with_reducible repeat (first | apply R_alloc | apply R_drewN | apply R_drew)); exact HO382.out))) (R_lt (by (with_reducible repeat (first | apply R_alloc | apply R_drewN | apply R_drew)); exact HO385.out))) (R_lt (by (with_reducible repeat (first | apply R_alloc | apply R_drewN | apply R_drew)); exact HO388.out))) (g := gb363) (o := .cells #[.string a1_0, .string a1_1, .int .i64 a1_2, .int .i64 a1_3, .int .i64 a1_4] 26 (0, 0)) (by (with_reducible repeat (first | refine blk_drewN ?_ _ | refine blk_drew ?_ | refine blk_alloc ?_ _)); exact BK363.out)) (g := gb364) (o := .cells #[.string a2_0, .string a2_1, .int .i64 a2_2, .int .i64 a2_3, .int .i64 a2_4] 26 (0, 0)) (by (with_reducible repeat (first | refine blk_drewN ?_ _ | refine blk_drew ?_ | refine blk_alloc ?_ _)); exact BK364.out)) (below_size (by repeat (first | (with_reducible first | exact HB.out | apply below_alloc | apply pw_below_drewN | apply below_drew1 | refine below_set ?_ GE363.out | refine below_set ?_ GE364.out) | exact HB.out)))); have n4_ := Aside0.mk (blk_below (g := gb363) (o := .cells #[.string a1_0, .string a1_1, .int .i64 a1_2, .int .i64 a1_3, .int .i64 a1_4] 26 (0, 0)) (by (with_reducible repeat (first | refine blk_drewN ?_ _ | refine blk_drew ?_ | refine blk_alloc ?_ _)); exact BK363.out) hb); have n5_ := Aside0.mk (blk_below (g := gb364) (o := .cells #[.string a2_0, .string a2_1, .int .i64 a2_2, .int .i64 a2_3, .int .i64 a2_4] 26 (0, 0)) (by (with_reducible repeat (first | refine blk_drewN ?_ _ | refine blk_drew ?_ | refine blk_alloc ?_ _)); exact BK364.out) hb); have n6_ := Aside0.mk (below_step (by repeat (first | (with_reducible first | exact HB.out | apply below_alloc | apply pw_below_drewN | apply below_drew1 | refine below_set ?_ GE363.out | refine below_set ?_ GE364.out) | exact HB.out)) hb); clear HO382; clear HO385; clear HO388; clear BK363; clear BK364; clear HB; have HO382 := n0_; have HO385 := n1_; have HO388 := n2_; have HO392 := n3_; have BK363 := n4_; have BK364 := n5_; have HB := n6_; clear n0_ n1_ n2_ n3_ n4_ n5_ n6_; (try clear hb); (try clear hb2); (try clear hk); (try clear hi); (try clear ho0); obtain ⟨Ao112, co112, eo112⟩ := R_slice HO392.out; subst eo112) | ((with_reducible refine gate_callee (f := 23) rfl ?_); refine goesL_ (some 66) rfl rfl Try.func23 (by kernel_rfl) rfl #[.slice Ao112 t390.length co112, .slice Ao108 t380.length co108] rfl (by (try simp only [List.map_toArray, List.map_cons, List.map_nil]); first | done | rfl | (simp only [List.length_drop, List.length_take]; rfl)) ?_; (with_reducible refine (ref07_Same.calls kj6 _ _ t390 _ _ t380 false _ ?side1 ?side2 ?side3 ?side4 A51.out).mono ?_); (case side1 => repeat (first | exact (R_reads' HO392.out).2.2 | (with_reducible refine Kd.C_alloc ?_ _) | (with_reducible refine Kd.C_drewN ?_ _) | (with_reducible refine Kd.C_drew ?_))); (case side2 => exact (R_reads' HO392.out).2.1); (case side3 => repeat (first | exact (R_reads' HO382.out).2.2 | (with_reducible refine Kd.C_alloc ?_ _) | (with_reducible refine Kd.C_drewN ?_ _) | (with_reducible refine Kd.C_drew ?_))); (case side4 => exact (R_reads' HO382.out).2.1); rintro e w' ⟨rfl, ⟨nd, rfl⟩⟩; refine ⟨_, rfl, ?_⟩))
      (try (rw [drewN_self w111]; generalize hq_ : World.drewN w111 _ = w111; have n0_ : Aside0 (Kd.R k26 26 w111 w.heap.size (fun k_ => some k_ ≠ (v384 : Value).ownBlock ∧ some k_ ≠ (.slice Ao110 t386.length co110 : Value).ownBlock ∧ some k_ ≠ (.slice Ao112 t390.length co112 : Value).ownBlock ∧ k_ ≠ gb363 ∧ k_ ≠ gb364) (.slice Ao108 t380.length co108) t380) := ⟨by rw [← hq_]; exact (by (with_reducible repeat (first | apply R_alloc | apply R_drewN | apply R_drew)); exact R_mono HO382.out (fun _ hk => by simp only [ne_eq, hk, not_false_eq_true, and_self]))⟩; have n1_ : Aside0 (Kd.R k26 26 w111 w.heap.size (fun k_ => some k_ ≠ (.slice Ao108 t380.length co108 : Value).ownBlock ∧ some k_ ≠ (.slice Ao110 t386.length co110 : Value).ownBlock ∧ some k_ ≠ (.slice Ao112 t390.length co112 : Value).ownBlock ∧ k_ ≠ gb363 ∧ k_ ≠ gb364) v384 t383) := ⟨by rw [← hq_]; exact (by (with_reducible repeat (first | apply R_alloc | apply R_drewN | apply R_drew)); exact R_mono HO385.out (fun _ hk => by simp only [ne_eq, hk, not_false_eq_true, and_self]))⟩; have n2_ : Aside0 (Kd.R k26 26 w111 w.heap.size (fun k_ => some k_ ≠ (.slice Ao108 t380.length co108 : Value).ownBlock ∧ some k_ ≠ (v384 : Value).ownBlock ∧ some k_ ≠ (.slice Ao112 t390.length co112 : Value).ownBlock ∧ k_ ≠ gb363 ∧ k_ ≠ gb364) (.slice Ao110 t386.length co110) t386) := ⟨by rw [← hq_]; exact (by (with_reducible repeat (first | apply R_alloc | apply R_drewN | apply R_drew)); exact R_mono HO388.out (fun _ hk => by simp only [ne_eq, hk, not_false_eq_true, and_self]))⟩; have n3_ : Aside0 (Kd.R k26 26 w111 w.heap.size (fun k_ => some k_ ≠ (.slice Ao108 t380.length co108 : Value).ownBlock ∧ some k_ ≠ (v384 : Value).ownBlock ∧ some k_ ≠ (.slice Ao110 t386.length co110 : Value).ownBlock ∧ k_ ≠ gb363 ∧ k_ ≠ gb364) (.slice Ao112 t390.length co112) t390) := ⟨by rw [← hq_]; exact (by (with_reducible repeat (first | apply R_alloc | apply R_drewN | apply R_drew)); exact R_mono HO392.out (fun _ hk => by simp only [ne_eq, hk, not_false_eq_true, and_self]))⟩; have n4_ : Aside0 (w111.heap[gb363]? = some (.cells #[.string a1_0, .string a1_1, .int .i64 a1_2, .int .i64 a1_3, .int .i64 a1_4] 26 (0, 0))) := ⟨by rw [← hq_]; exact (by (with_reducible repeat (first | refine blk_drewN ?_ _ | refine blk_drew ?_ | refine blk_alloc ?_ _)); exact BK363.out)⟩; have n5_ : Aside0 (w111.heap[gb364]? = some (.cells #[.string a2_0, .string a2_1, .int .i64 a2_2, .int .i64 a2_3, .int .i64 a2_4] 26 (0, 0))) := ⟨by rw [← hq_]; exact (by (with_reducible repeat (first | refine blk_drewN ?_ _ | refine blk_drew ?_ | refine blk_alloc ?_ _)); exact BK364.out)⟩; have n6_ : Aside0 (Below w.heap.size w w111) := ⟨by rw [← hq_]; exact (by repeat (first | (with_reducible first | exact HB.out | apply below_alloc | apply pw_below_drewN | apply below_drew1 | refine below_set ?_ GE363.out | refine below_set ?_ GE364.out) | exact HB.out))⟩; clear HO382 HO385 HO388 HO392 BK363 BK364 HB hq_; have HO382 := n0_; have HO385 := n1_; have HO388 := n2_; have HO392 := n3_; have BK363 := n4_; have BK364 := n5_; have HB := n6_; clear n0_ n1_ n2_ n3_ n4_ n5_ n6_))
      have n0_ := Aside0.mk (R_drew HO382.out)
      have n1_ := Aside0.mk (R_drew HO385.out)
      have n2_ := Aside0.mk (R_drew HO388.out)
      have n3_ := Aside0.mk (R_drew HO392.out)
      have n4_ := Aside0.mk (blk_drew BK363.out)
      have n5_ := Aside0.mk (blk_drew BK364.out)
      have n6_ := Aside0.mk (below_drew1 HB.out)
      clear HO382
      clear HO385
      clear HO388
      clear HO392
      clear BK363
      clear BK364
      clear HB
      have HO382 := n0_
      have HO385 := n1_
      have HO388 := n2_
      have HO392 := n3_
      have BK363 := n4_
      have BK364 := n5_
      have HB := n6_
      clear n0_ n1_ n2_ n3_ n4_ n5_ n6_
      obtain ⟨Ao114, co114, eo114⟩ := R_slice HO385.out
      (first | subst eo114 | (injection eo114 with f1_ f2_ f3_; have f4_ := f1_.symm; have f5_ := f3_.symm; clear f1_ f2_ f3_; subst f4_; subst f5_))
      refine start_ (n := 8) (S := fun w' => w'.cell? ⟨gb364, 0, none⟩ = some (.string a2_0) ∧ w'.cell? ⟨gb364, 1, none⟩ = some (.string a2_1) ∧ w'.cell? ⟨gb364, 2, none⟩ = some (.int .i64 a2_2) ∧ w'.cell? ⟨gb364, 3, none⟩ = some (.int .i64 a2_3) ∧ w'.cell? ⟨gb364, 4, none⟩ = some (.int .i64 a2_4)) (ds := []) #[false,false,false,false,false,false,false,false] (by kernel_rfl) rfl rfl ⟨(blk_cell BK364.out 0).trans rfl, (blk_cell BK364.out 1).trans rfl, (blk_cell BK364.out 2).trans rfl, (blk_cell BK364.out 3).trans rfl, (blk_cell BK364.out 4).trans rfl⟩ (fun hHeld => ?_); refine with_tabW law07_RegOld.tab10 law07_RegOld.bits10 (fun HT_ HW_ => ?_)
      generalize w111.drew = w113 at HO382 HO385 HO388 HO392 BK363 BK364 HB hHeld ⊢
      refine pure_ (i := 0) (N := some 67) (v := ?_) (a' := ?_) #[true,false,false,false,false,false,false,false] rfl rfl (any_of HT_.out (by kernel_rfl)) (fun _ _ _ h => h) (Or.inl ⟨by rfl, ?_⟩) ?_ ?_
      rotate_left
      ·intro w'
       go_simp
       with_reducible rfl
      rotate_left
      ·simp only [Act.put, List.setIfInBounds_toArray, List.set_cons_zero, List.set_cons_succ, i64_w, i32_w]
       rfl
      refine pure_ (i := 1) (N := some 68) (v := ?_) (a' := ?_) #[true,true,false,false,false,false,false,false] rfl rfl (any_of HT_.out (by kernel_rfl)) (fun _ _ _ h => h) (Or.inl ⟨by rfl, ?_⟩) ?_ ?_
      rotate_left
      ·intro w'
       go_simp
       with_reducible rfl
      rotate_left
      ·simp only [Act.put, List.setIfInBounds_toArray, List.set_cons_zero, List.set_cons_succ, i64_w, i32_w]
       rfl
      refine pure_ (i := 3) (N := some 70) (v := ?_) (a' := ?_) #[true,true,false,true,false,false,false,false] rfl rfl (any_of HT_.out (by kernel_rfl)) (fun _ _ _ h => h) (Or.inl ⟨by rfl, ?_⟩) ?_ ?_
      rotate_left
      ·intro w'
       go_simp
       with_reducible rfl
      rotate_left
      ·simp only [Act.put, List.setIfInBounds_toArray, List.set_cons_zero, List.set_cons_succ, i64_w, i32_w]
       rfl
      refine take_ (i := 4) (N := some 71) (v := ?_) (a' := ?_) #[true,true,false,true,true,false,false,false] rfl rfl (take_ofW HT_.out HW_.out (by kernel_rfl)) (fun _ _ _ h => h) (Or.inl ⟨by rfl, ?_⟩) hHeld ?_ ?_
      rotate_left
      ·rintro w' ⟨s0, s1, s2, s3, s4⟩
       go_simp
       with_reducible rfl
      rotate_left
      ·simp only [Act.put, List.setIfInBounds_toArray, List.set_cons_zero, List.set_cons_succ, i64_w, i32_w]
       rfl
      refine one_ (i := 2) (N := some 69) #[true,true,true,true,true,false,false,false] rfl rfl (one_of HT_.out (by kernel_rfl)) (by decide) (fun K hK => ?_)
      refine goes_ Try.func26 (by kernel_rfl) rfl #[.slice Ao108 t380.length co108, .slice Ao114 t383.length co114] (by rfl) rfl rfl (by (try simp only [List.map_toArray, List.map_cons, List.map_nil]); first | done | rfl | (simp only [List.length_drop, List.length_take]; rfl)) ?_
      with_reducible refine (reg_Merge.calls kj6 _ _ t380 _ _ t383 t394 _ ?side1 ?side2 ?side3 ?side4 A52.out).mono ?_
      (case side1 => repeat (first | exact (R_reads' HO382.out).2.2 | (with_reducible refine Kd.C_alloc ?_ _) | (with_reducible refine Kd.C_drewN ?_ _) | (with_reducible refine Kd.C_drew ?_)))
      (case side2 => exact (R_reads' HO382.out).2.1)
      (case side3 => repeat (first | exact (R_reads' HO385.out).2.2 | (with_reducible refine Kd.C_alloc ?_ _) | (with_reducible refine Kd.C_drewN ?_ _) | (with_reducible refine Kd.C_drew ?_)))
      (case side4 => exact (R_reads' HO385.out).2.1)
      rintro e w115 ⟨v395, rfl, ho0, hb⟩
      refine ⟨_, rfl, ?_⟩
      have n0_ := Aside0.mk (R_elder' (by (with_reducible repeat (first | apply R_alloc | apply R_drewN | apply R_drew)); exact HO382.out) (R_base ho0) hb)
      have n1_ := Aside0.mk (R_elder' (by (with_reducible repeat (first | apply R_alloc | apply R_drewN | apply R_drew)); exact HO385.out) (R_base ho0) hb)
      have n2_ := Aside0.mk (R_elder' (by (with_reducible repeat (first | apply R_alloc | apply R_drewN | apply R_drew)); exact HO388.out) (R_base ho0) hb)
      have n3_ := Aside0.mk (R_elder' (by (with_reducible repeat (first | apply R_alloc | apply R_drewN | apply R_drew)); exact HO392.out) (R_base ho0) hb)
      have n4_ := Aside0.mk (R_lower (R_newB (R_newB (R_new' (R_new' (R_new' (R_new' ho0 (R_lt (by (with_reducible repeat (first | apply R_alloc | apply R_drewN | apply R_drew)); exact HO382.out))) (R_lt (by (with_reducible repeat (first | apply R_alloc | apply R_drewN | apply R_drew)); exact HO385.out))) (R_lt (by (with_reducible repeat (first | apply R_alloc | apply R_drewN | apply R_drew)); exact HO388.out))) (R_lt (by (with_reducible repeat (first | apply R_alloc | apply R_drewN | apply R_drew)); exact HO392.out))) (g := gb363) (o := .cells #[.string a1_0, .string a1_1, .int .i64 a1_2, .int .i64 a1_3, .int .i64 a1_4] 26 (0, 0)) (by (with_reducible repeat (first | refine blk_drewN ?_ _ | refine blk_drew ?_ | refine blk_alloc ?_ _)); exact BK363.out)) (g := gb364) (o := .cells #[.string a2_0, .string a2_1, .int .i64 a2_2, .int .i64 a2_3, .int .i64 a2_4] 26 (0, 0)) (by (with_reducible repeat (first | refine blk_drewN ?_ _ | refine blk_drew ?_ | refine blk_alloc ?_ _)); exact BK364.out)) (below_size (by repeat (first | (with_reducible first | exact HB.out | apply below_alloc | apply pw_below_drewN | apply below_drew1 | refine below_set ?_ GE363.out | refine below_set ?_ GE364.out) | exact HB.out))))
      have n5_ := Aside0.mk (blk_below (g := gb363) (o := .cells #[.string a1_0, .string a1_1, .int .i64 a1_2, .int .i64 a1_3, .int .i64 a1_4] 26 (0, 0)) (by (with_reducible repeat (first | refine blk_drewN ?_ _ | refine blk_drew ?_ | refine blk_alloc ?_ _)); exact BK363.out) hb)
      have n6_ := Aside0.mk (blk_below (g := gb364) (o := .cells #[.string a2_0, .string a2_1, .int .i64 a2_2, .int .i64 a2_3, .int .i64 a2_4] 26 (0, 0)) (by (with_reducible repeat (first | refine blk_drewN ?_ _ | refine blk_drew ?_ | refine blk_alloc ?_ _)); exact BK364.out) hb)
      have n7_ := Aside0.mk (below_step (by repeat (first | (with_reducible first | exact HB.out | apply below_alloc | apply pw_below_drewN | apply below_drew1 | refine below_set ?_ GE363.out | refine below_set ?_ GE364.out) | exact HB.out)) hb)
      clear HO382
      clear HO385
      clear HO388
      clear HO392
      clear BK363
      clear BK364
      clear HB
      have HO382 := n0_
      have HO385 := n1_
      have HO388 := n2_
      have HO392 := n3_
      have HO396 := n4_
      have BK363 := n5_
      have BK364 := n6_
      have HB := n7_
      clear n0_ n1_ n2_ n3_ n4_ n5_ n6_ n7_
      (try clear hb)
      (try clear hb2)
      (try clear hk)
      (try clear hi)
      (try clear ho0)
      refine hK.out _ _ ⟨(blk_cell BK364.out 0).trans rfl, (blk_cell BK364.out 1).trans rfl, (blk_cell BK364.out 2).trans rfl, (blk_cell BK364.out 3).trans rfl, (blk_cell BK364.out 4).trans rfl⟩ (fun hHeld => ?_)
      clear hK K
      refine norm_ (a' := ?_) ?_ ?_
      rotate_left
      ·show Act.put _ (some 69) _ = _
       simp only [Act.put, List.setIfInBounds_toArray, List.set_cons_zero, List.set_cons_succ, i64_w, i32_w]
       rfl
      refine one_ (i := 5) (N := some 72) #[true,true,true,true,true,true,false,false] rfl rfl (one_of HT_.out (by kernel_rfl)) (by decide) (fun K hK => ?_)
      refine goes_ Try.func24 (by kernel_rfl) rfl #[.slice Ao108 t380.length co108, .agg #[.string a2_0, .string a2_1, .int .i64 a2_2, .int .i64 a2_3, .int .i64 a2_4]] (by rfl) rfl rfl (by (try simp only [List.map_toArray, List.map_cons, List.map_nil]); first | done | rfl | (simp only [List.length_drop, List.length_take]; rfl)) ?_
      with_reducible refine (reg_Put.calls kj6 _ _ t380 a2_0 a2_1 a2_2 a2_3 a2_4 t397 _ ?side1 ?side2 A53.out).mono ?_
      (case side1 => repeat (first | exact (R_reads' HO382.out).2.2 | (with_reducible refine Kd.C_alloc ?_ _) | (with_reducible refine Kd.C_drewN ?_ _) | (with_reducible refine Kd.C_drew ?_)))
      (case side2 => exact (R_reads' HO382.out).2.1)
      rintro e w116 ⟨v398, rfl, ho0, hb⟩
      refine ⟨_, rfl, ?_⟩
      have n0_ := Aside0.mk (R_elder' (by (with_reducible repeat (first | apply R_alloc | apply R_drewN | apply R_drew)); exact HO382.out) (R_base ho0) hb)
      have n1_ := Aside0.mk (R_elder' (by (with_reducible repeat (first | apply R_alloc | apply R_drewN | apply R_drew)); exact HO385.out) (R_base ho0) hb)
      have n2_ := Aside0.mk (R_elder' (by (with_reducible repeat (first | apply R_alloc | apply R_drewN | apply R_drew)); exact HO388.out) (R_base ho0) hb)
      have n3_ := Aside0.mk (R_elder' (by (with_reducible repeat (first | apply R_alloc | apply R_drewN | apply R_drew)); exact HO392.out) (R_base ho0) hb)
      have n4_ := Aside0.mk (R_elder' (by (with_reducible repeat (first | apply R_alloc | apply R_drewN | apply R_drew)); exact HO396.out) (R_base ho0) hb)
      have n5_ := Aside0.mk (R_lower (R_newB (R_newB (R_new' (R_new' (R_new' (R_new' (R_new' ho0 (R_lt (by (with_reducible repeat (first | apply R_alloc | apply R_drewN | apply R_drew)); exact HO382.out))) (R_lt (by (with_reducible repeat (first | apply R_alloc | apply R_drewN | apply R_drew)); exact HO385.out))) (R_lt (by (with_reducible repeat (first | apply R_alloc | apply R_drewN | apply R_drew)); exact HO388.out))) (R_lt (by (with_reducible repeat (first | apply R_alloc | apply R_drewN | apply R_drew)); exact HO392.out))) (R_lt (by (with_reducible repeat (first | apply R_alloc | apply R_drewN | apply R_drew)); exact HO396.out))) (g := gb363) (o := .cells #[.string a1_0, .string a1_1, .int .i64 a1_2, .int .i64 a1_3, .int .i64 a1_4] 26 (0, 0)) (by (with_reducible repeat (first | refine blk_drewN ?_ _ | refine blk_drew ?_ | refine blk_alloc ?_ _)); exact BK363.out)) (g := gb364) (o := .cells #[.string a2_0, .string a2_1, .int .i64 a2_2, .int .i64 a2_3, .int .i64 a2_4] 26 (0, 0)) (by (with_reducible repeat (first | refine blk_drewN ?_ _ | refine blk_drew ?_ | refine blk_alloc ?_ _)); exact BK364.out)) (below_size (by repeat (first | (with_reducible first | exact HB.out | apply below_alloc | apply pw_below_drewN | apply below_drew1 | refine below_set ?_ GE363.out | refine below_set ?_ GE364.out) | exact HB.out))))
      have n6_ := Aside0.mk (blk_below (g := gb363) (o := .cells #[.string a1_0, .string a1_1, .int .i64 a1_2, .int .i64 a1_3, .int .i64 a1_4] 26 (0, 0)) (by (with_reducible repeat (first | refine blk_drewN ?_ _ | refine blk_drew ?_ | refine blk_alloc ?_ _)); exact BK363.out) hb)
      have n7_ := Aside0.mk (blk_below (g := gb364) (o := .cells #[.string a2_0, .string a2_1, .int .i64 a2_2, .int .i64 a2_3, .int .i64 a2_4] 26 (0, 0)) (by (with_reducible repeat (first | refine blk_drewN ?_ _ | refine blk_drew ?_ | refine blk_alloc ?_ _)); exact BK364.out) hb)
      have n8_ := Aside0.mk (below_step (by repeat (first | (with_reducible first | exact HB.out | apply below_alloc | apply pw_below_drewN | apply below_drew1 | refine below_set ?_ GE363.out | refine below_set ?_ GE364.out) | exact HB.out)) hb)
      clear HO382
      clear HO385
      clear HO388
      clear HO392
      clear HO396
      clear BK363
      clear BK364
      clear HB
      have HO382 := n0_
      have HO385 := n1_
      have HO388 := n2_
      have HO392 := n3_
      have HO396 := n4_
      have HO399 := n5_
      have BK363 := n6_
      have BK364 := n7_
      have HB := n8_
      clear n0_ n1_ n2_ n3_ n4_ n5_ n6_ n7_ n8_
      (try clear hb)
      (try clear hb2)
      (try clear hk)
      (try clear hi)
      (try clear ho0)
      obtain ⟨Ao117, co117, eo117⟩ := R_slice HO396.out
      (first | subst eo117 | (injection eo117 with f1_ f2_ f3_; have f4_ := f1_.symm; have f5_ := f3_.symm; clear f1_ f2_ f3_; subst f4_; subst f5_))
      obtain ⟨Ao118, co118, eo118⟩ := R_slice HO399.out
      (first | subst eo118 | (injection eo118 with f1_ f2_ f3_; have f4_ := f1_.symm; have f5_ := f3_.symm; clear f1_ f2_ f3_; subst f4_; subst f5_))
      refine hK.out _ _ ⟨(blk_cell BK364.out 0).trans rfl, (blk_cell BK364.out 1).trans rfl, (blk_cell BK364.out 2).trans rfl, (blk_cell BK364.out 3).trans rfl, (blk_cell BK364.out 4).trans rfl⟩ (fun hHeld => ?_)
      clear hK K
      refine norm_ (a' := ?_) ?_ ?_
      rotate_left
      ·show Act.put _ (some 72) _ = _
       simp only [Act.put, List.setIfInBounds_toArray, List.set_cons_zero, List.set_cons_succ, i64_w, i32_w]
       rfl
      refine one_ (i := 6) (N := some 73) #[true,true,true,true,true,true,true,false] rfl rfl (one_of HT_.out (by kernel_rfl)) (by decide) (fun K hK => ?_)
      refine goes_ Try.func23 (by kernel_rfl) rfl #[.slice Ao117 t394.length co117, .slice Ao118 t397.length co118] (by rfl) rfl rfl (by (try simp only [List.map_toArray, List.map_cons, List.map_nil]); first | done | rfl | (simp only [List.length_drop, List.length_take]; rfl)) ?_
      with_reducible refine (ref07_Same.calls kj6 _ _ t394 _ _ t397 t400 _ ?side1 ?side2 ?side3 ?side4 A54.out).mono ?_
      (case side1 => repeat (first | exact (R_reads' HO396.out).2.2 | (with_reducible refine Kd.C_alloc ?_ _) | (with_reducible refine Kd.C_drewN ?_ _) | (with_reducible refine Kd.C_drew ?_)))
      (case side2 => exact (R_reads' HO396.out).2.1)
      (case side3 => repeat (first | exact (R_reads' HO399.out).2.2 | (with_reducible refine Kd.C_alloc ?_ _) | (with_reducible refine Kd.C_drewN ?_ _) | (with_reducible refine Kd.C_drew ?_)))
      (case side4 => exact (R_reads' HO399.out).2.1)
      rintro e w' ⟨rfl, ⟨nd, rfl⟩⟩
      refine ⟨_, rfl, ?_⟩
      refine hK.out _ _ ⟨(blk_cell BK364.out 0).trans rfl, (blk_cell BK364.out 1).trans rfl, (blk_cell BK364.out 2).trans rfl, (blk_cell BK364.out 3).trans rfl, (blk_cell BK364.out 4).trans rfl⟩ (fun hHeld => ?_)
      clear hK K
      refine norm_ (a' := ?_) ?_ ?_
      rotate_left
      ·show Act.put _ (some 73) _ = _
       simp only [Act.put, List.setIfInBounds_toArray, List.set_cons_zero, List.set_cons_succ, i64_w, i32_w]
       rfl
      refine pure_ (i := 7) (N := some 14) (v := ?_) (a' := ?_) #[true,true,true,true,true,true,true,true] rfl rfl (any_of HT_.out (by kernel_rfl)) (fun _ _ _ h => h) (Or.inl ⟨by rfl, ?_⟩) ?_ ?_
      rotate_left
      ·intro w'
       go_simp
       with_reducible rfl
      rotate_left
      ·simp only [Act.put, List.setIfInBounds_toArray, List.set_cons_zero, List.set_cons_succ, i64_w, i32_w]
       rfl
      refine done_ (done_of HT_.out (by kernel_rfl)) ?_
      try go_wp2
      (try (rw [drewN_self w116]; generalize hq_ : World.drewN w116 _ = w116; have n0_ : Aside0 (Kd.R k26 26 w116 w.heap.size (fun k_ => some k_ ≠ (.slice Ao114 t383.length co114 : Value).ownBlock ∧ some k_ ≠ (.slice Ao110 t386.length co110 : Value).ownBlock ∧ some k_ ≠ (.slice Ao112 t390.length co112 : Value).ownBlock ∧ some k_ ≠ (.slice Ao117 t394.length co117 : Value).ownBlock ∧ some k_ ≠ (.slice Ao118 t397.length co118 : Value).ownBlock ∧ k_ ≠ gb363 ∧ k_ ≠ gb364) (.slice Ao108 t380.length co108) t380) := ⟨by rw [← hq_]; exact (by (with_reducible repeat (first | apply R_alloc | apply R_drewN | apply R_drew)); exact R_mono HO382.out (fun _ hk => by simp only [ne_eq, hk, not_false_eq_true, and_self]))⟩; have n1_ : Aside0 (Kd.R k26 26 w116 w.heap.size (fun k_ => some k_ ≠ (.slice Ao108 t380.length co108 : Value).ownBlock ∧ some k_ ≠ (.slice Ao110 t386.length co110 : Value).ownBlock ∧ some k_ ≠ (.slice Ao112 t390.length co112 : Value).ownBlock ∧ some k_ ≠ (.slice Ao117 t394.length co117 : Value).ownBlock ∧ some k_ ≠ (.slice Ao118 t397.length co118 : Value).ownBlock ∧ k_ ≠ gb363 ∧ k_ ≠ gb364) (.slice Ao114 t383.length co114) t383) := ⟨by rw [← hq_]; exact (by (with_reducible repeat (first | apply R_alloc | apply R_drewN | apply R_drew)); exact R_mono HO385.out (fun _ hk => by simp only [ne_eq, hk, not_false_eq_true, and_self]))⟩; have n2_ : Aside0 (Kd.R k26 26 w116 w.heap.size (fun k_ => some k_ ≠ (.slice Ao108 t380.length co108 : Value).ownBlock ∧ some k_ ≠ (.slice Ao114 t383.length co114 : Value).ownBlock ∧ some k_ ≠ (.slice Ao112 t390.length co112 : Value).ownBlock ∧ some k_ ≠ (.slice Ao117 t394.length co117 : Value).ownBlock ∧ some k_ ≠ (.slice Ao118 t397.length co118 : Value).ownBlock ∧ k_ ≠ gb363 ∧ k_ ≠ gb364) (.slice Ao110 t386.length co110) t386) := ⟨by rw [← hq_]; exact (by (with_reducible repeat (first | apply R_alloc | apply R_drewN | apply R_drew)); exact R_mono HO388.out (fun _ hk => by simp only [ne_eq, hk, not_false_eq_true, and_self]))⟩; have n3_ : Aside0 (Kd.R k26 26 w116 w.heap.size (fun k_ => some k_ ≠ (.slice Ao108 t380.length co108 : Value).ownBlock ∧ some k_ ≠ (.slice Ao114 t383.length co114 : Value).ownBlock ∧ some k_ ≠ (.slice Ao110 t386.length co110 : Value).ownBlock ∧ some k_ ≠ (.slice Ao117 t394.length co117 : Value).ownBlock ∧ some k_ ≠ (.slice Ao118 t397.length co118 : Value).ownBlock ∧ k_ ≠ gb363 ∧ k_ ≠ gb364) (.slice Ao112 t390.length co112) t390) := ⟨by rw [← hq_]; exact (by (with_reducible repeat (first | apply R_alloc | apply R_drewN | apply R_drew)); exact R_mono HO392.out (fun _ hk => by simp only [ne_eq, hk, not_false_eq_true, and_self]))⟩; have n4_ : Aside0 (Kd.R k26 26 w116 w.heap.size (fun k_ => some k_ ≠ (.slice Ao108 t380.length co108 : Value).ownBlock ∧ some k_ ≠ (.slice Ao114 t383.length co114 : Value).ownBlock ∧ some k_ ≠ (.slice Ao110 t386.length co110 : Value).ownBlock ∧ some k_ ≠ (.slice Ao112 t390.length co112 : Value).ownBlock ∧ some k_ ≠ (.slice Ao118 t397.length co118 : Value).ownBlock ∧ k_ ≠ gb363 ∧ k_ ≠ gb364) (.slice Ao117 t394.length co117) t394) := ⟨by rw [← hq_]; exact (by (with_reducible repeat (first | apply R_alloc | apply R_drewN | apply R_drew)); exact R_mono HO396.out (fun _ hk => by simp only [ne_eq, hk, not_false_eq_true, and_self]))⟩; have n5_ : Aside0 (Kd.R k26 26 w116 w.heap.size (fun k_ => some k_ ≠ (.slice Ao108 t380.length co108 : Value).ownBlock ∧ some k_ ≠ (.slice Ao114 t383.length co114 : Value).ownBlock ∧ some k_ ≠ (.slice Ao110 t386.length co110 : Value).ownBlock ∧ some k_ ≠ (.slice Ao112 t390.length co112 : Value).ownBlock ∧ some k_ ≠ (.slice Ao117 t394.length co117 : Value).ownBlock ∧ k_ ≠ gb363 ∧ k_ ≠ gb364) (.slice Ao118 t397.length co118) t397) := ⟨by rw [← hq_]; exact (by (with_reducible repeat (first | apply R_alloc | apply R_drewN | apply R_drew)); exact R_mono HO399.out (fun _ hk => by simp only [ne_eq, hk, not_false_eq_true, and_self]))⟩; have n6_ : Aside0 (w116.heap[gb363]? = some (.cells #[.string a1_0, .string a1_1, .int .i64 a1_2, .int .i64 a1_3, .int .i64 a1_4] 26 (0, 0))) := ⟨by rw [← hq_]; exact (by (with_reducible repeat (first | refine blk_drewN ?_ _ | refine blk_drew ?_ | refine blk_alloc ?_ _)); exact BK363.out)⟩; have n7_ : Aside0 (w116.heap[gb364]? = some (.cells #[.string a2_0, .string a2_1, .int .i64 a2_2, .int .i64 a2_3, .int .i64 a2_4] 26 (0, 0))) := ⟨by rw [← hq_]; exact (by (with_reducible repeat (first | refine blk_drewN ?_ _ | refine blk_drew ?_ | refine blk_alloc ?_ _)); exact BK364.out)⟩; have n8_ : Aside0 (Below w.heap.size w w116) := ⟨by rw [← hq_]; exact (by repeat (first | (with_reducible first | exact HB.out | apply below_alloc | apply pw_below_drewN | apply below_drew1 | refine below_set ?_ GE363.out | refine below_set ?_ GE364.out) | exact HB.out))⟩; clear HO382 HO385 HO388 HO392 HO396 HO399 BK363 BK364 HB hq_; have HO382 := n0_; have HO385 := n1_; have HO388 := n2_; have HO392 := n3_; have HO396 := n4_; have HO399 := n5_; have BK363 := n6_; have BK364 := n7_; have HB := n8_; clear n0_ n1_ n2_ n3_ n4_ n5_ n6_ n7_ n8_))
      have n0_ := Aside0.mk (R_drew HO382.out)
      have n1_ := Aside0.mk (R_drew HO385.out)
      have n2_ := Aside0.mk (R_drew HO388.out)
      have n3_ := Aside0.mk (R_drew HO392.out)
      have n4_ := Aside0.mk (R_drew HO396.out)
      have n5_ := Aside0.mk (R_drew HO399.out)
      have n6_ := Aside0.mk (blk_drew BK363.out)
      have n7_ := Aside0.mk (blk_drew BK364.out)
      have n8_ := Aside0.mk (below_drew1 HB.out)
      clear HO382
      clear HO385
      clear HO388
      clear HO392
      clear HO396
      clear HO399
      clear BK363
      clear BK364
      clear HB
      have HO382 := n0_
      have HO385 := n1_
      have HO388 := n2_
      have HO392 := n3_
      have HO396 := n4_
      have HO399 := n5_
      have BK363 := n6_
      have BK364 := n7_
      have HB := n8_
      clear n0_ n1_ n2_ n3_ n4_ n5_ n6_ n7_ n8_
      refine start_ (n := 8) (S := fun w' => w'.cell? ⟨gb363, 0, none⟩ = some (.string a1_0) ∧ w'.cell? ⟨gb363, 1, none⟩ = some (.string a1_1) ∧ w'.cell? ⟨gb363, 2, none⟩ = some (.int .i64 a1_2) ∧ w'.cell? ⟨gb363, 3, none⟩ = some (.int .i64 a1_3) ∧ w'.cell? ⟨gb363, 4, none⟩ = some (.int .i64 a1_4)) (ds := []) #[false,false,false,false,false,false,false,false] (by kernel_rfl) rfl rfl ⟨(blk_cell BK363.out 0).trans rfl, (blk_cell BK363.out 1).trans rfl, (blk_cell BK363.out 2).trans rfl, (blk_cell BK363.out 3).trans rfl, (blk_cell BK363.out 4).trans rfl⟩ (fun hHeld => ?_); refine with_tabW law07_RegOld.tab11 law07_RegOld.bits11 (fun HT_ HW_ => ?_)
      generalize w116.drew = w119 at HO382 HO385 HO388 HO392 HO396 HO399 BK363 BK364 HB hHeld ⊢
      refine pure_ (i := 0) (N := some 74) (v := ?_) (a' := ?_) #[true,false,false,false,false,false,false,false] rfl rfl (any_of HT_.out (by kernel_rfl)) (fun _ _ _ h => h) (Or.inl ⟨by rfl, ?_⟩) ?_ ?_
      rotate_left
      ·intro w'
       go_simp
       with_reducible rfl
      rotate_left
      ·simp only [Act.put, List.setIfInBounds_toArray, List.set_cons_zero, List.set_cons_succ, i64_w, i32_w]
       rfl
      refine pure_ (i := 1) (N := some 75) (v := ?_) (a' := ?_) #[true,true,false,false,false,false,false,false] rfl rfl (any_of HT_.out (by kernel_rfl)) (fun _ _ _ h => h) (Or.inl ⟨by rfl, ?_⟩) ?_ ?_
      rotate_left
      ·intro w'
       go_simp
       with_reducible rfl
      rotate_left
      ·simp only [Act.put, List.setIfInBounds_toArray, List.set_cons_zero, List.set_cons_succ, i64_w, i32_w]
       rfl
      refine pure_ (i := 3) (N := some 77) (v := ?_) (a' := ?_) #[true,true,false,true,false,false,false,false] rfl rfl (any_of HT_.out (by kernel_rfl)) (fun _ _ _ h => h) (Or.inl ⟨by rfl, ?_⟩) ?_ ?_
      rotate_left
      ·intro w'
       go_simp
       with_reducible rfl
      rotate_left
      ·simp only [Act.put, List.setIfInBounds_toArray, List.set_cons_zero, List.set_cons_succ, i64_w, i32_w]
       rfl
      refine take_ (i := 4) (N := some 78) (v := ?_) (a' := ?_) #[true,true,false,true,true,false,false,false] rfl rfl (take_ofW HT_.out HW_.out (by kernel_rfl)) (fun _ _ _ h => h) (Or.inl ⟨by rfl, ?_⟩) hHeld ?_ ?_
      rotate_left
      ·rintro w' ⟨s0, s1, s2, s3, s4⟩
       go_simp
       with_reducible rfl
      rotate_left
      ·simp only [Act.put, List.setIfInBounds_toArray, List.set_cons_zero, List.set_cons_succ, i64_w, i32_w]
       rfl
      refine one_ (i := 2) (N := some 76) #[true,true,true,true,true,false,false,false] rfl rfl (one_of HT_.out (by kernel_rfl)) (by decide) (fun K hK => ?_)
      refine goes_ Try.func26 (by kernel_rfl) rfl #[.slice Ao108 t380.length co108, .slice Ao114 t383.length co114] (by rfl) rfl rfl (by (try simp only [List.map_toArray, List.map_cons, List.map_nil]); first | done | rfl | (simp only [List.length_drop, List.length_take]; rfl)) ?_
      with_reducible refine (reg_Merge.calls kj6 _ _ t380 _ _ t383 t401 _ ?side1 ?side2 ?side3 ?side4 A55.out).mono ?_
      (case side1 => repeat (first | exact (R_reads' HO382.out).2.2 | (with_reducible refine Kd.C_alloc ?_ _) | (with_reducible refine Kd.C_drewN ?_ _) | (with_reducible refine Kd.C_drew ?_)))
      (case side2 => exact (R_reads' HO382.out).2.1)
      (case side3 => repeat (first | exact (R_reads' HO385.out).2.2 | (with_reducible refine Kd.C_alloc ?_ _) | (with_reducible refine Kd.C_drewN ?_ _) | (with_reducible refine Kd.C_drew ?_)))
      (case side4 => exact (R_reads' HO385.out).2.1)
      rintro e w120 ⟨v402, rfl, ho0, hb⟩
      refine ⟨_, rfl, ?_⟩
      have n0_ := Aside0.mk (R_elder' (by (with_reducible repeat (first | apply R_alloc | apply R_drewN | apply R_drew)); exact HO382.out) (R_base ho0) hb)
      have n1_ := Aside0.mk (R_elder' (by (with_reducible repeat (first | apply R_alloc | apply R_drewN | apply R_drew)); exact HO385.out) (R_base ho0) hb)
      have n2_ := Aside0.mk (R_elder' (by (with_reducible repeat (first | apply R_alloc | apply R_drewN | apply R_drew)); exact HO388.out) (R_base ho0) hb)
      have n3_ := Aside0.mk (R_elder' (by (with_reducible repeat (first | apply R_alloc | apply R_drewN | apply R_drew)); exact HO392.out) (R_base ho0) hb)
      have n4_ := Aside0.mk (R_elder' (by (with_reducible repeat (first | apply R_alloc | apply R_drewN | apply R_drew)); exact HO396.out) (R_base ho0) hb)
      have n5_ := Aside0.mk (R_elder' (by (with_reducible repeat (first | apply R_alloc | apply R_drewN | apply R_drew)); exact HO399.out) (R_base ho0) hb)
      have n6_ := Aside0.mk (R_lower (R_newB (R_newB (R_new' (R_new' (R_new' (R_new' (R_new' (R_new' ho0 (R_lt (by (with_reducible repeat (first | apply R_alloc | apply R_drewN | apply R_drew)); exact HO382.out))) (R_lt (by (with_reducible repeat (first | apply R_alloc | apply R_drewN | apply R_drew)); exact HO385.out))) (R_lt (by (with_reducible repeat (first | apply R_alloc | apply R_drewN | apply R_drew)); exact HO388.out))) (R_lt (by (with_reducible repeat (first | apply R_alloc | apply R_drewN | apply R_drew)); exact HO392.out))) (R_lt (by (with_reducible repeat (first | apply R_alloc | apply R_drewN | apply R_drew)); exact HO396.out))) (R_lt (by (with_reducible repeat (first | apply R_alloc | apply R_drewN | apply R_drew)); exact HO399.out))) (g := gb363) (o := .cells #[.string a1_0, .string a1_1, .int .i64 a1_2, .int .i64 a1_3, .int .i64 a1_4] 26 (0, 0)) (by (with_reducible repeat (first | refine blk_drewN ?_ _ | refine blk_drew ?_ | refine blk_alloc ?_ _)); exact BK363.out)) (g := gb364) (o := .cells #[.string a2_0, .string a2_1, .int .i64 a2_2, .int .i64 a2_3, .int .i64 a2_4] 26 (0, 0)) (by (with_reducible repeat (first | refine blk_drewN ?_ _ | refine blk_drew ?_ | refine blk_alloc ?_ _)); exact BK364.out)) (below_size (by repeat (first | (with_reducible first | exact HB.out | apply below_alloc | apply pw_below_drewN | apply below_drew1 | refine below_set ?_ GE363.out | refine below_set ?_ GE364.out) | exact HB.out))))
      have n7_ := Aside0.mk (blk_below (g := gb363) (o := .cells #[.string a1_0, .string a1_1, .int .i64 a1_2, .int .i64 a1_3, .int .i64 a1_4] 26 (0, 0)) (by (with_reducible repeat (first | refine blk_drewN ?_ _ | refine blk_drew ?_ | refine blk_alloc ?_ _)); exact BK363.out) hb)
      have n8_ := Aside0.mk (blk_below (g := gb364) (o := .cells #[.string a2_0, .string a2_1, .int .i64 a2_2, .int .i64 a2_3, .int .i64 a2_4] 26 (0, 0)) (by (with_reducible repeat (first | refine blk_drewN ?_ _ | refine blk_drew ?_ | refine blk_alloc ?_ _)); exact BK364.out) hb)
      have n9_ := Aside0.mk (below_step (by repeat (first | (with_reducible first | exact HB.out | apply below_alloc | apply pw_below_drewN | apply below_drew1 | refine below_set ?_ GE363.out | refine below_set ?_ GE364.out) | exact HB.out)) hb)
      clear HO382
      clear HO385
      clear HO388
      clear HO392
      clear HO396
      clear HO399
      clear BK363
      clear BK364
      clear HB
      have HO382 := n0_
      have HO385 := n1_
      have HO388 := n2_
      have HO392 := n3_
      have HO396 := n4_
      have HO399 := n5_
      have HO403 := n6_
      have BK363 := n7_
      have BK364 := n8_
      have HB := n9_
      clear n0_ n1_ n2_ n3_ n4_ n5_ n6_ n7_ n8_ n9_
      (try clear hb)
      (try clear hb2)
      (try clear hk)
      (try clear hi)
      (try clear ho0)
      refine hK.out _ _ ⟨(blk_cell BK363.out 0).trans rfl, (blk_cell BK363.out 1).trans rfl, (blk_cell BK363.out 2).trans rfl, (blk_cell BK363.out 3).trans rfl, (blk_cell BK363.out 4).trans rfl⟩ (fun hHeld => ?_)
      clear hK K
      refine norm_ (a' := ?_) ?_ ?_
      rotate_left
      ·show Act.put _ (some 76) _ = _
       simp only [Act.put, List.setIfInBounds_toArray, List.set_cons_zero, List.set_cons_succ, i64_w, i32_w]
       rfl
      refine one_ (i := 5) (N := some 79) #[true,true,true,true,true,true,false,false] rfl rfl (one_of HT_.out (by kernel_rfl)) (by decide) (fun K hK => ?_)
      refine goes_ Try.func24 (by kernel_rfl) rfl #[.slice Ao114 t383.length co114, .agg #[.string a1_0, .string a1_1, .int .i64 a1_2, .int .i64 a1_3, .int .i64 a1_4]] (by rfl) rfl rfl (by (try simp only [List.map_toArray, List.map_cons, List.map_nil]); first | done | rfl | (simp only [List.length_drop, List.length_take]; rfl)) ?_
      with_reducible refine (reg_Put.calls kj6 _ _ t383 a1_0 a1_1 a1_2 a1_3 a1_4 t404 _ ?side1 ?side2 A56.out).mono ?_
      (case side1 => repeat (first | exact (R_reads' HO385.out).2.2 | (with_reducible refine Kd.C_alloc ?_ _) | (with_reducible refine Kd.C_drewN ?_ _) | (with_reducible refine Kd.C_drew ?_)))
      (case side2 => exact (R_reads' HO385.out).2.1)
      rintro e w121 ⟨v405, rfl, ho0, hb⟩
      refine ⟨_, rfl, ?_⟩
      have n0_ := Aside0.mk (R_elder' (by (with_reducible repeat (first | apply R_alloc | apply R_drewN | apply R_drew)); exact HO382.out) (R_base ho0) hb)
      have n1_ := Aside0.mk (R_elder' (by (with_reducible repeat (first | apply R_alloc | apply R_drewN | apply R_drew)); exact HO385.out) (R_base ho0) hb)
      have n2_ := Aside0.mk (R_elder' (by (with_reducible repeat (first | apply R_alloc | apply R_drewN | apply R_drew)); exact HO388.out) (R_base ho0) hb)
      have n3_ := Aside0.mk (R_elder' (by (with_reducible repeat (first | apply R_alloc | apply R_drewN | apply R_drew)); exact HO392.out) (R_base ho0) hb)
      have n4_ := Aside0.mk (R_elder' (by (with_reducible repeat (first | apply R_alloc | apply R_drewN | apply R_drew)); exact HO396.out) (R_base ho0) hb)
      have n5_ := Aside0.mk (R_elder' (by (with_reducible repeat (first | apply R_alloc | apply R_drewN | apply R_drew)); exact HO399.out) (R_base ho0) hb)
      have n6_ := Aside0.mk (R_elder' (by (with_reducible repeat (first | apply R_alloc | apply R_drewN | apply R_drew)); exact HO403.out) (R_base ho0) hb)
      have n7_ := Aside0.mk (R_lower (R_newB (R_newB (R_new' (R_new' (R_new' (R_new' (R_new' (R_new' (R_new' ho0 (R_lt (by (with_reducible repeat (first | apply R_alloc | apply R_drewN | apply R_drew)); exact HO382.out))) (R_lt (by (with_reducible repeat (first | apply R_alloc | apply R_drewN | apply R_drew)); exact HO385.out))) (R_lt (by (with_reducible repeat (first | apply R_alloc | apply R_drewN | apply R_drew)); exact HO388.out))) (R_lt (by (with_reducible repeat (first | apply R_alloc | apply R_drewN | apply R_drew)); exact HO392.out))) (R_lt (by (with_reducible repeat (first | apply R_alloc | apply R_drewN | apply R_drew)); exact HO396.out))) (R_lt (by (with_reducible repeat (first | apply R_alloc | apply R_drewN | apply R_drew)); exact HO399.out))) (R_lt (by (with_reducible repeat (first | apply R_alloc | apply R_drewN | apply R_drew)); exact HO403.out))) (g := gb363) (o := .cells #[.string a1_0, .string a1_1, .int .i64 a1_2, .int .i64 a1_3, .int .i64 a1_4] 26 (0, 0)) (by (with_reducible repeat (first | refine blk_drewN ?_ _ | refine blk_drew ?_ | refine blk_alloc ?_ _)); exact BK363.out)) (g := gb364) (o := .cells #[.string a2_0, .string a2_1, .int .i64 a2_2, .int .i64 a2_3, .int .i64 a2_4] 26 (0, 0)) (by (with_reducible repeat (first | refine blk_drewN ?_ _ | refine blk_drew ?_ | refine blk_alloc ?_ _)); exact BK364.out)) (below_size (by repeat (first | (with_reducible first | exact HB.out | apply below_alloc | apply pw_below_drewN | apply below_drew1 | refine below_set ?_ GE363.out | refine below_set ?_ GE364.out) | exact HB.out))))
      have n8_ := Aside0.mk (blk_below (g := gb363) (o := .cells #[.string a1_0, .string a1_1, .int .i64 a1_2, .int .i64 a1_3, .int .i64 a1_4] 26 (0, 0)) (by (with_reducible repeat (first | refine blk_drewN ?_ _ | refine blk_drew ?_ | refine blk_alloc ?_ _)); exact BK363.out) hb)
      have n9_ := Aside0.mk (blk_below (g := gb364) (o := .cells #[.string a2_0, .string a2_1, .int .i64 a2_2, .int .i64 a2_3, .int .i64 a2_4] 26 (0, 0)) (by (with_reducible repeat (first | refine blk_drewN ?_ _ | refine blk_drew ?_ | refine blk_alloc ?_ _)); exact BK364.out) hb)
      have n10_ := Aside0.mk (below_step (by repeat (first | (with_reducible first | exact HB.out | apply below_alloc | apply pw_below_drewN | apply below_drew1 | refine below_set ?_ GE363.out | refine below_set ?_ GE364.out) | exact HB.out)) hb)
      clear HO382
      clear HO385
      clear HO388
      clear HO392
      clear HO396
      clear HO399
      clear HO403
      clear BK363
      clear BK364
      clear HB
      have HO382 := n0_
      have HO385 := n1_
      have HO388 := n2_
      have HO392 := n3_
      have HO396 := n4_
      have HO399 := n5_
      have HO403 := n6_
      have HO406 := n7_
      have BK363 := n8_
      have BK364 := n9_
      have HB := n10_
      clear n0_ n1_ n2_ n3_ n4_ n5_ n6_ n7_ n8_ n9_ n10_
      (try clear hb)
      (try clear hb2)
      (try clear hk)
      (try clear hi)
      (try clear ho0)
      obtain ⟨Ao122, co122, eo122⟩ := R_slice HO403.out
      (first | subst eo122 | (injection eo122 with f1_ f2_ f3_; have f4_ := f1_.symm; have f5_ := f3_.symm; clear f1_ f2_ f3_; subst f4_; subst f5_))
      obtain ⟨Ao123, co123, eo123⟩ := R_slice HO406.out
      (first | subst eo123 | (injection eo123 with f1_ f2_ f3_; have f4_ := f1_.symm; have f5_ := f3_.symm; clear f1_ f2_ f3_; subst f4_; subst f5_))
      refine hK.out _ _ ⟨(blk_cell BK363.out 0).trans rfl, (blk_cell BK363.out 1).trans rfl, (blk_cell BK363.out 2).trans rfl, (blk_cell BK363.out 3).trans rfl, (blk_cell BK363.out 4).trans rfl⟩ (fun hHeld => ?_)
      clear hK K
      refine norm_ (a' := ?_) ?_ ?_
      rotate_left
      ·show Act.put _ (some 79) _ = _
       simp only [Act.put, List.setIfInBounds_toArray, List.set_cons_zero, List.set_cons_succ, i64_w, i32_w]
       rfl
      refine one_ (i := 6) (N := some 80) #[true,true,true,true,true,true,true,false] rfl rfl (one_of HT_.out (by kernel_rfl)) (by decide) (fun K hK => ?_)
      refine goes_ Try.func23 (by kernel_rfl) rfl #[.slice Ao122 t401.length co122, .slice Ao123 t404.length co123] (by rfl) rfl rfl (by (try simp only [List.map_toArray, List.map_cons, List.map_nil]); first | done | rfl | (simp only [List.length_drop, List.length_take]; rfl)) ?_
      with_reducible refine (ref07_Same.calls kj6 _ _ t401 _ _ t404 t407 _ ?side1 ?side2 ?side3 ?side4 A57.out).mono ?_
      (case side1 => repeat (first | exact (R_reads' HO403.out).2.2 | (with_reducible refine Kd.C_alloc ?_ _) | (with_reducible refine Kd.C_drewN ?_ _) | (with_reducible refine Kd.C_drew ?_)))
      (case side2 => exact (R_reads' HO403.out).2.1)
      (case side3 => repeat (first | exact (R_reads' HO406.out).2.2 | (with_reducible refine Kd.C_alloc ?_ _) | (with_reducible refine Kd.C_drewN ?_ _) | (with_reducible refine Kd.C_drew ?_)))
      (case side4 => exact (R_reads' HO406.out).2.1)
      rintro e w' ⟨rfl, ⟨nd, rfl⟩⟩
      refine ⟨_, rfl, ?_⟩
      refine hK.out _ _ ⟨(blk_cell BK363.out 0).trans rfl, (blk_cell BK363.out 1).trans rfl, (blk_cell BK363.out 2).trans rfl, (blk_cell BK363.out 3).trans rfl, (blk_cell BK363.out 4).trans rfl⟩ (fun hHeld => ?_)
      clear hK K
      refine norm_ (a' := ?_) ?_ ?_
      rotate_left
      ·show Act.put _ (some 80) _ = _
       simp only [Act.put, List.setIfInBounds_toArray, List.set_cons_zero, List.set_cons_succ, i64_w, i32_w]
       rfl
      refine pure_ (i := 7) (N := some 15) (v := ?_) (a' := ?_) #[true,true,true,true,true,true,true,true] rfl rfl (any_of HT_.out (by kernel_rfl)) (fun _ _ _ h => h) (Or.inl ⟨by rfl, ?_⟩) ?_ ?_
      rotate_left
      ·intro w'
       go_simp
       with_reducible rfl
      rotate_left
      ·simp only [Act.put, List.setIfInBounds_toArray, List.set_cons_zero, List.set_cons_succ, i64_w, i32_w]
       rfl
      refine done_ (done_of HT_.out (by kernel_rfl)) ?_
      try go_wp2
      go_ret
      exact ⟨by first | rfl | (simp [errW_none, errW_some] <;> rfl) | (simp [*, errW_none, errW_some] <;> rfl), by repeat (first | (with_reducible first | exact HB.out | apply below_alloc | apply pw_below_drewN | apply below_drew1 | refine below_set ?_ GE363.out | refine below_set ?_ GE364.out) | exact HB.out)⟩
    ·replace c58 := Bool.eq_false_iff.mpr c58
     subst c58
     have H1 : (some false) = some r := by rw [if_neg (show ¬ (false = true) by decide)] at H; exact H
     clear H
     have H := H1
     clear H1
     obtain rfl := Option.some.inj H
     have hnb124 := NB363_364.out
     have hnc124 := NB364_363.out
     have hcz125_0 : wc.cell? ⟨gb363, 0, none⟩ = some (.string a1_0) := (blk_cell BK363.out 0).trans rfl
     have hcz125_1 : wc.cell? ⟨gb363, 1, none⟩ = some (.string a1_1) := (blk_cell BK363.out 1).trans rfl
     have hcz125_2 : wc.cell? ⟨gb363, 2, none⟩ = some (.int .i64 a1_2) := (blk_cell BK363.out 2).trans rfl
     have hcz125_3 : wc.cell? ⟨gb363, 3, none⟩ = some (.int .i64 a1_3) := (blk_cell BK363.out 3).trans rfl
     have hcz125_4 : wc.cell? ⟨gb363, 4, none⟩ = some (.int .i64 a1_4) := (blk_cell BK363.out 4).trans rfl
     have hfz125_0 := blk_frozen BK363.out 0
     have hfz125_1 := blk_frozen BK363.out 1
     have hfz125_2 := blk_frozen BK363.out 2
     have hfz125_3 := blk_frozen BK363.out 3
     have hfz125_4 := blk_frozen BK363.out 4
     try go_wp2_with (first | ((with_reducible refine gate_callee (f := 24) rfl ?_); refine goesL_ (some 53) rfl rfl Try.func24 (by kernel_rfl) rfl #[.slice A0 l0.length c0, .agg #[.string a1_0, .string a1_1, .int .i64 a1_2, .int .i64 a1_3, .int .i64 a1_4]] rfl (by (try simp only [List.map_toArray, List.map_cons, List.map_nil]); first | done | rfl | (simp only [List.length_drop, List.length_take]; rfl)) ?_; (with_reducible refine (reg_Put.calls kj6 _ _ l0 a1_0 a1_1 a1_2 a1_3 a1_4 t380 _ ?side1 ?side2 A46.out).mono ?_); (case side1 => repeat (first | exact (Kd.C_below HR0.out HB.out) | (with_reducible refine Kd.C_alloc ?_ _) | (with_reducible refine Kd.C_drewN ?_ _) | (with_reducible refine Kd.C_drew ?_))); (case side2 => exact HC0.out); rintro e w126 ⟨v381, rfl, ho0, hb⟩; refine ⟨_, rfl, ?_⟩; have n0_ := Aside0.mk (R_lower (R_newB (R_newB ho0 (g := gb363) (o := .cells #[.string a1_0, .string a1_1, .int .i64 a1_2, .int .i64 a1_3, .int .i64 a1_4] 26 (0, 0)) (by (with_reducible repeat (first | refine blk_drewN ?_ _ | refine blk_drew ?_ | refine blk_alloc ?_ _)); exact BK363.out)) (g := gb364) (o := .cells #[.string a2_0, .string a2_1, .int .i64 a2_2, .int .i64 a2_3, .int .i64 a2_4] 26 (0, 0)) (by (with_reducible repeat (first | refine blk_drewN ?_ _ | refine blk_drew ?_ | refine blk_alloc ?_ _)); exact BK364.out)) (below_size (by repeat (first | (with_reducible first | exact HB.out | apply below_alloc | apply pw_below_drewN | apply below_drew1 | refine below_set ?_ GE363.out | refine below_set ?_ GE364.out) | exact HB.out)))); have n1_ := Aside0.mk (blk_below (g := gb363) (o := .cells #[.string a1_0, .string a1_1, .int .i64 a1_2, .int .i64 a1_3, .int .i64 a1_4] 26 (0, 0)) (by (with_reducible repeat (first | refine blk_drewN ?_ _ | refine blk_drew ?_ | refine blk_alloc ?_ _)); exact BK363.out) hb); have n2_ := Aside0.mk (blk_below (g := gb364) (o := .cells #[.string a2_0, .string a2_1, .int .i64 a2_2, .int .i64 a2_3, .int .i64 a2_4] 26 (0, 0)) (by (with_reducible repeat (first | refine blk_drewN ?_ _ | refine blk_drew ?_ | refine blk_alloc ?_ _)); exact BK364.out) hb); have n3_ := Aside0.mk (below_step (by repeat (first | (with_reducible first | exact HB.out | apply below_alloc | apply pw_below_drewN | apply below_drew1 | refine below_set ?_ GE363.out | refine below_set ?_ GE364.out) | exact HB.out)) hb); clear BK363; clear BK364; clear HB; have HO382 := n0_; have BK363 := n1_; have BK364 := n2_; have HB := n3_; clear n0_ n1_ n2_ n3_; (try clear hb); (try clear hb2); (try clear hk); (try clear hi); (try clear ho0); have hcz127_0 : w126.cell? ⟨gb364, 0, none⟩ = some (.string a2_0) := (blk_cell BK364.out 0).trans rfl; have hcz127_1 : w126.cell? ⟨gb364, 1, none⟩ = some (.string a2_1) := (blk_cell BK364.out 1).trans rfl; have hcz127_2 : w126.cell? ⟨gb364, 2, none⟩ = some (.int .i64 a2_2) := (blk_cell BK364.out 2).trans rfl; have hcz127_3 : w126.cell? ⟨gb364, 3, none⟩ = some (.int .i64 a2_3) := (blk_cell BK364.out 3).trans rfl; have hcz127_4 : w126.cell? ⟨gb364, 4, none⟩ = some (.int .i64 a2_4) := (blk_cell BK364.out 4).trans rfl; have hfz127_0 := blk_frozen BK364.out 0; have hfz127_1 := blk_frozen BK364.out 1; have hfz127_2 := blk_frozen BK364.out 2; have hfz127_3 := blk_frozen BK364.out 3; have hfz127_4 := blk_frozen BK364.out 4) | ((with_reducible refine gate_callee (f := 24) rfl ?_); refine goesL_ (some 56) rfl rfl Try.func24 (by kernel_rfl) rfl #[.slice A0 l0.length c0, .agg #[.string a2_0, .string a2_1, .int .i64 a2_2, .int .i64 a2_3, .int .i64 a2_4]] rfl (by (try simp only [List.map_toArray, List.map_cons, List.map_nil]); first | done | rfl | (simp only [List.length_drop, List.length_take]; rfl)) ?_; (with_reducible refine (reg_Put.calls kj6 _ _ l0 a2_0 a2_1 a2_2 a2_3 a2_4 t383 _ ?side1 ?side2 A47.out).mono ?_); (case side1 => repeat (first | exact (Kd.C_below HR0.out HB.out) | (with_reducible refine Kd.C_alloc ?_ _) | (with_reducible refine Kd.C_drewN ?_ _) | (with_reducible refine Kd.C_drew ?_))); (case side2 => exact HC0.out); rintro e w128 ⟨v384, rfl, ho0, hb⟩; refine ⟨_, rfl, ?_⟩; have n0_ := Aside0.mk (R_elder' (by (with_reducible repeat (first | apply R_alloc | apply R_drewN | apply R_drew)); exact HO382.out) (R_base ho0) hb); have n1_ := Aside0.mk (R_lower (R_newB (R_newB (R_new' ho0 (R_lt (by (with_reducible repeat (first | apply R_alloc | apply R_drewN | apply R_drew)); exact HO382.out))) (g := gb363) (o := .cells #[.string a1_0, .string a1_1, .int .i64 a1_2, .int .i64 a1_3, .int .i64 a1_4] 26 (0, 0)) (by (with_reducible repeat (first | refine blk_drewN ?_ _ | refine blk_drew ?_ | refine blk_alloc ?_ _)); exact BK363.out)) (g := gb364) (o := .cells #[.string a2_0, .string a2_1, .int .i64 a2_2, .int .i64 a2_3, .int .i64 a2_4] 26 (0, 0)) (by (with_reducible repeat (first | refine blk_drewN ?_ _ | refine blk_drew ?_ | refine blk_alloc ?_ _)); exact BK364.out)) (below_size (by repeat (first | (with_reducible first | exact HB.out | apply below_alloc | apply pw_below_drewN | apply below_drew1 | refine below_set ?_ GE363.out | refine below_set ?_ GE364.out) | exact HB.out)))); have n2_ := Aside0.mk (blk_below (g := gb363) (o := .cells #[.string a1_0, .string a1_1, .int .i64 a1_2, .int .i64 a1_3, .int .i64 a1_4] 26 (0, 0)) (by (with_reducible repeat (first | refine blk_drewN ?_ _ | refine blk_drew ?_ | refine blk_alloc ?_ _)); exact BK363.out) hb); have n3_ := Aside0.mk (blk_below (g := gb364) (o := .cells #[.string a2_0, .string a2_1, .int .i64 a2_2, .int .i64 a2_3, .int .i64 a2_4] 26 (0, 0)) (by (with_reducible repeat (first | refine blk_drewN ?_ _ | refine blk_drew ?_ | refine blk_alloc ?_ _)); exact BK364.out) hb); have n4_ := Aside0.mk (below_step (by repeat (first | (with_reducible first | exact HB.out | apply below_alloc | apply pw_below_drewN | apply below_drew1 | refine below_set ?_ GE363.out | refine below_set ?_ GE364.out) | exact HB.out)) hb); clear HO382; clear BK363; clear BK364; clear HB; have HO382 := n0_; have HO385 := n1_; have BK363 := n2_; have BK364 := n3_; have HB := n4_; clear n0_ n1_ n2_ n3_ n4_; (try clear hb); (try clear hb2); (try clear hk); (try clear hi); (try clear ho0); obtain ⟨Ao129, co129, eo129⟩ := R_slice HO382.out; subst eo129) | ((with_reducible refine gate_callee (f := 26) rfl ?_); refine goesL_ (some 59) rfl rfl Try.func26 (by kernel_rfl) rfl #[.slice Ao129 t380.length co129, .slice A0 l0.length c0] rfl (by (try simp only [List.map_toArray, List.map_cons, List.map_nil]); first | done | rfl | (simp only [List.length_drop, List.length_take]; rfl)) ?_; (with_reducible refine (reg_Merge.calls kj6 _ _ t380 _ _ l0 t386 _ ?side1 ?side2 ?side3 ?side4 A48.out).mono ?_); (case side1 => repeat (first | exact (R_reads' HO382.out).2.2 | (with_reducible refine Kd.C_alloc ?_ _) | (with_reducible refine Kd.C_drewN ?_ _) | (with_reducible refine Kd.C_drew ?_))); (case side2 => exact (R_reads' HO382.out).2.1); (case side3 => repeat (first | exact (Kd.C_below HR0.out HB.out) | (with_reducible refine Kd.C_alloc ?_ _) | (with_reducible refine Kd.C_drewN ?_ _) | (with_reducible refine Kd.C_drew ?_))); (case side4 => exact HC0.out); rintro e w130 ⟨v387, rfl, ho0, hb⟩; refine ⟨_, rfl, ?_⟩; have n0_ := Aside0.mk (R_elder' (by (with_reducible repeat (first | apply R_alloc | apply R_drewN | apply R_drew)); exact HO382.out) (R_base ho0) hb); have n1_ := Aside0.mk (R_elder' (by (with_reducible repeat (first | apply R_alloc | apply R_drewN | apply R_drew)); exact HO385.out) (R_base ho0) hb); have n2_ := Aside0.mk (R_lower (R_newB (R_newB (R_new' (R_new' ho0 (R_lt (by (with_reducible repeat (first | apply R_alloc | apply R_drewN | apply R_drew)); exact HO382.out))) (R_lt (by (with_reducible repeat (first | apply R_alloc | apply R_drewN | apply R_drew)); exact HO385.out))) (g := gb363) (o := .cells #[.string a1_0, .string a1_1, .int .i64 a1_2, .int .i64 a1_3, .int .i64 a1_4] 26 (0, 0)) (by (with_reducible repeat (first | refine blk_drewN ?_ _ | refine blk_drew ?_ | refine blk_alloc ?_ _)); exact BK363.out)) (g := gb364) (o := .cells #[.string a2_0, .string a2_1, .int .i64 a2_2, .int .i64 a2_3, .int .i64 a2_4] 26 (0, 0)) (by (with_reducible repeat (first | refine blk_drewN ?_ _ | refine blk_drew ?_ | refine blk_alloc ?_ _)); exact BK364.out)) (below_size (by repeat (first | (with_reducible first | exact HB.out | apply below_alloc | apply pw_below_drewN | apply below_drew1 | refine below_set ?_ GE363.out | refine below_set ?_ GE364.out) | exact HB.out)))); have n3_ := Aside0.mk (blk_below (g := gb363) (o := .cells #[.string a1_0, .string a1_1, .int .i64 a1_2, .int .i64 a1_3, .int .i64 a1_4] 26 (0, 0)) (by (with_reducible repeat (first | refine blk_drewN ?_ _ | refine blk_drew ?_ | refine blk_alloc ?_ _)); exact BK363.out) hb); have n4_ := Aside0.mk (blk_below (g := gb364) (o := .cells #[.string a2_0, .string a2_1, .int .i64 a2_2, .int .i64 a2_3, .int .i64 a2_4] 26 (0, 0)) (by (with_reducible repeat (first | refine blk_drewN ?_ _ | refine blk_drew ?_ | refine blk_alloc ?_ _)); exact BK364.out) hb); have n5_ := Aside0.mk (below_step (by repeat (first | (with_reducible first | exact HB.out | apply below_alloc | apply pw_below_drewN | apply below_drew1 | refine below_set ?_ GE363.out | refine below_set ?_ GE364.out) | exact HB.out)) hb); clear HO382; clear HO385; clear BK363; clear BK364; clear HB; have HO382 := n0_; have HO385 := n1_; have HO388 := n2_; have BK363 := n3_; have BK364 := n4_; have HB := n5_; clear n0_ n1_ n2_ n3_ n4_ n5_; (try clear hb); (try clear hb2); (try clear hk); (try clear hi); (try clear ho0); obtain ⟨Ao131, co131, eo131⟩ := R_slice HO388.out; subst eo131) | ((with_reducible refine gate_callee (f := 23) rfl ?_); refine goesL_ (some 61) rfl rfl Try.func23 (by kernel_rfl) rfl #[.slice Ao131 t386.length co131, .slice Ao129 t380.length co129] rfl (by (try simp only [List.map_toArray, List.map_cons, List.map_nil]); first | done | rfl | (simp only [List.length_drop, List.length_take]; rfl)) ?_; (with_reducible refine (ref07_Same.calls kj6 _ _ t386 _ _ t380 false _ ?side1 ?side2 ?side3 ?side4 A49.out).mono ?_); (case side1 => repeat (first | exact (R_reads' HO388.out).2.2 | (with_reducible refine Kd.C_alloc ?_ _) | (with_reducible refine Kd.C_drewN ?_ _) | (with_reducible refine Kd.C_drew ?_))); (case side2 => exact (R_reads' HO388.out).2.1); (case side3 => repeat (first | exact (R_reads' HO382.out).2.2 | (with_reducible refine Kd.C_alloc ?_ _) | (with_reducible refine Kd.C_drewN ?_ _) | (with_reducible refine Kd.C_drew ?_))); (case side4 => exact (R_reads' HO382.out).2.1); rintro e w' ⟨rfl, ⟨nd, rfl⟩⟩; refine ⟨_, rfl, ?_⟩) | ((with_reducible refine gate_callee (f := 26) rfl ?_); refine goesL_ (some 64) rfl rfl Try.func26 (by kernel_rfl) rfl #[.slice A0 l0.length c0, .slice Ao129 t380.length co129] rfl (by (try simp only [List.map_toArray, List.map_cons, List.map_nil]); first | done | rfl | (simp only [List.length_drop, List.length_take]; rfl)) ?_; (with_reducible refine (reg_Merge.calls kj6 _ _ l0 _ _ t380 t390 _ ?side1 ?side2 ?side3 ?side4 A50.out).mono ?_); (case side1 => repeat (first | exact (Kd.C_below HR0.out (by repeat (first | (with_reducible first | exact HB.out | apply below_alloc | apply pw_below_drewN | apply below_drew1 | refine below_set ?_ GE363.out | refine below_set ?_ GE364.out) | exact HB.out))) | (with_reducible refine Kd.C_alloc ?_ _) | (with_reducible refine Kd.C_drewN ?_ _) | (with_reducible refine Kd.C_drew ?_))); (case side2 => exact HC0.out); (case side3 => repeat (first | exact (R_reads' HO382.out).2.2 | (with_reducible refine Kd.C_alloc ?_ _) | (with_reducible refine Kd.C_drewN ?_ _) | (with_reducible refine Kd.C_drew ?_))); (case side4 => exact (R_reads' HO382.out).2.1); rintro e w132 ⟨v391, rfl, ho0, hb⟩; refine ⟨_, rfl, ?_⟩; have n0_ := Aside0.mk (R_elder' (by (with_reducible repeat (first | apply R_alloc | apply R_drewN | apply R_drew)); exact HO382.out) (R_base ho0) hb); have n1_ := Aside0.mk (R_elder' (by (with_reducible repeat (first | apply R_alloc | apply R_drewN | apply R_drew)); exact HO385.out) (R_base ho0) hb); have n2_ := Aside0.mk (R_elder' (by (with_reducible repeat (first | apply R_alloc | apply R_drewN | apply R_drew)); exact HO388.out) (R_base ho0) hb); have n3_ := Aside0.mk (R_lower (R_newB (R_newB (R_new' (R_new' (R_new' ho0 (R_lt (by (with_reducible repeat (first | apply R_alloc | apply R_drewN | apply R_drew)); exact HO382.out))) (R_lt (by (with_reducible repeat (first | apply R_alloc | apply R_drewN | apply R_drew)); exact HO385.out))) (R_lt (by (with_reducible repeat (first | apply R_alloc | apply R_drewN | apply R_drew)); exact HO388.out))) (g := gb363) (o := .cells #[.string a1_0, .string a1_1, .int .i64 a1_2, .int .i64 a1_3, .int .i64 a1_4] 26 (0, 0)) (by (with_reducible repeat (first | refine blk_drewN ?_ _ | refine blk_drew ?_ | refine blk_alloc ?_ _)); exact BK363.out)) (g := gb364) (o := .cells #[.string a2_0, .string a2_1, .int .i64 a2_2, .int .i64 a2_3, .int .i64 a2_4] 26 (0, 0)) (by (with_reducible repeat (first | refine blk_drewN ?_ _ | refine blk_drew ?_ | refine blk_alloc ?_ _)); exact BK364.out)) (below_size (by repeat (first | (with_reducible first | exact HB.out | apply below_alloc | apply pw_below_drewN | apply below_drew1 | refine below_set ?_ GE363.out | refine below_set ?_ GE364.out) | exact HB.out)))); have n4_ := Aside0.mk (blk_below (g := gb363) (o := .cells #[.string a1_0, .string a1_1, .int .i64 a1_2, .int .i64 a1_3, .int .i64 a1_4] 26 (0, 0)) (by (with_reducible repeat (first | refine blk_drewN ?_ _ | refine blk_drew ?_ | refine blk_alloc ?_ _)); exact BK363.out) hb); have n5_ := Aside0.mk (blk_below (g := gb364) (o := .cells #[.string a2_0, .string a2_1, .int .i64 a2_2, .int .i64 a2_3, .int .i64 a2_4] 26 (0, 0)) (by (with_reducible repeat (first | refine blk_drewN ?_ _ | refine blk_drew ?_ | refine blk_alloc ?_ _)); exact BK364.out) hb); have n6_ := Aside0.mk (below_step (by repeat (first | (with_reducible first | exact HB.out | apply below_alloc | apply pw_below_drewN | apply below_drew1 | refine below_set ?_ GE363.out | refine below_set ?_ GE364.out) | exact HB.out)) hb); clear HO382; clear HO385; clear HO388; clear BK363; clear BK364; clear HB; have HO382 := n0_; have HO385 := n1_; have HO388 := n2_; have HO392 := n3_; have BK363 := n4_; have BK364 := n5_; have HB := n6_; clear n0_ n1_ n2_ n3_ n4_ n5_ n6_; (try clear hb); (try clear hb2); (try clear hk); (try clear hi); (try clear ho0); obtain ⟨Ao133, co133, eo133⟩ := R_slice HO392.out; subst eo133) | ((with_reducible refine gate_callee (f := 23) rfl ?_); refine goesL_ (some 66) rfl rfl Try.func23 (by kernel_rfl) rfl #[.slice Ao133 t390.length co133, .slice Ao129 t380.length co129] rfl (by (try simp only [List.map_toArray, List.map_cons, List.map_nil]); first | done | rfl | (simp only [List.length_drop, List.length_take]; rfl)) ?_; (with_reducible refine (ref07_Same.calls kj6 _ _ t390 _ _ t380 t393 _ ?side1 ?side2 ?side3 ?side4 A51.out).mono ?_); (case side1 => repeat (first | exact (R_reads' HO392.out).2.2 | (with_reducible refine Kd.C_alloc ?_ _) | (with_reducible refine Kd.C_drewN ?_ _) | (with_reducible refine Kd.C_drew ?_))); (case side2 => exact (R_reads' HO392.out).2.1); (case side3 => repeat (first | exact (R_reads' HO382.out).2.2 | (with_reducible refine Kd.C_alloc ?_ _) | (with_reducible refine Kd.C_drewN ?_ _) | (with_reducible refine Kd.C_drew ?_))); (case side4 => exact (R_reads' HO382.out).2.1); rintro e w' ⟨rfl, ⟨nd, rfl⟩⟩; refine ⟨_, rfl, ?_⟩))
     (try (rw [drewN_self w132]; generalize hq_ : World.drewN w132 _ = w132; have n0_ : Aside0 (Kd.R k26 26 w132 w.heap.size (fun k_ => some k_ ≠ (v384 : Value).ownBlock ∧ some k_ ≠ (.slice Ao131 t386.length co131 : Value).ownBlock ∧ some k_ ≠ (.slice Ao133 t390.length co133 : Value).ownBlock ∧ k_ ≠ gb363 ∧ k_ ≠ gb364) (.slice Ao129 t380.length co129) t380) := ⟨by rw [← hq_]; exact (by (with_reducible repeat (first | apply R_alloc | apply R_drewN | apply R_drew)); exact R_mono HO382.out (fun _ hk => by simp only [ne_eq, hk, not_false_eq_true, and_self]))⟩; have n1_ : Aside0 (Kd.R k26 26 w132 w.heap.size (fun k_ => some k_ ≠ (.slice Ao129 t380.length co129 : Value).ownBlock ∧ some k_ ≠ (.slice Ao131 t386.length co131 : Value).ownBlock ∧ some k_ ≠ (.slice Ao133 t390.length co133 : Value).ownBlock ∧ k_ ≠ gb363 ∧ k_ ≠ gb364) v384 t383) := ⟨by rw [← hq_]; exact (by (with_reducible repeat (first | apply R_alloc | apply R_drewN | apply R_drew)); exact R_mono HO385.out (fun _ hk => by simp only [ne_eq, hk, not_false_eq_true, and_self]))⟩; have n2_ : Aside0 (Kd.R k26 26 w132 w.heap.size (fun k_ => some k_ ≠ (.slice Ao129 t380.length co129 : Value).ownBlock ∧ some k_ ≠ (v384 : Value).ownBlock ∧ some k_ ≠ (.slice Ao133 t390.length co133 : Value).ownBlock ∧ k_ ≠ gb363 ∧ k_ ≠ gb364) (.slice Ao131 t386.length co131) t386) := ⟨by rw [← hq_]; exact (by (with_reducible repeat (first | apply R_alloc | apply R_drewN | apply R_drew)); exact R_mono HO388.out (fun _ hk => by simp only [ne_eq, hk, not_false_eq_true, and_self]))⟩; have n3_ : Aside0 (Kd.R k26 26 w132 w.heap.size (fun k_ => some k_ ≠ (.slice Ao129 t380.length co129 : Value).ownBlock ∧ some k_ ≠ (v384 : Value).ownBlock ∧ some k_ ≠ (.slice Ao131 t386.length co131 : Value).ownBlock ∧ k_ ≠ gb363 ∧ k_ ≠ gb364) (.slice Ao133 t390.length co133) t390) := ⟨by rw [← hq_]; exact (by (with_reducible repeat (first | apply R_alloc | apply R_drewN | apply R_drew)); exact R_mono HO392.out (fun _ hk => by simp only [ne_eq, hk, not_false_eq_true, and_self]))⟩; have n4_ : Aside0 (w132.heap[gb363]? = some (.cells #[.string a1_0, .string a1_1, .int .i64 a1_2, .int .i64 a1_3, .int .i64 a1_4] 26 (0, 0))) := ⟨by rw [← hq_]; exact (by (with_reducible repeat (first | refine blk_drewN ?_ _ | refine blk_drew ?_ | refine blk_alloc ?_ _)); exact BK363.out)⟩; have n5_ : Aside0 (w132.heap[gb364]? = some (.cells #[.string a2_0, .string a2_1, .int .i64 a2_2, .int .i64 a2_3, .int .i64 a2_4] 26 (0, 0))) := ⟨by rw [← hq_]; exact (by (with_reducible repeat (first | refine blk_drewN ?_ _ | refine blk_drew ?_ | refine blk_alloc ?_ _)); exact BK364.out)⟩; have n6_ : Aside0 (Below w.heap.size w w132) := ⟨by rw [← hq_]; exact (by repeat (first | (with_reducible first | exact HB.out | apply below_alloc | apply pw_below_drewN | apply below_drew1 | refine below_set ?_ GE363.out | refine below_set ?_ GE364.out) | exact HB.out))⟩; clear HO382 HO385 HO388 HO392 BK363 BK364 HB hq_; have HO382 := n0_; have HO385 := n1_; have HO388 := n2_; have HO392 := n3_; have BK363 := n4_; have BK364 := n5_; have HB := n6_; clear n0_ n1_ n2_ n3_ n4_ n5_ n6_))
     have n0_ := Aside0.mk (R_drew HO382.out)
     have n1_ := Aside0.mk (R_drew HO385.out)
     have n2_ := Aside0.mk (R_drew HO388.out)
     have n3_ := Aside0.mk (R_drew HO392.out)
     have n4_ := Aside0.mk (blk_drew BK363.out)
     have n5_ := Aside0.mk (blk_drew BK364.out)
     have n6_ := Aside0.mk (below_drew1 HB.out)
     clear HO382
     clear HO385
     clear HO388
     clear HO392
     clear BK363
     clear BK364
     clear HB
     have HO382 := n0_
     have HO385 := n1_
     have HO388 := n2_
     have HO392 := n3_
     have BK363 := n4_
     have BK364 := n5_
     have HB := n6_
     clear n0_ n1_ n2_ n3_ n4_ n5_ n6_
     obtain ⟨Ao135, co135, eo135⟩ := R_slice HO385.out
     (first | subst eo135 | (injection eo135 with f1_ f2_ f3_; have f4_ := f1_.symm; have f5_ := f3_.symm; clear f1_ f2_ f3_; subst f4_; subst f5_))
     refine start_ (n := 8) (S := fun w' => w'.cell? ⟨gb364, 0, none⟩ = some (.string a2_0) ∧ w'.cell? ⟨gb364, 1, none⟩ = some (.string a2_1) ∧ w'.cell? ⟨gb364, 2, none⟩ = some (.int .i64 a2_2) ∧ w'.cell? ⟨gb364, 3, none⟩ = some (.int .i64 a2_3) ∧ w'.cell? ⟨gb364, 4, none⟩ = some (.int .i64 a2_4)) (ds := []) #[false,false,false,false,false,false,false,false] (by kernel_rfl) rfl rfl ⟨(blk_cell BK364.out 0).trans rfl, (blk_cell BK364.out 1).trans rfl, (blk_cell BK364.out 2).trans rfl, (blk_cell BK364.out 3).trans rfl, (blk_cell BK364.out 4).trans rfl⟩ (fun hHeld => ?_); refine with_tabW law07_RegOld.tab10 law07_RegOld.bits10 (fun HT_ HW_ => ?_)
     generalize w132.drew = w134 at HO382 HO385 HO388 HO392 BK363 BK364 HB hHeld ⊢
     refine pure_ (i := 0) (N := some 67) (v := ?_) (a' := ?_) #[true,false,false,false,false,false,false,false] rfl rfl (any_of HT_.out (by kernel_rfl)) (fun _ _ _ h => h) (Or.inl ⟨by rfl, ?_⟩) ?_ ?_
     rotate_left
     ·intro w'
      go_simp
      with_reducible rfl
     rotate_left
     ·simp only [Act.put, List.setIfInBounds_toArray, List.set_cons_zero, List.set_cons_succ, i64_w, i32_w]
      rfl
     refine pure_ (i := 1) (N := some 68) (v := ?_) (a' := ?_) #[true,true,false,false,false,false,false,false] rfl rfl (any_of HT_.out (by kernel_rfl)) (fun _ _ _ h => h) (Or.inl ⟨by rfl, ?_⟩) ?_ ?_
     rotate_left
     ·intro w'
      go_simp
      with_reducible rfl
     rotate_left
     ·simp only [Act.put, List.setIfInBounds_toArray, List.set_cons_zero, List.set_cons_succ, i64_w, i32_w]
      rfl
     refine pure_ (i := 3) (N := some 70) (v := ?_) (a' := ?_) #[true,true,false,true,false,false,false,false] rfl rfl (any_of HT_.out (by kernel_rfl)) (fun _ _ _ h => h) (Or.inl ⟨by rfl, ?_⟩) ?_ ?_
     rotate_left
     ·intro w'
      go_simp
      with_reducible rfl
     rotate_left
     ·simp only [Act.put, List.setIfInBounds_toArray, List.set_cons_zero, List.set_cons_succ, i64_w, i32_w]
      rfl
     refine take_ (i := 4) (N := some 71) (v := ?_) (a' := ?_) #[true,true,false,true,true,false,false,false] rfl rfl (take_ofW HT_.out HW_.out (by kernel_rfl)) (fun _ _ _ h => h) (Or.inl ⟨by rfl, ?_⟩) hHeld ?_ ?_
     rotate_left
     ·rintro w' ⟨s0, s1, s2, s3, s4⟩
      go_simp
      with_reducible rfl
     rotate_left
     ·simp only [Act.put, List.setIfInBounds_toArray, List.set_cons_zero, List.set_cons_succ, i64_w, i32_w]
      rfl
     refine one_ (i := 2) (N := some 69) #[true,true,true,true,true,false,false,false] rfl rfl (one_of HT_.out (by kernel_rfl)) (by decide) (fun K hK => ?_)
     refine goes_ Try.func26 (by kernel_rfl) rfl #[.slice Ao129 t380.length co129, .slice Ao135 t383.length co135] (by rfl) rfl rfl (by (try simp only [List.map_toArray, List.map_cons, List.map_nil]); first | done | rfl | (simp only [List.length_drop, List.length_take]; rfl)) ?_
     with_reducible refine (reg_Merge.calls kj6 _ _ t380 _ _ t383 t394 _ ?side1 ?side2 ?side3 ?side4 A52.out).mono ?_
     (case side1 => repeat (first | exact (R_reads' HO382.out).2.2 | (with_reducible refine Kd.C_alloc ?_ _) | (with_reducible refine Kd.C_drewN ?_ _) | (with_reducible refine Kd.C_drew ?_)))
     (case side2 => exact (R_reads' HO382.out).2.1)
     (case side3 => repeat (first | exact (R_reads' HO385.out).2.2 | (with_reducible refine Kd.C_alloc ?_ _) | (with_reducible refine Kd.C_drewN ?_ _) | (with_reducible refine Kd.C_drew ?_)))
     (case side4 => exact (R_reads' HO385.out).2.1)
     rintro e w136 ⟨v395, rfl, ho0, hb⟩
     refine ⟨_, rfl, ?_⟩
     have n0_ := Aside0.mk (R_elder' (by (with_reducible repeat (first | apply R_alloc | apply R_drewN | apply R_drew)); exact HO382.out) (R_base ho0) hb)
     have n1_ := Aside0.mk (R_elder' (by (with_reducible repeat (first | apply R_alloc | apply R_drewN | apply R_drew)); exact HO385.out) (R_base ho0) hb)
     have n2_ := Aside0.mk (R_elder' (by (with_reducible repeat (first | apply R_alloc | apply R_drewN | apply R_drew)); exact HO388.out) (R_base ho0) hb)
     have n3_ := Aside0.mk (R_elder' (by (with_reducible repeat (first | apply R_alloc | apply R_drewN | apply R_drew)); exact HO392.out) (R_base ho0) hb)
     have n4_ := Aside0.mk (R_lower (R_newB (R_newB (R_new' (R_new' (R_new' (R_new' ho0 (R_lt (by (with_reducible repeat (first | apply R_alloc | apply R_drewN | apply R_drew)); exact HO382.out))) (R_lt (by (with_reducible repeat (first | apply R_alloc | apply R_drewN | apply R_drew)); exact HO385.out))) (R_lt (by (with_reducible repeat (first | apply R_alloc | apply R_drewN | apply R_drew)); exact HO388.out))) (R_lt (by (with_reducible repeat (first | apply R_alloc | apply R_drewN | apply R_drew)); exact HO392.out))) (g := gb363) (o := .cells #[.string a1_0, .string a1_1, .int .i64 a1_2, .int .i64 a1_3, .int .i64 a1_4] 26 (0, 0)) (by (with_reducible repeat (first | refine blk_drewN ?_ _ | refine blk_drew ?_ | refine blk_alloc ?_ _)); exact BK363.out)) (g := gb364) (o := .cells #[.string a2_0, .string a2_1, .int .i64 a2_2, .int .i64 a2_3, .int .i64 a2_4] 26 (0, 0)) (by (with_reducible repeat (first | refine blk_drewN ?_ _ | refine blk_drew ?_ | refine blk_alloc ?_ _)); exact BK364.out)) (below_size (by repeat (first | (with_reducible first | exact HB.out | apply below_alloc | apply pw_below_drewN | apply below_drew1 | refine below_set ?_ GE363.out | refine below_set ?_ GE364.out) | exact HB.out))))
     have n5_ := Aside0.mk (blk_below (g := gb363) (o := .cells #[.string a1_0, .string a1_1, .int .i64 a1_2, .int .i64 a1_3, .int .i64 a1_4] 26 (0, 0)) (by (with_reducible repeat (first | refine blk_drewN ?_ _ | refine blk_drew ?_ | refine blk_alloc ?_ _)); exact BK363.out) hb)
     have n6_ := Aside0.mk (blk_below (g := gb364) (o := .cells #[.string a2_0, .string a2_1, .int .i64 a2_2, .int .i64 a2_3, .int .i64 a2_4] 26 (0, 0)) (by (with_reducible repeat (first | refine blk_drewN ?_ _ | refine blk_drew ?_ | refine blk_alloc ?_ _)); exact BK364.out) hb)
     have n7_ := Aside0.mk (below_step (by repeat (first | (with_reducible first | exact HB.out | apply below_alloc | apply pw_below_drewN | apply below_drew1 | refine below_set ?_ GE363.out | refine below_set ?_ GE364.out) | exact HB.out)) hb)
     clear HO382
     clear HO385
     clear HO388
     clear HO392
     clear BK363
     clear BK364
     clear HB
     have HO382 := n0_
     have HO385 := n1_
     have HO388 := n2_
     have HO392 := n3_
     have HO396 := n4_
     have BK363 := n5_
     have BK364 := n6_
     have HB := n7_
     clear n0_ n1_ n2_ n3_ n4_ n5_ n6_ n7_
     (try clear hb)
     (try clear hb2)
     (try clear hk)
     (try clear hi)
     (try clear ho0)
     refine hK.out _ _ ⟨(blk_cell BK364.out 0).trans rfl, (blk_cell BK364.out 1).trans rfl, (blk_cell BK364.out 2).trans rfl, (blk_cell BK364.out 3).trans rfl, (blk_cell BK364.out 4).trans rfl⟩ (fun hHeld => ?_)
     clear hK K
     refine norm_ (a' := ?_) ?_ ?_
     rotate_left
     ·show Act.put _ (some 69) _ = _
      simp only [Act.put, List.setIfInBounds_toArray, List.set_cons_zero, List.set_cons_succ, i64_w, i32_w]
      rfl
     refine one_ (i := 5) (N := some 72) #[true,true,true,true,true,true,false,false] rfl rfl (one_of HT_.out (by kernel_rfl)) (by decide) (fun K hK => ?_)
     refine goes_ Try.func24 (by kernel_rfl) rfl #[.slice Ao129 t380.length co129, .agg #[.string a2_0, .string a2_1, .int .i64 a2_2, .int .i64 a2_3, .int .i64 a2_4]] (by rfl) rfl rfl (by (try simp only [List.map_toArray, List.map_cons, List.map_nil]); first | done | rfl | (simp only [List.length_drop, List.length_take]; rfl)) ?_
     with_reducible refine (reg_Put.calls kj6 _ _ t380 a2_0 a2_1 a2_2 a2_3 a2_4 t397 _ ?side1 ?side2 A53.out).mono ?_
     (case side1 => repeat (first | exact (R_reads' HO382.out).2.2 | (with_reducible refine Kd.C_alloc ?_ _) | (with_reducible refine Kd.C_drewN ?_ _) | (with_reducible refine Kd.C_drew ?_)))
     (case side2 => exact (R_reads' HO382.out).2.1)
     rintro e w137 ⟨v398, rfl, ho0, hb⟩
     refine ⟨_, rfl, ?_⟩
     have n0_ := Aside0.mk (R_elder' (by (with_reducible repeat (first | apply R_alloc | apply R_drewN | apply R_drew)); exact HO382.out) (R_base ho0) hb)
     have n1_ := Aside0.mk (R_elder' (by (with_reducible repeat (first | apply R_alloc | apply R_drewN | apply R_drew)); exact HO385.out) (R_base ho0) hb)
     have n2_ := Aside0.mk (R_elder' (by (with_reducible repeat (first | apply R_alloc | apply R_drewN | apply R_drew)); exact HO388.out) (R_base ho0) hb)
     have n3_ := Aside0.mk (R_elder' (by (with_reducible repeat (first | apply R_alloc | apply R_drewN | apply R_drew)); exact HO392.out) (R_base ho0) hb)
     have n4_ := Aside0.mk (R_elder' (by (with_reducible repeat (first | apply R_alloc | apply R_drewN | apply R_drew)); exact HO396.out) (R_base ho0) hb)
     have n5_ := Aside0.mk (R_lower (R_newB (R_newB (R_new' (R_new' (R_new' (R_new' (R_new' ho0 (R_lt (by (with_reducible repeat (first | apply R_alloc | apply R_drewN | apply R_drew)); exact HO382.out))) (R_lt (by (with_reducible repeat (first | apply R_alloc | apply R_drewN | apply R_drew)); exact HO385.out))) (R_lt (by (with_reducible repeat (first | apply R_alloc | apply R_drewN | apply R_drew)); exact HO388.out))) (R_lt (by (with_reducible repeat (first | apply R_alloc | apply R_drewN | apply R_drew)); exact HO392.out))) (R_lt (by (with_reducible repeat (first | apply R_alloc | apply R_drewN | apply R_drew)); exact HO396.out))) (g := gb363) (o := .cells #[.string a1_0, .string a1_1, .int .i64 a1_2, .int .i64 a1_3, .int .i64 a1_4] 26 (0, 0)) (by (with_reducible repeat (first | refine blk_drewN ?_ _ | refine blk_drew ?_ | refine blk_alloc ?_ _)); exact BK363.out)) (g := gb364) (o := .cells #[.string a2_0, .string a2_1, .int .i64 a2_2, .int .i64 a2_3, .int .i64 a2_4] 26 (0, 0)) (by (with_reducible repeat (first | refine blk_drewN ?_ _ | refine blk_drew ?_ | refine blk_alloc ?_ _)); exact BK364.out)) (below_size (by repeat (first | (with_reducible first | exact HB.out | apply below_alloc | apply pw_below_drewN | apply below_drew1 | refine below_set ?_ GE363.out | refine below_set ?_ GE364.out) | exact HB.out))))
     have n6_ := Aside0.mk (blk_below (g := gb363) (o := .cells #[.string a1_0, .string a1_1, .int .i64 a1_2, .int .i64 a1_3, .int .i64 a1_4] 26 (0, 0)) (by (with_reducible repeat (first | refine blk_drewN ?_ _ | refine blk_drew ?_ | refine blk_alloc ?_ _)); exact BK363.out) hb)
     have n7_ := Aside0.mk (blk_below (g := gb364) (o := .cells #[.string a2_0, .string a2_1, .int .i64 a2_2, .int .i64 a2_3, .int .i64 a2_4] 26 (0, 0)) (by (with_reducible repeat (first | refine blk_drewN ?_ _ | refine blk_drew ?_ | refine blk_alloc ?_ _)); exact BK364.out) hb)
     have n8_ := Aside0.mk (below_step (by repeat (first | (with_reducible first | exact HB.out | apply below_alloc | apply pw_below_drewN | apply below_drew1 | refine below_set ?_ GE363.out | refine below_set ?_ GE364.out) | exact HB.out)) hb)
     clear HO382
     clear HO385
     clear HO388
     clear HO392
     clear HO396
     clear BK363
     clear BK364
     clear HB
     have HO382 := n0_
     have HO385 := n1_
     have HO388 := n2_
     have HO392 := n3_
     have HO396 := n4_
     have HO399 := n5_
     have BK363 := n6_
     have BK364 := n7_
     have HB := n8_
     clear n0_ n1_ n2_ n3_ n4_ n5_ n6_ n7_ n8_
     (try clear hb)
     (try clear hb2)
     (try clear hk)
     (try clear hi)
     (try clear ho0)
     obtain ⟨Ao138, co138, eo138⟩ := R_slice HO396.out
     (first | subst eo138 | (injection eo138 with f1_ f2_ f3_; have f4_ := f1_.symm; have f5_ := f3_.symm; clear f1_ f2_ f3_; subst f4_; subst f5_))
     obtain ⟨Ao139, co139, eo139⟩ := R_slice HO399.out
     (first | subst eo139 | (injection eo139 with f1_ f2_ f3_; have f4_ := f1_.symm; have f5_ := f3_.symm; clear f1_ f2_ f3_; subst f4_; subst f5_))
     refine hK.out _ _ ⟨(blk_cell BK364.out 0).trans rfl, (blk_cell BK364.out 1).trans rfl, (blk_cell BK364.out 2).trans rfl, (blk_cell BK364.out 3).trans rfl, (blk_cell BK364.out 4).trans rfl⟩ (fun hHeld => ?_)
     clear hK K
     refine norm_ (a' := ?_) ?_ ?_
     rotate_left
     ·show Act.put _ (some 72) _ = _
      simp only [Act.put, List.setIfInBounds_toArray, List.set_cons_zero, List.set_cons_succ, i64_w, i32_w]
      rfl
     refine one_ (i := 6) (N := some 73) #[true,true,true,true,true,true,true,false] rfl rfl (one_of HT_.out (by kernel_rfl)) (by decide) (fun K hK => ?_)
     refine goes_ Try.func23 (by kernel_rfl) rfl #[.slice Ao138 t394.length co138, .slice Ao139 t397.length co139] (by rfl) rfl rfl (by (try simp only [List.map_toArray, List.map_cons, List.map_nil]); first | done | rfl | (simp only [List.length_drop, List.length_take]; rfl)) ?_
     with_reducible refine (ref07_Same.calls kj6 _ _ t394 _ _ t397 t400 _ ?side1 ?side2 ?side3 ?side4 A54.out).mono ?_
     (case side1 => repeat (first | exact (R_reads' HO396.out).2.2 | (with_reducible refine Kd.C_alloc ?_ _) | (with_reducible refine Kd.C_drewN ?_ _) | (with_reducible refine Kd.C_drew ?_)))
     (case side2 => exact (R_reads' HO396.out).2.1)
     (case side3 => repeat (first | exact (R_reads' HO399.out).2.2 | (with_reducible refine Kd.C_alloc ?_ _) | (with_reducible refine Kd.C_drewN ?_ _) | (with_reducible refine Kd.C_drew ?_)))
     (case side4 => exact (R_reads' HO399.out).2.1)
     rintro e w' ⟨rfl, ⟨nd, rfl⟩⟩
     refine ⟨_, rfl, ?_⟩
     refine hK.out _ _ ⟨(blk_cell BK364.out 0).trans rfl, (blk_cell BK364.out 1).trans rfl, (blk_cell BK364.out 2).trans rfl, (blk_cell BK364.out 3).trans rfl, (blk_cell BK364.out 4).trans rfl⟩ (fun hHeld => ?_)
     clear hK K
     refine norm_ (a' := ?_) ?_ ?_
     rotate_left
     ·show Act.put _ (some 73) _ = _
      simp only [Act.put, List.setIfInBounds_toArray, List.set_cons_zero, List.set_cons_succ, i64_w, i32_w]
      rfl
     refine pure_ (i := 7) (N := some 14) (v := ?_) (a' := ?_) #[true,true,true,true,true,true,true,true] rfl rfl (any_of HT_.out (by kernel_rfl)) (fun _ _ _ h => h) (Or.inl ⟨by rfl, ?_⟩) ?_ ?_
     rotate_left
     ·intro w'
      go_simp
      with_reducible rfl
     rotate_left
     ·simp only [Act.put, List.setIfInBounds_toArray, List.set_cons_zero, List.set_cons_succ, i64_w, i32_w]
      rfl
     refine done_ (done_of HT_.out (by kernel_rfl)) ?_
     try go_wp2
     (try (rw [drewN_self w137]; generalize hq_ : World.drewN w137 _ = w137; have n0_ : Aside0 (Kd.R k26 26 w137 w.heap.size (fun k_ => some k_ ≠ (.slice Ao135 t383.length co135 : Value).ownBlock ∧ some k_ ≠ (.slice Ao131 t386.length co131 : Value).ownBlock ∧ some k_ ≠ (.slice Ao133 t390.length co133 : Value).ownBlock ∧ some k_ ≠ (.slice Ao138 t394.length co138 : Value).ownBlock ∧ some k_ ≠ (.slice Ao139 t397.length co139 : Value).ownBlock ∧ k_ ≠ gb363 ∧ k_ ≠ gb364) (.slice Ao129 t380.length co129) t380) := ⟨by rw [← hq_]; exact (by (with_reducible repeat (first | apply R_alloc | apply R_drewN | apply R_drew)); exact R_mono HO382.out (fun _ hk => by simp only [ne_eq, hk, not_false_eq_true, and_self]))⟩; have n1_ : Aside0 (Kd.R k26 26 w137 w.heap.size (fun k_ => some k_ ≠ (.slice Ao129 t380.length co129 : Value).ownBlock ∧ some k_ ≠ (.slice Ao131 t386.length co131 : Value).ownBlock ∧ some k_ ≠ (.slice Ao133 t390.length co133 : Value).ownBlock ∧ some k_ ≠ (.slice Ao138 t394.length co138 : Value).ownBlock ∧ some k_ ≠ (.slice Ao139 t397.length co139 : Value).ownBlock ∧ k_ ≠ gb363 ∧ k_ ≠ gb364) (.slice Ao135 t383.length co135) t383) := ⟨by rw [← hq_]; exact (by (with_reducible repeat (first | apply R_alloc | apply R_drewN | apply R_drew)); exact R_mono HO385.out (fun _ hk => by simp only [ne_eq, hk, not_false_eq_true, and_self]))⟩; have n2_ : Aside0 (Kd.R k26 26 w137 w.heap.size (fun k_ => some k_ ≠ (.slice Ao129 t380.length co129 : Value).ownBlock ∧ some k_ ≠ (.slice Ao135 t383.length co135 : Value).ownBlock ∧ some k_ ≠ (.slice Ao133 t390.length co133 : Value).ownBlock ∧ some k_ ≠ (.slice Ao138 t394.length co138 : Value).ownBlock ∧ some k_ ≠ (.slice Ao139 t397.length co139 : Value).ownBlock ∧ k_ ≠ gb363 ∧ k_ ≠ gb364) (.slice Ao131 t386.length co131) t386) := ⟨by rw [← hq_]; exact (by (with_reducible repeat (first | apply R_alloc | apply R_drewN | apply R_drew)); exact R_mono HO388.out (fun _ hk => by simp only [ne_eq, hk, not_false_eq_true, and_self]))⟩; have n3_ : Aside0 (Kd.R k26 26 w137 w.heap.size (fun k_ => some k_ ≠ (.slice Ao129 t380.length co129 : Value).ownBlock ∧ some k_ ≠ (.slice Ao135 t383.length co135 : Value).ownBlock ∧ some k_ ≠ (.slice Ao131 t386.length co131 : Value).ownBlock ∧ some k_ ≠ (.slice Ao138 t394.length co138 : Value).ownBlock ∧ some k_ ≠ (.slice Ao139 t397.length co139 : Value).ownBlock ∧ k_ ≠ gb363 ∧ k_ ≠ gb364) (.slice Ao133 t390.length co133) t390) := ⟨by rw [← hq_]; exact (by (with_reducible repeat (first | apply R_alloc | apply R_drewN | apply R_drew)); exact R_mono HO392.out (fun _ hk => by simp only [ne_eq, hk, not_false_eq_true, and_self]))⟩; have n4_ : Aside0 (Kd.R k26 26 w137 w.heap.size (fun k_ => some k_ ≠ (.slice Ao129 t380.length co129 : Value).ownBlock ∧ some k_ ≠ (.slice Ao135 t383.length co135 : Value).ownBlock ∧ some k_ ≠ (.slice Ao131 t386.length co131 : Value).ownBlock ∧ some k_ ≠ (.slice Ao133 t390.length co133 : Value).ownBlock ∧ some k_ ≠ (.slice Ao139 t397.length co139 : Value).ownBlock ∧ k_ ≠ gb363 ∧ k_ ≠ gb364) (.slice Ao138 t394.length co138) t394) := ⟨by rw [← hq_]; exact (by (with_reducible repeat (first | apply R_alloc | apply R_drewN | apply R_drew)); exact R_mono HO396.out (fun _ hk => by simp only [ne_eq, hk, not_false_eq_true, and_self]))⟩; have n5_ : Aside0 (Kd.R k26 26 w137 w.heap.size (fun k_ => some k_ ≠ (.slice Ao129 t380.length co129 : Value).ownBlock ∧ some k_ ≠ (.slice Ao135 t383.length co135 : Value).ownBlock ∧ some k_ ≠ (.slice Ao131 t386.length co131 : Value).ownBlock ∧ some k_ ≠ (.slice Ao133 t390.length co133 : Value).ownBlock ∧ some k_ ≠ (.slice Ao138 t394.length co138 : Value).ownBlock ∧ k_ ≠ gb363 ∧ k_ ≠ gb364) (.slice Ao139 t397.length co139) t397) := ⟨by rw [← hq_]; exact (by (with_reducible repeat (first | apply R_alloc | apply R_drewN | apply R_drew)); exact R_mono HO399.out (fun _ hk => by simp only [ne_eq, hk, not_false_eq_true, and_self]))⟩; have n6_ : Aside0 (w137.heap[gb363]? = some (.cells #[.string a1_0, .string a1_1, .int .i64 a1_2, .int .i64 a1_3, .int .i64 a1_4] 26 (0, 0))) := ⟨by rw [← hq_]; exact (by (with_reducible repeat (first | refine blk_drewN ?_ _ | refine blk_drew ?_ | refine blk_alloc ?_ _)); exact BK363.out)⟩; have n7_ : Aside0 (w137.heap[gb364]? = some (.cells #[.string a2_0, .string a2_1, .int .i64 a2_2, .int .i64 a2_3, .int .i64 a2_4] 26 (0, 0))) := ⟨by rw [← hq_]; exact (by (with_reducible repeat (first | refine blk_drewN ?_ _ | refine blk_drew ?_ | refine blk_alloc ?_ _)); exact BK364.out)⟩; have n8_ : Aside0 (Below w.heap.size w w137) := ⟨by rw [← hq_]; exact (by repeat (first | (with_reducible first | exact HB.out | apply below_alloc | apply pw_below_drewN | apply below_drew1 | refine below_set ?_ GE363.out | refine below_set ?_ GE364.out) | exact HB.out))⟩; clear HO382 HO385 HO388 HO392 HO396 HO399 BK363 BK364 HB hq_; have HO382 := n0_; have HO385 := n1_; have HO388 := n2_; have HO392 := n3_; have HO396 := n4_; have HO399 := n5_; have BK363 := n6_; have BK364 := n7_; have HB := n8_; clear n0_ n1_ n2_ n3_ n4_ n5_ n6_ n7_ n8_))
     have n0_ := Aside0.mk (R_drew HO382.out)
     have n1_ := Aside0.mk (R_drew HO385.out)
     have n2_ := Aside0.mk (R_drew HO388.out)
     have n3_ := Aside0.mk (R_drew HO392.out)
     have n4_ := Aside0.mk (R_drew HO396.out)
     have n5_ := Aside0.mk (R_drew HO399.out)
     have n6_ := Aside0.mk (blk_drew BK363.out)
     have n7_ := Aside0.mk (blk_drew BK364.out)
     have n8_ := Aside0.mk (below_drew1 HB.out)
     clear HO382
     clear HO385
     clear HO388
     clear HO392
     clear HO396
     clear HO399
     clear BK363
     clear BK364
     clear HB
     have HO382 := n0_
     have HO385 := n1_
     have HO388 := n2_
     have HO392 := n3_
     have HO396 := n4_
     have HO399 := n5_
     have BK363 := n6_
     have BK364 := n7_
     have HB := n8_
     clear n0_ n1_ n2_ n3_ n4_ n5_ n6_ n7_ n8_
     refine start_ (n := 8) (S := fun w' => w'.cell? ⟨gb363, 0, none⟩ = some (.string a1_0) ∧ w'.cell? ⟨gb363, 1, none⟩ = some (.string a1_1) ∧ w'.cell? ⟨gb363, 2, none⟩ = some (.int .i64 a1_2) ∧ w'.cell? ⟨gb363, 3, none⟩ = some (.int .i64 a1_3) ∧ w'.cell? ⟨gb363, 4, none⟩ = some (.int .i64 a1_4)) (ds := []) #[false,false,false,false,false,false,false,false] (by kernel_rfl) rfl rfl ⟨(blk_cell BK363.out 0).trans rfl, (blk_cell BK363.out 1).trans rfl, (blk_cell BK363.out 2).trans rfl, (blk_cell BK363.out 3).trans rfl, (blk_cell BK363.out 4).trans rfl⟩ (fun hHeld => ?_); refine with_tabW law07_RegOld.tab11 law07_RegOld.bits11 (fun HT_ HW_ => ?_)
     generalize w137.drew = w140 at HO382 HO385 HO388 HO392 HO396 HO399 BK363 BK364 HB hHeld ⊢
     refine pure_ (i := 0) (N := some 74) (v := ?_) (a' := ?_) #[true,false,false,false,false,false,false,false] rfl rfl (any_of HT_.out (by kernel_rfl)) (fun _ _ _ h => h) (Or.inl ⟨by rfl, ?_⟩) ?_ ?_
     rotate_left
     ·intro w'
      go_simp
      with_reducible rfl
     rotate_left
     ·simp only [Act.put, List.setIfInBounds_toArray, List.set_cons_zero, List.set_cons_succ, i64_w, i32_w]
      rfl
     refine pure_ (i := 1) (N := some 75) (v := ?_) (a' := ?_) #[true,true,false,false,false,false,false,false] rfl rfl (any_of HT_.out (by kernel_rfl)) (fun _ _ _ h => h) (Or.inl ⟨by rfl, ?_⟩) ?_ ?_
     rotate_left
     ·intro w'
      go_simp
      with_reducible rfl
     rotate_left
     ·simp only [Act.put, List.setIfInBounds_toArray, List.set_cons_zero, List.set_cons_succ, i64_w, i32_w]
      rfl
     refine pure_ (i := 3) (N := some 77) (v := ?_) (a' := ?_) #[true,true,false,true,false,false,false,false] rfl rfl (any_of HT_.out (by kernel_rfl)) (fun _ _ _ h => h) (Or.inl ⟨by rfl, ?_⟩) ?_ ?_
     rotate_left
     ·intro w'
      go_simp
      with_reducible rfl
     rotate_left
     ·simp only [Act.put, List.setIfInBounds_toArray, List.set_cons_zero, List.set_cons_succ, i64_w, i32_w]
      rfl
     refine take_ (i := 4) (N := some 78) (v := ?_) (a' := ?_) #[true,true,false,true,true,false,false,false] rfl rfl (take_ofW HT_.out HW_.out (by kernel_rfl)) (fun _ _ _ h => h) (Or.inl ⟨by rfl, ?_⟩) hHeld ?_ ?_
     rotate_left
     ·rintro w' ⟨s0, s1, s2, s3, s4⟩
      go_simp
      with_reducible rfl
     rotate_left
     ·simp only [Act.put, List.setIfInBounds_toArray, List.set_cons_zero, List.set_cons_succ, i64_w, i32_w]
      rfl
     refine one_ (i := 2) (N := some 76) #[true,true,true,true,true,false,false,false] rfl rfl (one_of HT_.out (by kernel_rfl)) (by decide) (fun K hK => ?_)
     refine goes_ Try.func26 (by kernel_rfl) rfl #[.slice Ao129 t380.length co129, .slice Ao135 t383.length co135] (by rfl) rfl rfl (by (try simp only [List.map_toArray, List.map_cons, List.map_nil]); first | done | rfl | (simp only [List.length_drop, List.length_take]; rfl)) ?_
     with_reducible refine (reg_Merge.calls kj6 _ _ t380 _ _ t383 t401 _ ?side1 ?side2 ?side3 ?side4 A55.out).mono ?_
     (case side1 => repeat (first | exact (R_reads' HO382.out).2.2 | (with_reducible refine Kd.C_alloc ?_ _) | (with_reducible refine Kd.C_drewN ?_ _) | (with_reducible refine Kd.C_drew ?_)))
     (case side2 => exact (R_reads' HO382.out).2.1)
     (case side3 => repeat (first | exact (R_reads' HO385.out).2.2 | (with_reducible refine Kd.C_alloc ?_ _) | (with_reducible refine Kd.C_drewN ?_ _) | (with_reducible refine Kd.C_drew ?_)))
     (case side4 => exact (R_reads' HO385.out).2.1)
     rintro e w141 ⟨v402, rfl, ho0, hb⟩
     refine ⟨_, rfl, ?_⟩
     have n0_ := Aside0.mk (R_elder' (by (with_reducible repeat (first | apply R_alloc | apply R_drewN | apply R_drew)); exact HO382.out) (R_base ho0) hb)
     have n1_ := Aside0.mk (R_elder' (by (with_reducible repeat (first | apply R_alloc | apply R_drewN | apply R_drew)); exact HO385.out) (R_base ho0) hb)
     have n2_ := Aside0.mk (R_elder' (by (with_reducible repeat (first | apply R_alloc | apply R_drewN | apply R_drew)); exact HO388.out) (R_base ho0) hb)
     have n3_ := Aside0.mk (R_elder' (by (with_reducible repeat (first | apply R_alloc | apply R_drewN | apply R_drew)); exact HO392.out) (R_base ho0) hb)
     have n4_ := Aside0.mk (R_elder' (by (with_reducible repeat (first | apply R_alloc | apply R_drewN | apply R_drew)); exact HO396.out) (R_base ho0) hb)
     have n5_ := Aside0.mk (R_elder' (by (with_reducible repeat (first | apply R_alloc | apply R_drewN | apply R_drew)); exact HO399.out) (R_base ho0) hb)
     have n6_ := Aside0.mk (R_lower (R_newB (R_newB (R_new' (R_new' (R_new' (R_new' (R_new' (R_new' ho0 (R_lt (by (with_reducible repeat (first | apply R_alloc | apply R_drewN | apply R_drew)); exact HO382.out))) (R_lt (by (with_reducible repeat (first | apply R_alloc | apply R_drewN | apply R_drew)); exact HO385.out))) (R_lt (by (with_reducible repeat (first | apply R_alloc | apply R_drewN | apply R_drew)); exact HO388.out))) (R_lt (by (with_reducible repeat (first | apply R_alloc | apply R_drewN | apply R_drew)); exact HO392.out))) (R_lt (by (with_reducible repeat (first | apply R_alloc | apply R_drewN | apply R_drew)); exact HO396.out))) (R_lt (by (with_reducible repeat (first | apply R_alloc | apply R_drewN | apply R_drew)); exact HO399.out))) (g := gb363) (o := .cells #[.string a1_0, .string a1_1, .int .i64 a1_2, .int .i64 a1_3, .int .i64 a1_4] 26 (0, 0)) (by (with_reducible repeat (first | refine blk_drewN ?_ _ | refine blk_drew ?_ | refine blk_alloc ?_ _)); exact BK363.out)) (g := gb364) (o := .cells #[.string a2_0, .string a2_1, .int .i64 a2_2, .int .i64 a2_3, .int .i64 a2_4] 26 (0, 0)) (by (with_reducible repeat (first | refine blk_drewN ?_ _ | refine blk_drew ?_ | refine blk_alloc ?_ _)); exact BK364.out)) (below_size (by repeat (first | (with_reducible first | exact HB.out | apply below_alloc | apply pw_below_drewN | apply below_drew1 | refine below_set ?_ GE363.out | refine below_set ?_ GE364.out) | exact HB.out))))
     have n7_ := Aside0.mk (blk_below (g := gb363) (o := .cells #[.string a1_0, .string a1_1, .int .i64 a1_2, .int .i64 a1_3, .int .i64 a1_4] 26 (0, 0)) (by (with_reducible repeat (first | refine blk_drewN ?_ _ | refine blk_drew ?_ | refine blk_alloc ?_ _)); exact BK363.out) hb)
     have n8_ := Aside0.mk (blk_below (g := gb364) (o := .cells #[.string a2_0, .string a2_1, .int .i64 a2_2, .int .i64 a2_3, .int .i64 a2_4] 26 (0, 0)) (by (with_reducible repeat (first | refine blk_drewN ?_ _ | refine blk_drew ?_ | refine blk_alloc ?_ _)); exact BK364.out) hb)
     have n9_ := Aside0.mk (below_step (by repeat (first | (with_reducible first | exact HB.out | apply below_alloc | apply pw_below_drewN | apply below_drew1 | refine below_set ?_ GE363.out | refine below_set ?_ GE364.out) | exact HB.out)) hb)
     clear HO382
     clear HO385
     clear HO388
     clear HO392
     clear HO396
     clear HO399
     clear BK363
     clear BK364
     clear HB
     have HO382 := n0_
     have HO385 := n1_
     have HO388 := n2_
     have HO392 := n3_
     have HO396 := n4_
     have HO399 := n5_
     have HO403 := n6_
     have BK363 := n7_
     have BK364 := n8_
     have HB := n9_
     clear n0_ n1_ n2_ n3_ n4_ n5_ n6_ n7_ n8_ n9_
     (try clear hb)
     (try clear hb2)
     (try clear hk)
     (try clear hi)
     (try clear ho0)
     refine hK.out _ _ ⟨(blk_cell BK363.out 0).trans rfl, (blk_cell BK363.out 1).trans rfl, (blk_cell BK363.out 2).trans rfl, (blk_cell BK363.out 3).trans rfl, (blk_cell BK363.out 4).trans rfl⟩ (fun hHeld => ?_)
     clear hK K
     refine norm_ (a' := ?_) ?_ ?_
     rotate_left
     ·show Act.put _ (some 76) _ = _
      simp only [Act.put, List.setIfInBounds_toArray, List.set_cons_zero, List.set_cons_succ, i64_w, i32_w]
      rfl
     refine one_ (i := 5) (N := some 79) #[true,true,true,true,true,true,false,false] rfl rfl (one_of HT_.out (by kernel_rfl)) (by decide) (fun K hK => ?_)
     refine goes_ Try.func24 (by kernel_rfl) rfl #[.slice Ao135 t383.length co135, .agg #[.string a1_0, .string a1_1, .int .i64 a1_2, .int .i64 a1_3, .int .i64 a1_4]] (by rfl) rfl rfl (by (try simp only [List.map_toArray, List.map_cons, List.map_nil]); first | done | rfl | (simp only [List.length_drop, List.length_take]; rfl)) ?_
     with_reducible refine (reg_Put.calls kj6 _ _ t383 a1_0 a1_1 a1_2 a1_3 a1_4 t404 _ ?side1 ?side2 A56.out).mono ?_
     (case side1 => repeat (first | exact (R_reads' HO385.out).2.2 | (with_reducible refine Kd.C_alloc ?_ _) | (with_reducible refine Kd.C_drewN ?_ _) | (with_reducible refine Kd.C_drew ?_)))
     (case side2 => exact (R_reads' HO385.out).2.1)
     rintro e w142 ⟨v405, rfl, ho0, hb⟩
     refine ⟨_, rfl, ?_⟩
     have n0_ := Aside0.mk (R_elder' (by (with_reducible repeat (first | apply R_alloc | apply R_drewN | apply R_drew)); exact HO382.out) (R_base ho0) hb)
     have n1_ := Aside0.mk (R_elder' (by (with_reducible repeat (first | apply R_alloc | apply R_drewN | apply R_drew)); exact HO385.out) (R_base ho0) hb)
     have n2_ := Aside0.mk (R_elder' (by (with_reducible repeat (first | apply R_alloc | apply R_drewN | apply R_drew)); exact HO388.out) (R_base ho0) hb)
     have n3_ := Aside0.mk (R_elder' (by (with_reducible repeat (first | apply R_alloc | apply R_drewN | apply R_drew)); exact HO392.out) (R_base ho0) hb)
     have n4_ := Aside0.mk (R_elder' (by (with_reducible repeat (first | apply R_alloc | apply R_drewN | apply R_drew)); exact HO396.out) (R_base ho0) hb)
     have n5_ := Aside0.mk (R_elder' (by (with_reducible repeat (first | apply R_alloc | apply R_drewN | apply R_drew)); exact HO399.out) (R_base ho0) hb)
     have n6_ := Aside0.mk (R_elder' (by (with_reducible repeat (first | apply R_alloc | apply R_drewN | apply R_drew)); exact HO403.out) (R_base ho0) hb)
     have n7_ := Aside0.mk (R_lower (R_newB (R_newB (R_new' (R_new' (R_new' (R_new' (R_new' (R_new' (R_new' ho0 (R_lt (by (with_reducible repeat (first | apply R_alloc | apply R_drewN | apply R_drew)); exact HO382.out))) (R_lt (by (with_reducible repeat (first | apply R_alloc | apply R_drewN | apply R_drew)); exact HO385.out))) (R_lt (by (with_reducible repeat (first | apply R_alloc | apply R_drewN | apply R_drew)); exact HO388.out))) (R_lt (by (with_reducible repeat (first | apply R_alloc | apply R_drewN | apply R_drew)); exact HO392.out))) (R_lt (by (with_reducible repeat (first | apply R_alloc | apply R_drewN | apply R_drew)); exact HO396.out))) (R_lt (by (with_reducible repeat (first | apply R_alloc | apply R_drewN | apply R_drew)); exact HO399.out))) (R_lt (by (with_reducible repeat (first | apply R_alloc | apply R_drewN | apply R_drew)); exact HO403.out))) (g := gb363) (o := .cells #[.string a1_0, .string a1_1, .int .i64 a1_2, .int .i64 a1_3, .int .i64 a1_4] 26 (0, 0)) (by (with_reducible repeat (first | refine blk_drewN ?_ _ | refine blk_drew ?_ | refine blk_alloc ?_ _)); exact BK363.out)) (g := gb364) (o := .cells #[.string a2_0, .string a2_1, .int .i64 a2_2, .int .i64 a2_3, .int .i64 a2_4] 26 (0, 0)) (by (with_reducible repeat (first | refine blk_drewN ?_ _ | refine blk_drew ?_ | refine blk_alloc ?_ _)); exact BK364.out)) (below_size (by repeat (first | (with_reducible first | exact HB.out | apply below_alloc | apply pw_below_drewN | apply below_drew1 | refine below_set ?_ GE363.out | refine below_set ?_ GE364.out) | exact HB.out))))
     have n8_ := Aside0.mk (blk_below (g := gb363) (o := .cells #[.string a1_0, .string a1_1, .int .i64 a1_2, .int .i64 a1_3, .int .i64 a1_4] 26 (0, 0)) (by (with_reducible repeat (first | refine blk_drewN ?_ _ | refine blk_drew ?_ | refine blk_alloc ?_ _)); exact BK363.out) hb)
     have n9_ := Aside0.mk (blk_below (g := gb364) (o := .cells #[.string a2_0, .string a2_1, .int .i64 a2_2, .int .i64 a2_3, .int .i64 a2_4] 26 (0, 0)) (by (with_reducible repeat (first | refine blk_drewN ?_ _ | refine blk_drew ?_ | refine blk_alloc ?_ _)); exact BK364.out) hb)
     have n10_ := Aside0.mk (below_step (by repeat (first | (with_reducible first | exact HB.out | apply below_alloc | apply pw_below_drewN | apply below_drew1 | refine below_set ?_ GE363.out | refine below_set ?_ GE364.out) | exact HB.out)) hb)
     clear HO382
     clear HO385
     clear HO388
     clear HO392
     clear HO396
     clear HO399
     clear HO403
     clear BK363
     clear BK364
     clear HB
     have HO382 := n0_
     have HO385 := n1_
     have HO388 := n2_
     have HO392 := n3_
     have HO396 := n4_
     have HO399 := n5_
     have HO403 := n6_
     have HO406 := n7_
     have BK363 := n8_
     have BK364 := n9_
     have HB := n10_
     clear n0_ n1_ n2_ n3_ n4_ n5_ n6_ n7_ n8_ n9_ n10_
     (try clear hb)
     (try clear hb2)
     (try clear hk)
     (try clear hi)
     (try clear ho0)
     obtain ⟨Ao143, co143, eo143⟩ := R_slice HO403.out
     (first | subst eo143 | (injection eo143 with f1_ f2_ f3_; have f4_ := f1_.symm; have f5_ := f3_.symm; clear f1_ f2_ f3_; subst f4_; subst f5_))
     obtain ⟨Ao144, co144, eo144⟩ := R_slice HO406.out
     (first | subst eo144 | (injection eo144 with f1_ f2_ f3_; have f4_ := f1_.symm; have f5_ := f3_.symm; clear f1_ f2_ f3_; subst f4_; subst f5_))
     refine hK.out _ _ ⟨(blk_cell BK363.out 0).trans rfl, (blk_cell BK363.out 1).trans rfl, (blk_cell BK363.out 2).trans rfl, (blk_cell BK363.out 3).trans rfl, (blk_cell BK363.out 4).trans rfl⟩ (fun hHeld => ?_)
     clear hK K
     refine norm_ (a' := ?_) ?_ ?_
     rotate_left
     ·show Act.put _ (some 79) _ = _
      simp only [Act.put, List.setIfInBounds_toArray, List.set_cons_zero, List.set_cons_succ, i64_w, i32_w]
      rfl
     refine one_ (i := 6) (N := some 80) #[true,true,true,true,true,true,true,false] rfl rfl (one_of HT_.out (by kernel_rfl)) (by decide) (fun K hK => ?_)
     refine goes_ Try.func23 (by kernel_rfl) rfl #[.slice Ao143 t401.length co143, .slice Ao144 t404.length co144] (by rfl) rfl rfl (by (try simp only [List.map_toArray, List.map_cons, List.map_nil]); first | done | rfl | (simp only [List.length_drop, List.length_take]; rfl)) ?_
     with_reducible refine (ref07_Same.calls kj6 _ _ t401 _ _ t404 t407 _ ?side1 ?side2 ?side3 ?side4 A57.out).mono ?_
     (case side1 => repeat (first | exact (R_reads' HO403.out).2.2 | (with_reducible refine Kd.C_alloc ?_ _) | (with_reducible refine Kd.C_drewN ?_ _) | (with_reducible refine Kd.C_drew ?_)))
     (case side2 => exact (R_reads' HO403.out).2.1)
     (case side3 => repeat (first | exact (R_reads' HO406.out).2.2 | (with_reducible refine Kd.C_alloc ?_ _) | (with_reducible refine Kd.C_drewN ?_ _) | (with_reducible refine Kd.C_drew ?_)))
     (case side4 => exact (R_reads' HO406.out).2.1)
     rintro e w' ⟨rfl, ⟨nd, rfl⟩⟩
     refine ⟨_, rfl, ?_⟩
     refine hK.out _ _ ⟨(blk_cell BK363.out 0).trans rfl, (blk_cell BK363.out 1).trans rfl, (blk_cell BK363.out 2).trans rfl, (blk_cell BK363.out 3).trans rfl, (blk_cell BK363.out 4).trans rfl⟩ (fun hHeld => ?_)
     clear hK K
     refine norm_ (a' := ?_) ?_ ?_
     rotate_left
     ·show Act.put _ (some 80) _ = _
      simp only [Act.put, List.setIfInBounds_toArray, List.set_cons_zero, List.set_cons_succ, i64_w, i32_w]
      rfl
     refine pure_ (i := 7) (N := some 15) (v := ?_) (a' := ?_) #[true,true,true,true,true,true,true,true] rfl rfl (any_of HT_.out (by kernel_rfl)) (fun _ _ _ h => h) (Or.inl ⟨by rfl, ?_⟩) ?_ ?_
     rotate_left
     ·intro w'
      go_simp
      with_reducible rfl
     rotate_left
     ·simp only [Act.put, List.setIfInBounds_toArray, List.set_cons_zero, List.set_cons_succ, i64_w, i32_w]
      rfl
     refine done_ (done_of HT_.out (by kernel_rfl)) ?_
     try go_wp2
     go_ret
     exact ⟨by first | rfl | (simp [errW_none, errW_some] <;> rfl) | (simp [*, errW_none, errW_some] <;> rfl), by repeat (first | (with_reducible first | exact HB.out | apply below_alloc | apply pw_below_drewN | apply below_drew1 | refine below_set ?_ GE363.out | refine below_set ?_ GE364.out) | exact HB.out)⟩

end Go.Proofs.Ytannmdngejdjkaa.L
