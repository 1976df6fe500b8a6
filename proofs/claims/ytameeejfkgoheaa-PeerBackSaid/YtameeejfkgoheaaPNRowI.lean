/- A row's arguments opened: ids by value, and slices of ids. No walk. -/
import Derived.Test.YtameeejfkgoheaaPNKey
import Derived.Test.YtameeejfkgoheaaRows
import Derived.WalkKit
import Derived.ProofKit
import Derived.OpenShut
import Derived.ShutString
import Derived.ChangeOld
import Derived.Below
import Derived.SizedLaws
import Derived.Carry
import Derived.Deep.Slices
import Derived.WideKeyArr2
namespace Go.Proofs.Ytameeejfkgoheaa.P
open Go.RowKit Go.ChangeShapes Go.WideShapes Go.ChangeAt Go.Deep Go.Proofs.YtameeejfkgoheaaW.PrintWords Go.Proofs.YtameeejfkgoheaaW.PrintLast Go.Proofs.YtameeejfkgoheaaW.PrintMore Go.Proofs.YtameeejfkgoheaaW
set_option linter.unusedVariables false
set_option linter.unusedSimpArgs false
section
variable {H : Type} {enc : TypeId × Value → H} {w : World} {base : Nat} {spare : Nat → Bool} {held : Bool}
theorem open_idc {fuel : Nat} {cs : List Value} {x : DataW H × List MemPlace} (h : DataW.trod enc Try.prog w base spare held fuel 71 cs = some x) : ∃ i : Id, okId i ∧ cs = cellsI i := by
  obtain ⟨xs, n, _, _, hl, hlen, hf⟩ := DataW.trod_array Try.underlying71 h
  rw [cells_ID] at hl
  refine cells_inv hl fun i hi => ?_
  have h1 := hf i hi
  rw [cells_u8, Nat.mul_one] at h1
  have hx : i < xs.length := by rw [hlen]; exact hi
  rw [List.getElem?_eq_getElem hx] at h1
  obtain ⟨m, e, _, hw⟩ := DataW.trod_int Try.underlying5 h1
  rw [e]
  simp only [Lit.wf, Bool.and_eq_true, decide_eq_true_eq] at hw
  simp [IntKind.min, IntKind.max, IntKind.signed, IntKind.bits] at hw
  refine ⟨UInt8.ofNat m.toNat, ?_⟩
  simp only [cellI, List.cons.injEq, and_true, Value.int.injEq, true_and]
  rw [UInt8.toNat_ofNat']
  omega
theorem open_id {r : Reach} {b0 : Nat} {v : Value} {d : DataW H} {ps : List MemPlace} (h0 : Value.okWide Try.prog w r b0 71 v) (h : DataW.Trod enc Try.prog w base spare held 71 v d ps) : ∃ i : Id, okId i ∧ v = valI i := by
  have A : WideMaps.ArrKey Try.prog 71 5 32 := ⟨Try.underlying71, by kernel_rfl, cells_u8, cells_ID⟩
  obtain ⟨xs, rfl, _⟩ := WideMaps.okWide_arr A h0
  obtain ⟨fuel, hf⟩ := h
  obtain ⟨i, hi, e⟩ := open_idc hf
  refine ⟨i, hi, ?_⟩
  have e' : xs.toList = cellsI i := e
  show Value.agg xs = .agg (cellsI i).toArray
  rw [← e']
/-- a slice of ids -/
theorem open_ids {A : Option Addr} {len cap : Nat} {dd : DataW H} {ps : List MemPlace} (h : DataW.Trod enc Try.prog w base spare held 58 (.slice A len cap) dd ps) : ∃ xs : List Id, xs.length = len ∧ len ≤ cap ∧ kI.C w A len xs := by
  obtain ⟨fuel, hf⟩ := h
  rcases open_slice Try.underlying58 hf with ⟨hcs, _⟩ | ⟨a, len', cap', m, n, D, Pl, hcs, _, hl, hm, hmm, _, hx⟩
  · simp [Value.cells] at hcs
    obtain ⟨rfl, rfl, rfl⟩ := hcs
    exact ⟨[], rfl, Nat.le_refl _, Kd.C_nil kI w⟩
  · simp [Value.cells] at hcs
    obtain ⟨rfl, rfl, rfl⟩ := hcs
    have hle : len ≤ m := by rw [hmm]; split <;> omega
    obtain ⟨f, hf'⟩ := choose_lt (α := Id) (n := len) (p := fun i a' => ∃ cs', w.cells? base (a.add (i * 32)) 32 = some cs' ∧ kI.K w a' cs') (fun i hi => by
      obtain ⟨cs', h1, h2⟩ := hx i (by omega)
      obtain ⟨a', h3, h4⟩ := open_idc h2
      rw [cells_ID] at h1
      exact ⟨a', cs', h1, h4, h3⟩)
    refine ⟨(List.range len).map f, by simp, hl, ⟨by simp, by unfold maxLen at hm; omega, fun _ => ⟨a, rfl, fun j p hp => ?_⟩⟩⟩
    have hj : j < len := by
      have := (List.getElem?_eq_some_iff.1 hp).1
      simpa using this
    have hp' : f j = p := by
      rw [List.getElem?_map, List.getElem?_range hj] at hp
      simpa using hp
    subst hp'
    obtain ⟨cs', h1, h2⟩ := hf' j hj
    obtain ⟨_, h5, h6⟩ := World.cells?_some h1
    refine ⟨cs', h5, h2, fun i u hu => ?_⟩
    have hi := (List.getElem?_eq_some_iff.1 hu).1
    show w.cell? (a.add (j * 32 + i)) = some u
    rw [← Deep.add_add, h6 i (by omega), hu]
end
end Go.Proofs.Ytameeejfkgoheaa.P
