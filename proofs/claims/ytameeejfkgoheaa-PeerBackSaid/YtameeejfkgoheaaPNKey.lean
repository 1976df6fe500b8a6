/- Ids as keys: what reads as one. Plain. -/
import Derived.Test.YtameeejfkgoheaaPIStep
import Derived.Maps.RangeWalk
import Derived.DeepKeys5
import Derived.WideKeyEntry
import Derived.WideKeyArr
import Derived.Deep.Slices
namespace Go.Proofs.Ytameeejfkgoheaa.P
open Go.RowKit Go.Maps Go.Proofs.YtameeejfkgoheaaW.PrintWords Go.Proofs.YtameeejfkgoheaaW.PrintLast Go.Proofs.YtameeejfkgoheaaW.PrintMore Go.Proofs.YtameeejfkgoheaaW
set_option linter.unusedVariables false
set_option linter.unusedSimpArgs false
def litI (b : UInt8) : Lit := .int .u8 (b.toNat : Int)
theorem litI_wf (b : UInt8) : (litI b).wf = true := by
  have := b.toNat_lt
  simp only [litI, Lit.wf, Bool.and_eq_true, decide_eq_true_eq]
  simp [IntKind.min, IntKind.max, IntKind.signed, IntKind.bits]
  omega
theorem litI_bytes (b : UInt8) : (litI b).keyBytes = [b] := by
  have := b.toNat_lt
  simp only [litI, Lit.keyBytes]
  have e : ((b.toNat : Int) % 2 ^ IntKind.u8.bits).toNat = b.toNat := by simp [IntKind.bits]; omega
  rw [e]
  show (bytesLE 1 b.toNat).reverse = [b]
  simp [bytesLE, Nat.mod_eq_of_lt this]
theorem keyBytes_I : ∀ x : Id, keyBytes (x.map litI) = x
  | [] => rfl
  | b :: x => by
    have ih := keyBytes_I x
    unfold keyBytes at ih ⊢
    rw [List.map_cons, List.flatMap_cons, litI_bytes, ih]
    rfl
theorem laidOutI : laidOutB Try.prog = true := by kernel_rfl
theorem keyTypeI : Try.prog.keyType 71 = true := by kernel_rfl
theorem lawWI : WideMaps.KeyLaw Try.prog 71 := deep_law_gate laidOutI (of_decide_eq_true (by kernel_rfl)) (of_decide_eq_true (by kernel_rfl)) keyTypeI (by rw [Try.underlying71])
theorem lawI : Keyed Try.prog 71 := Keyed.of_law lawWI
theorem cells_ID : Try.prog.cellsOf 71 = 32 := by kernel_rfl
theorem cells_u8 : Try.prog.cellsOf 5 = 1 := by kernel_rfl
theorem lits_cell (n : Nat) (b : UInt8) : Try.prog.keyLits (n + 1) 5 [cellI b] = some [litI b] := by
  have h := litI_wf b
  unfold Program.keyLits
  simp [Try.underlying5, cellI]
  exact ⟨h, rfl⟩
theorem mapM_lits (n : Nat) (x : Id) : ∀ (m : Nat) (L : List Nat), (∀ i ∈ L, i < x.length) → L.mapM (fun i => Try.prog.keyLits (n + 1) 5 (((cellsI x).drop i).take 1)) = some (L.map fun i => [litI (x.getD i 0)])
  | m, [], _ => rfl
  | m, i :: L, h => by
    have hi := h i List.mem_cons_self
    have ih := mapM_lits n x m L (fun j hj => h j (List.mem_cons_of_mem _ hj))
    have e : ((cellsI x).drop i).take 1 = [cellI (x.getD i 0)] := by
      have hl : i < (cellsI x).length := by rw [cellsI_length]; exact hi
      rw [List.drop_eq_getElem_cons hl, List.take_succ_cons, List.take_zero]
      simp [cellsI, List.getD_eq_getElem?_getD, hi]
    simp only [List.mapM_cons, e, lits_cell, ih]
    rfl
theorem lits_I (n : Nat) {x : Id} (h : okId x) : Try.prog.keyLits (n + 2) 71 (cellsI x) = some (x.map litI) := by
  unfold Program.keyLits
  rw [Try.underlying71]
  simp only [cells_ID, cells_u8, cellsI_ok h, if_true, Nat.mul_one]
  rw [mapM_lits n x 0 (List.range 32) (fun i hi => by rw [h]; exact List.mem_range.1 hi)]
  simp only [Option.map_some, Option.some.injEq]
  have e : ((List.range 32).map fun i => [litI (x.getD i 0)]).flatten = (List.range 32).map fun i => litI (x.getD i 0) := by
    generalize List.range 32 = L
    induction L with
    | nil => rfl
    | cons a L ih => rw [List.map_cons, List.flatten_cons, ih]; rfl
  rw [e]
  apply List.ext_getElem?
  intro j
  rw [List.getElem?_map, List.getElem?_map]
  by_cases hj : j < 32
  · have hx : j < x.length := by rw [h]; exact hj
    simp [List.getElem?_range hj, List.getD_eq_getElem?_getD, List.getElem?_eq_getElem hx]
  · rw [List.getElem?_eq_none (by simp; omega), List.getElem?_eq_none (by rw [h]; omega)]
    rfl
set_option maxRecDepth 100000 in
theorem keyOf_I {x : Id} (h : okId x) : keyOf Try.prog 71 (valI x) = some (.string x) := by
  have hf : (valI x).formed Try.prog 71 = true := by
    simp only [valI, Value.formed, Try.underlying71, cells_ID]
    have : (arrI x).size = 32 := by unfold arrI; rw [List.size_toArray]; exact cellsI_ok h
    simp [this]
  obtain ⟨n, hn⟩ : ∃ n, Try.prog.types.size = n + 1 := ⟨Try.prog.types.size - 1, by kernel_rfl⟩
  have hl := lits_I n h
  unfold keyOf
  rw [Try.underlying71, keyTypeI, hf, hn]
  show Option.map _ (Try.prog.keyLits (n + 2) 71 (cellsI x)) = _
  rw [hl]
  show some (Lit.string (keyBytes (x.map litI))) = _
  rw [keyBytes_I]
theorem cell_inv (n : Nat) {c : List Value} {ls : List Lit} (h : Try.prog.keyLits n 5 c = some ls) : ∃ b : UInt8, c = [cellI b] := by
  obtain ⟨m, rfl, rfl⟩ := keyLits_int' Try.underlying5 h
  have hw := keyLits_wf h _ List.mem_cons_self
  have hw : (Lit.int .u8 m).wf = true := hw
  simp only [Lit.wf, Bool.and_eq_true, decide_eq_true_eq] at hw
  simp [IntKind.min, IntKind.max, IntKind.signed, IntKind.bits] at hw
  refine ⟨UInt8.ofNat m.toNat, ?_⟩
  simp only [cellI, List.cons.injEq, and_true, Value.int.injEq, true_and]
  rw [UInt8.toNat_ofNat']
  omega
theorem mapM_each {α β : Type} (f : α → Option β) : ∀ (L : List α) (r : List β), L.mapM f = some r → ∀ i ∈ L, ∃ y, f i = some y
  | [], _, _, i, hi => by cases hi
  | a :: L, r, h, i, hi => by
    rw [List.mapM_cons] at h
    cases ha : f a with
    | none => rw [ha] at h; cases h
    | some y =>
      rw [ha] at h
      cases hL : L.mapM f with
      | none => rw [hL] at h; cases h
      | some r' =>
        rcases List.mem_cons.1 hi with rfl | hi
        · exact ⟨y, ha⟩
        · exact mapM_each f L r' hL i hi
theorem cells_inv {cs : List Value} (hl : cs.length = 32) (h : ∀ i, i < 32 → ∃ b : UInt8, (cs.drop i).take 1 = [cellI b]) : ∃ x : Id, okId x ∧ cs = cellsI x := by
  obtain ⟨f, hf⟩ := Deep.choose_lt (α := UInt8) (n := 32) (p := fun i b => (cs.drop i).take 1 = [cellI b]) h
  refine ⟨(List.range 32).map f, by simp [okId], ?_⟩
  apply List.ext_getElem?
  intro j
  by_cases hj : j < 32
  · have h1 := hf j hj
    have hlt : j < cs.length := by omega
    rw [List.drop_eq_getElem_cons hlt, List.take_succ_cons, List.take_zero] at h1
    injection h1 with h1
    rw [List.getElem?_eq_getElem hlt, h1]
    simp [cellsI, List.getElem?_map, List.getElem?_range hj]
  · rw [List.getElem?_eq_none (by omega), List.getElem?_eq_none (by simp [cellsI]; omega)]
set_option maxRecDepth 100000 in
theorem keyOf_inv {v : Value} {kl : Lit} (h : keyOf Try.prog 71 v = some kl) : ∃ x : Id, v = valI x ∧ kl = .string x ∧ okId x := by
  have h' := h
  obtain ⟨n, hn⟩ : ∃ n, Try.prog.types.size = n + 1 := ⟨Try.prog.types.size - 1, by kernel_rfl⟩
  unfold keyOf at h
  rw [Try.underlying71, hn] at h
  simp only [keyTypeI, Bool.true_and] at h
  split at h
  case isFalse => cases h
  case isTrue hf =>
  obtain ⟨ls, hl, _⟩ := Option.map_eq_some_iff.1 h
  unfold Program.keyLits at hl
  rw [Try.underlying71] at hl
  simp only [cells_ID, cells_u8, Nat.mul_one] at hl
  split at hl
  case isFalse => cases hl
  case isTrue hlen =>
  obtain ⟨lss, hm, _⟩ := Option.map_eq_some_iff.1 hl
  obtain ⟨x, hx, he⟩ := cells_inv hlen (fun i hi => by
    obtain ⟨y, hy⟩ := mapM_each _ _ _ hm i (List.mem_range.2 hi)
    exact cell_inv _ hy)
  have hv : v = valI x := by
    cases v <;> simp [Value.formed, Try.underlying71] at hf
    rename_i cs
    have e : cs.toList = cellsI x := he
    show Value.agg cs = .agg (cellsI x).toArray
    rw [← e]
  subst hv
  rw [keyOf_I hx] at h'
  injection h' with h'
  exact ⟨x, rfl, h'.symm, hx⟩
end Go.Proofs.Ytameeejfkgoheaa.P
