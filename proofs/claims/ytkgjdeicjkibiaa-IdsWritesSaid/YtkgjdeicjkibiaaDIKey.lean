/- Sets of ids as maps to true: what reads as a key, what a put and a look-up come to. Plain. -/
import Derived.Test.YtkgjdeicjkibiaaDIStep
import Derived.Maps.RangeWalk
import Derived.Maps.Own
import Derived.DeepKeys5
import Derived.WideKeyEntry
import Derived.WideKeyArr
import Derived.Sort.KeysCollected
import Derived.Deep.Slices
namespace Go.Proofs.Ytkgjdeicjkibiaa.D
open Go.RowKit Go.Maps Go.Proofs.YtkgjdeicjkibiaaW.PrintWords Go.Proofs.YtkgjdeicjkibiaaW.PrintLast Go.Proofs.YtkgjdeicjkibiaaW.PrintMore Go.Proofs.YtkgjdeicjkibiaaW
set_option linter.unusedVariables false
set_option linter.unusedSimpArgs false
def litI (b : UInt8) : Lit := .int .u8 (b.toNat : Int)
theorem litI_wf (b : UInt8) : (litI b).wf = true := by
  have := b.toNat_lt
  simp only [litI, Lit.wf, Bool.and_eq_true, decide_eq_true_eq]
  simp [IntKind.min, IntKind.max, IntKind.signed, IntKind.bits]
  omega
theorem litI_bytes (b : UInt8) : (litI b).keyBytes = [b] := by
  have := b.toNat_lt
  simp only [litI, Lit.keyBytes]
  have e : ((b.toNat : Int) % 2 ^ IntKind.u8.bits).toNat = b.toNat := by simp [IntKind.bits]; omega
  rw [e]
  show (bytesLE 1 b.toNat).reverse = [b]
  simp [bytesLE, Nat.mod_eq_of_lt this]
theorem keyBytes_I : ∀ x : Id, keyBytes (x.map litI) = x
  | [] => rfl
  | b :: x => by
    have ih := keyBytes_I x
    unfold keyBytes at ih ⊢
    rw [List.map_cons, List.flatMap_cons, litI_bytes, ih]
    rfl
theorem laidOutI : laidOutB Try.prog = true := by kernel_rfl
theorem keyTypeI : Try.prog.keyType 23 = true := by kernel_rfl
theorem lawWI : WideMaps.KeyLaw Try.prog 23 := deep_law_gate laidOutI (of_decide_eq_true (by kernel_rfl)) (of_decide_eq_true (by kernel_rfl)) keyTypeI (by rw [Try.underlying23])
theorem lawI : Keyed Try.prog 23 := Keyed.of_law lawWI
theorem cells_ID : Try.prog.cellsOf 23 = 32 := by kernel_rfl
theorem cells_u8 : Try.prog.cellsOf 5 = 1 := by kernel_rfl
theorem lits_cell (n : Nat) (b : UInt8) : Try.prog.keyLits (n + 1) 5 [cellI b] = some [litI b] := by
  have h := litI_wf b
  unfold Program.keyLits
  simp [Try.underlying5, cellI]
  exact ⟨h, rfl⟩
theorem mapM_lits (n : Nat) (x : Id) : ∀ (m : Nat) (L : List Nat), (∀ i ∈ L, i < x.length) → L.mapM (fun i => Try.prog.keyLits (n + 1) 5 (((cellsI x).drop i).take 1)) = some (L.map fun i => [litI (x.getD i 0)])
  | m, [], _ => rfl
  | m, i :: L, h => by
    have hi := h i List.mem_cons_self
    have ih := mapM_lits n x m L (fun j hj => h j (List.mem_cons_of_mem _ hj))
    have e : ((cellsI x).drop i).take 1 = [cellI (x.getD i 0)] := by
      have hl : i < (cellsI x).length := by rw [cellsI_length]; exact hi
      rw [List.drop_eq_getElem_cons hl, List.take_succ_cons, List.take_zero]
      simp [cellsI, List.getD_eq_getElem?_getD, hi]
    simp only [List.mapM_cons, e, lits_cell, ih]
    rfl
theorem lits_I (n : Nat) {x : Id} (h : okId x) : Try.prog.keyLits (n + 2) 23 (cellsI x) = some (x.map litI) := by
  unfold Program.keyLits
  rw [Try.underlying23]
  simp only [cells_ID, cells_u8, cellsI_ok h, if_true, Nat.mul_one]
  rw [mapM_lits n x 0 (List.range 32) (fun i hi => by rw [h]; exact List.mem_range.1 hi)]
  simp only [Option.map_some, Option.some.injEq]
  have e : ((List.range 32).map fun i => [litI (x.getD i 0)]).flatten = (List.range 32).map fun i => litI (x.getD i 0) := by
    generalize List.range 32 = L
    induction L with
    | nil => rfl
    | cons a L ih => rw [List.map_cons, List.flatten_cons, ih]; rfl
  rw [e]
  apply List.ext_getElem?
  intro j
  rw [List.getElem?_map, List.getElem?_map]
  by_cases hj : j < 32
  · have hx : j < x.length := by rw [h]; exact hj
    simp [List.getElem?_range hj, List.getD_eq_getElem?_getD, List.getElem?_eq_getElem hx]
  · rw [List.getElem?_eq_none (by simp; omega), List.getElem?_eq_none (by rw [h]; omega)]
    rfl
set_option maxRecDepth 100000 in
theorem keyOf_I {x : Id} (h : okId x) : keyOf Try.prog 23 (valI x) = some (.string x) := by
  have hf : (valI x).formed Try.prog 23 = true := by
    simp only [valI, Value.formed, Try.underlying23, cells_ID]
    have : (arrI x).size = 32 := by unfold arrI; rw [List.size_toArray]; exact cellsI_ok h
    simp [this]
  obtain ⟨n, hn⟩ : ∃ n, Try.prog.types.size = n + 1 := ⟨Try.prog.types.size - 1, by kernel_rfl⟩
  have hl := lits_I n h
  unfold keyOf
  rw [Try.underlying23, keyTypeI, hf, hn]
  show Option.map _ (Try.prog.keyLits (n + 2) 23 (cellsI x)) = _
  rw [hl]
  show some (Lit.string (keyBytes (x.map litI))) = _
  rw [keyBytes_I]
theorem cell_inv (n : Nat) {c : List Value} {ls : List Lit} (h : Try.prog.keyLits n 5 c = some ls) : ∃ b : UInt8, c = [cellI b] := by
  obtain ⟨m, rfl, rfl⟩ := keyLits_int' Try.underlying5 h
  have hw := keyLits_wf h _ List.mem_cons_self
  have hw : (Lit.int .u8 m).wf = true := hw
  simp only [Lit.wf, Bool.and_eq_true, decide_eq_true_eq] at hw
  simp [IntKind.min, IntKind.max, IntKind.signed, IntKind.bits] at hw
  refine ⟨UInt8.ofNat m.toNat, ?_⟩
  simp only [cellI, List.cons.injEq, and_true, Value.int.injEq, true_and]
  rw [UInt8.toNat_ofNat']
  omega
theorem mapM_each {α β : Type} (f : α → Option β) : ∀ (L : List α) (r : List β), L.mapM f = some r → ∀ i ∈ L, ∃ y, f i = some y
  | [], _, _, i, hi => by cases hi
  | a :: L, r, h, i, hi => by
    rw [List.mapM_cons] at h
    cases ha : f a with
    | none => rw [ha] at h; cases h
    | some y =>
      rw [ha] at h
      cases hL : L.mapM f with
      | none => rw [hL] at h; cases h
      | some r' =>
        rcases List.mem_cons.1 hi with rfl | hi
        · exact ⟨y, ha⟩
        · exact mapM_each f L r' hL i hi
theorem cells_inv {cs : List Value} (hl : cs.length = 32) (h : ∀ i, i < 32 → ∃ b : UInt8, (cs.drop i).take 1 = [cellI b]) : ∃ x : Id, okId x ∧ cs = cellsI x := by
  obtain ⟨f, hf⟩ := Deep.choose_lt (α := UInt8) (n := 32) (p := fun i b => (cs.drop i).take 1 = [cellI b]) h
  refine ⟨(List.range 32).map f, by simp [okId], ?_⟩
  apply List.ext_getElem?
  intro j
  by_cases hj : j < 32
  · have h1 := hf j hj
    have hlt : j < cs.length := by omega
    rw [List.drop_eq_getElem_cons hlt, List.take_succ_cons, List.take_zero] at h1
    injection h1 with h1
    rw [List.getElem?_eq_getElem hlt, h1]
    simp [cellsI, List.getElem?_map, List.getElem?_range hj]
  · rw [List.getElem?_eq_none (by omega), List.getElem?_eq_none (by simp [cellsI]; omega)]
set_option maxRecDepth 100000 in
theorem keyOf_inv {v : Value} {kl : Lit} (h : keyOf Try.prog 23 v = some kl) : ∃ x : Id, v = valI x ∧ kl = .string x ∧ okId x := by
  have h' := h
  obtain ⟨n, hn⟩ : ∃ n, Try.prog.types.size = n + 1 := ⟨Try.prog.types.size - 1, by kernel_rfl⟩
  unfold keyOf at h
  rw [Try.underlying23, hn] at h
  simp only [keyTypeI, Bool.true_and] at h
  split at h
  case isFalse => cases h
  case isTrue hf =>
  obtain ⟨ls, hl, _⟩ := Option.map_eq_some_iff.1 h
  unfold Program.keyLits at hl
  rw [Try.underlying23] at hl
  simp only [cells_ID, cells_u8, Nat.mul_one] at hl
  split at hl
  case isFalse => cases hl
  case isTrue hlen =>
  obtain ⟨lss, hm, _⟩ := Option.map_eq_some_iff.1 hl
  obtain ⟨x, hx, he⟩ := cells_inv hlen (fun i hi => by
    obtain ⟨y, hy⟩ := mapM_each _ _ _ hm i (List.mem_range.2 hi)
    exact cell_inv _ hy)
  have hv : v = valI x := by
    cases v <;> simp [Value.formed, Try.underlying23] at hf
    rename_i cs
    have e : cs.toList = cellsI x := he
    show Value.agg cs = .agg (cellsI x).toArray
    rw [← e]
  subst hv
  rw [keyOf_I hx] at h'
  injection h' with h'
  exact ⟨x, rfl, h'.symm, hx⟩
/-- a set: those that the map has, rising; each one's entry is true -/
def entI (x : Id) : Lit × DataW Unit := (.string x, .lit (.bool true))
def datI (es : List Id) : DataW Unit := .map (es.map entI)
theorem before_less : ∀ (x y : List UInt8), Go.bytesBefore x y = Op.bytesLess x y
  | [], [] => rfl
  | [], _ :: _ => rfl
  | _ :: _, [] => rfl
  | a :: x, b :: y => by
    unfold Go.bytesBefore Op.bytesLess
    rw [before_less x y]
theorem filt_allI {l : List Id} {k : Id} (h : ∀ p ∈ l, p ≠ k) : (l.map entI).filter (fun p => !p.1.sameKey (.string k)) = l.map entI := by
  rw [List.filter_eq_self]
  intro a ha
  obtain ⟨p, hp, rfl⟩ := List.mem_map.1 ha
  simp only [entI, Lit.sameKey, Bool.not_eq_true', beq_eq_false_iff_ne, ne_eq]
  exact h p hp
theorem ins_frontI {l : List Id} {k : Id} (h : ∀ p ∈ l, ltI k p = true) : DataW.insert (entI k) (l.map entI) = entI k :: l.map entI := by
  cases l with
  | nil => rfl
  | cons y l =>
    have := h y List.mem_cons_self
    simp only [List.map_cons, DataW.insert]
    rw [if_pos]
    simp only [entI, Lit.before]
    rw [before_less]
    exact this
theorem put_listI : ∀ (es : List Id) (k : Id), UpI es → DataW.insert (entI k) ((es.map entI).filter (fun p => !p.1.sameKey (.string k))) = (insI k es).map entI
  | [], k, _ => rfl
  | y :: l, k, hp => by
    unfold UpI at hp
    rw [List.pairwise_cons] at hp
    have ih := put_listI l k hp.2
    unfold insI
    cases hk : ltI k y with
    | true =>
      have hgt : ∀ p ∈ y :: l, ltI k p = true := fun p hp' => by
        rcases List.mem_cons.1 hp' with rfl | hp'
        · exact hk
        · exact ltI_trans hk (hp.1 p hp')
      rw [if_pos rfl, filt_allI (fun p hp' e => ltI_ne (hgt p hp') e.symm), ins_frontI hgt]
      rfl
    | false =>
      rw [if_neg (by simp)]
      by_cases he : k = y
      · subst he
        have hgt : ∀ p ∈ l, ltI k p = true := hp.1
        rw [if_pos rfl, List.map_cons, List.filter_cons_of_neg, filt_allI (fun p hp' e => ltI_ne (hgt p hp') e.symm), ins_frontI hgt]
        simp [entI, Lit.sameKey]
      · have hy : ltI y k = true := by
          cases q : ltI y k with
          | true => rfl
          | false => exact absurd (ltI_total hk q) he
        rw [if_neg he, List.map_cons, List.filter_cons_of_pos, DataW.insert, if_neg, ih, List.map_cons]
        · simp only [entI, Lit.before]
          rw [before_less]
          unfold ltI at hk
          simp [hk]
        · simp only [entI, Lit.sameKey, Bool.not_eq_true', beq_eq_false_iff_ne, ne_eq]
          exact fun e => he e.symm
theorem put_datI {es : List Id} (k : Id) (h : UpI es) : (datI es).put (.string k) (.lit (.bool true)) = datI (insI k es) := by
  unfold datI DataW.put
  exact congrArg DataW.map (put_listI es k h)
theorem at_datI : ∀ (es : List Id) (k : Id), (datI es).atKey (.string k) (.lit (.bool false)) = .lit (.bool (decide (k ∈ es)))
  | [], k => by simp [datI, DataW.atKey]
  | y :: l, k => by
    have ih := at_datI l k
    unfold datI DataW.atKey at ih ⊢
    simp only [List.map_cons, List.find?_cons] at ih ⊢
    by_cases he : y = k
    · have : (entI y).1.sameKey (.string k) = true := by simp [entI, Lit.sameKey, he]
      subst he
      simp only [this]
      simp [entI]
    · have : (entI y).1.sameKey (.string k) = false := by
        simp only [entI, Lit.sameKey, beq_eq_false_iff_ne, ne_eq]
        exact he
      simp only [this]
      rw [ih]
      have hk : (k ∈ y :: l) ↔ k ∈ l := by
        rw [List.mem_cons]
        exact ⟨fun h => h.elim (fun e => absurd e.symm he) id, .inr⟩
      simp only [hk]
theorem size_datI (es : List Id) : Maps.size (datI es) = es.length := by
  simp [Maps.size, datI]
abbrev OwnsI (w : World) (gb n : Nat) (es : List Id) : Prop := w.ownsMap Try.prog 23 (plainElem (H := Unit) Try.prog 4) gb n (datI es)
theorem zeroB (w : World) : (zeroValue 4).run Try.prog w = .ok (.bool false) w := by kernel_rfl
theorem plainElem_bool_inv {v : Value} {z : DataW Unit × List MemPlace} (h : plainElem (H := Unit) Try.prog 4 v = some z) : ∃ a, v = .bool a ∧ z = (.lit (.bool a), []) := by
  unfold plainElem at h
  rw [Try.underlying4] at h
  cases v <;> simp at h
  subst h
  exact ⟨_, rfl, rfl⟩
theorem owns_below {w w1 : World} {gb n : Nat} {es : List Id} (h : OwnsI w gb n es) (hb : Below w.heap.size w w1) : OwnsI w1 gb n es := by
  have hlt := h.lt
  obtain ⟨es0, clock, h1, F, hs, hD⟩ := h
  exact ⟨es0, clock, (hb.block gb hlt).trans h1, F, hs, hD⟩
/-- a look-up -/
theorem look_I {w : World} {gb n : Nat} {es : List Id} (h : OwnsI w gb n es) {x : Id} (hx : okId x) : (Instr.lookup 52 (.map (some gb)) (valI x) false).run Try.prog w = .ok (.bool (decide (x ∈ es))) w := by
  obtain ⟨v, ps, hrun, hv⟩ := h.lookup lawI Try.underlying52 (zeroB w) (plainElem_bool Try.underlying4 false) (keyOf_I hx)
  obtain ⟨a, rfl, he⟩ := plainElem_bool_inv hv
  rw [at_datI] at he
  simp only [Prod.mk.injEq] at he
  have := he.1
  injection this with this
  injection this with this
  rw [hrun, this]
end Go.Proofs.Ytkgjdeicjkibiaa.D
