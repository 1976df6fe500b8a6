/- Maps of pairs to whole numbers as lists that rise by their keys' bytes: what a put and a look-up come to; what reads as a key. Plain. -/
import Derived.Test.YtannmdngejdjkaaLHRow
import Derived.Test.YtannmdngejdjkaaLMapS
import Derived.Maps.RangeWalk
import Derived.DeepKeys5
import Derived.WideKeyEntry
namespace Go.Proofs.Ytannmdngejdjkaa.L
open Go.RowKit Go.Maps Go.Proofs.YtannmdngejdjkaaW.PrintWords Go.Proofs.YtannmdngejdjkaaW.PrintLast Go.Proofs.YtannmdngejdjkaaW.PrintMore Go.Proofs.YtannmdngejdjkaaW
set_option linter.unusedVariables false
set_option linter.unusedSimpArgs false
abbrev Pr := S57
def litsP (p : Pr) : List Lit := [.string p.f0.data.toList, .string p.f1.data.toList, .int .i64 p.f2.f0, .int .i64 p.f2.f1]
def kbP (p : Pr) : List UInt8 := keyBytes (litsP p)
def pairCells (p : Pr) : List Value := [.string p.f0, .string p.f1, .int .i64 p.f2.f0, .int .i64 p.f2.f1]
def valP (p : Pr) : Value := .agg #[.string p.f0, .string p.f1, .int .i64 p.f2.f0, .int .i64 p.f2.f1]
theorem valP_cells (p : Pr) : valP p = .agg (pairCells p).toArray := rfl
theorem wf_of_okI {n : Int} (h : okI n) : (Lit.int .i64 n).wf = true := by
  unfold okI at h
  simp only [Lit.wf, Bool.and_eq_true, decide_eq_true_eq]
  simp [IntKind.min, IntKind.max, IntKind.signed, IntKind.bits]
  omega
theorem laidOutP : laidOutB Try.prog = true := by kernel_rfl
theorem keyTypeP : Try.prog.keyType 57 = true := by kernel_rfl
theorem lawWP : WideMaps.KeyLaw Try.prog 57 := deep_law_gate laidOutP (of_decide_eq_true (by kernel_rfl)) (of_decide_eq_true (by kernel_rfl)) keyTypeP (by rw [Try.underlying57])
theorem lawP : Keyed Try.prog 57 := Keyed.of_law lawWP
theorem sizeP : ∃ n, Try.prog.types.size = n + 1 := ⟨Try.prog.types.size - 1, by kernel_rfl⟩
theorem lits_event (n : Nat) (a b : Int) (ha : (Lit.int .i64 a).wf = true) (hb : (Lit.int .i64 b).wf = true) : Try.prog.keyLits (n + 2) 24 [.int .i64 a, .int .i64 b] = some [.int .i64 a, .int .i64 b] := by
  have hc : Try.prog.cellsOf 24 = 2 := by kernel_rfl
  have hi : Try.prog.cellsOf 3 = 1 := by kernel_rfl
  unfold Program.keyLits
  simp [Try.underlying24, hc, hi, Program.keyLits, Try.underlying3, ha, hb]
theorem lits_pair (n : Nat) (p : Pr) (h : okPair p) : Try.prog.keyLits (n + 3) 57 (pairCells p) = some (litsP p) := by
  have hc : Try.prog.cellsOf 57 = 4 := by kernel_rfl
  have hi : Try.prog.cellsOf 24 = 2 := by kernel_rfl
  have hs : Try.prog.cellsOf 9 = 1 := by kernel_rfl
  have he := lits_event n p.f2.f0 p.f2.f1 (wf_of_okI h.2.2.1) (wf_of_okI h.2.2.2)
  have h0 : p.f0.size ≤ maxLen := h.1
  have h1 : p.f1.size ≤ maxLen := h.2.1
  unfold Program.keyLits
  simp [Try.underlying57, hc, hi, hs, pairCells, he]
  simp [Program.keyLits, Try.underlying9, h0, h1, litsP]
set_option maxRecDepth 100000 in
theorem keyOf_pair (p : Pr) (h : okPair p) : keyOf Try.prog 57 (valP p) = some (.string (kbP p)) := by
  have hf : (valP p).formed Try.prog 57 = true := by
    have hc : Try.prog.cellsOf 57 = 4 := by kernel_rfl
    simp [valP, Value.formed, Try.underlying57, hc]
  obtain ⟨n, hn⟩ : ∃ n, Try.prog.types.size = n + 2 := ⟨Try.prog.types.size - 2, by kernel_rfl⟩
  have hl := lits_pair n p h
  unfold keyOf
  rw [Try.underlying57, keyTypeP, hf, hn]
  show Option.map _ (Try.prog.keyLits (n + 3) 57 (pairCells p)) = _
  rw [hl]
  rfl
set_option maxRecDepth 100000 in
theorem kbP_inj {p q : Pr} (hp : okPair p) (hq : okPair q) (h : kbP p = kbP q) : p = q := by
  have h1 := keyOf_pair p hp
  have h2 := keyOf_pair q hq
  rw [h] at h1
  have h3 := lawWP.inj h1 h2
  unfold valP at h3
  injection h3 with h3
  obtain ⟨a, b, c, d⟩ := p
  obtain ⟨a', b', c', d'⟩ := q
  simp at h3
  obtain ⟨rfl, rfl, rfl, rfl⟩ := h3
  rfl
theorem okI_of_wf {n : Int} (h : (Lit.int .i64 n).wf = true) : okI n := okI_of h
set_option maxRecDepth 100000 in
theorem int_inv (n : Nat) {c : Value} {ls : List Lit} (h : Try.prog.keyLits (n + 1) 3 [c] = some ls) : ∃ a, c = .int .i64 a ∧ ls = [.int .i64 a] ∧ okI a := by
  unfold Program.keyLits at h
  rw [Try.underlying3] at h
  cases c <;> simp at h
  obtain ⟨⟨rfl, h1⟩, rfl⟩ := h
  exact ⟨_, rfl, rfl, okI_of h1⟩
set_option maxRecDepth 100000 in
theorem str_inv (n : Nat) {c : Value} {ls : List Lit} (h : Try.prog.keyLits (n + 1) 9 [c] = some ls) : ∃ a, c = .string a ∧ ls = [.string a.data.toList] ∧ okT a := by
  unfold Program.keyLits at h
  rw [Try.underlying9] at h
  cases c <;> simp at h
  obtain ⟨h1, rfl⟩ := h
  exact ⟨_, rfl, rfl, h1⟩
set_option maxRecDepth 100000 in
theorem event_inv (n : Nat) {cs : List Value} {ls : List Lit} (h : Try.prog.keyLits (n + 2) 24 cs = some ls) : ∃ a b, cs = [.int .i64 a, .int .i64 b] ∧ ls = [.int .i64 a, .int .i64 b] ∧ okI a ∧ okI b := by
  have hc : Try.prog.cellsOf 24 = 2 := by kernel_rfl
  have hi : Try.prog.cellsOf 3 = 1 := by kernel_rfl
  unfold Program.keyLits at h
  simp only [Try.underlying24, hc] at h
  split at h
  case isFalse => cases h
  case isTrue hh =>
  obtain ⟨c0, c1, rfl⟩ := len2 hh.1
  simp [hi, Option.bind_eq_some_iff] at h
  obtain ⟨x, hx, _, ⟨y, hy, rfl⟩, rfl⟩ := h
  obtain ⟨a, rfl, rfl, ha⟩ := int_inv n hx
  obtain ⟨b, rfl, rfl, hb⟩ := int_inv n hy
  exact ⟨a, b, rfl, rfl, ha, hb⟩
set_option maxRecDepth 100000 in
theorem pair_inv (n : Nat) {cs : List Value} {ls : List Lit} (h : Try.prog.keyLits (n + 3) 57 cs = some ls) : ∃ p : Pr, cs = pairCells p ∧ ls = litsP p ∧ okPair p := by
  have hc : Try.prog.cellsOf 57 = 4 := by kernel_rfl
  have hi : Try.prog.cellsOf 24 = 2 := by kernel_rfl
  have hs : Try.prog.cellsOf 9 = 1 := by kernel_rfl
  unfold Program.keyLits at h
  simp only [Try.underlying57, hc] at h
  split at h
  case isFalse => cases h
  case isTrue hh =>
  obtain ⟨c0, c1, c2, c3, rfl⟩ := len4 hh.1
  simp [hi, hs, Option.bind_eq_some_iff] at h
  obtain ⟨x, hx, _, ⟨y, hy, _, ⟨z, hz, rfl⟩, rfl⟩, rfl⟩ := h
  obtain ⟨a, rfl, rfl, ha⟩ := str_inv (n + 1) hx
  obtain ⟨b, rfl, rfl, hb⟩ := str_inv (n + 1) hy
  obtain ⟨c, d, e, rfl, hc, hd⟩ := event_inv n hz
  cases e
  exact ⟨⟨a, b, ⟨c, d⟩⟩, rfl, rfl, ha, hb, hc, hd⟩
set_option maxRecDepth 100000 in
theorem keyOf_inv {v : Value} {kl : Lit} (h : keyOf Try.prog 57 v = some kl) : ∃ p : Pr, v = valP p ∧ kl = .string (kbP p) ∧ okPair p := by
  obtain ⟨n, hn⟩ : ∃ n, Try.prog.types.size = n + 2 := ⟨Try.prog.types.size - 2, by kernel_rfl⟩
  unfold keyOf at h
  rw [Try.underlying57, hn] at h
  simp only [keyTypeP, Bool.true_and] at h
  split at h
  case isFalse => cases h
  case isTrue hf =>
  obtain ⟨ls, hl, rfl⟩ := Option.map_eq_some_iff.1 h
  obtain ⟨p, hp, rfl, ho⟩ := pair_inv n hl
  refine ⟨p, ?_, rfl, ho⟩
  cases v <;> simp [Value.formed, Try.underlying57] at hf
  rename_i cs
  have : cs.toList = pairCells p := by simpa [Value.cells] using hp
  rw [valP_cells, ← this]
/-- a map of pairs: how often each one -/
abbrev MapQ := List (Pr × Int)
def qLt (x y : Pr × Int) : Prop := Op.bytesLess (kbP x.1) (kbP y.1) = true
def entQ (p : Pr × Int) : Lit × DataW Unit := (.string (kbP p.1), .lit (.int .i64 p.2))
def datQ (es : MapQ) : DataW Unit := .map (es.map entQ)
def getQ (es : MapQ) (k : Pr) : Int := match es with
  | [] => 0
  | p :: l => if kbP p.1 = kbP k then p.2 else getQ l k
def setQ (es : MapQ) (k : Pr) (n : Int) : MapQ := match es with
  | [] => [(k, n)]
  | p :: l => if Op.bytesLess (kbP p.1) (kbP k) then p :: setQ l k n else if kbP p.1 = kbP k then (k, n) :: l else (k, n) :: p :: l
theorem setQ_mem {es : MapQ} {k : Pr} {n : Int} {p : Pr × Int} (h : p ∈ setQ es k n) : p = (k, n) ∨ p ∈ es := by
  induction es with
  | nil => simpa [setQ] using h
  | cons y l ih =>
    unfold setQ at h
    split at h
    · rcases List.mem_cons.1 h with rfl | h
      · exact .inr List.mem_cons_self
      · rcases ih h with h | h
        · exact .inl h
        · exact .inr (List.mem_cons_of_mem _ h)
    · split at h
      · rcases List.mem_cons.1 h with rfl | h
        · exact .inl rfl
        · exact .inr (List.mem_cons_of_mem _ h)
      · rcases List.mem_cons.1 h with rfl | h
        · exact .inl rfl
        · exact .inr h
theorem setQ_up {es : MapQ} {k : Pr} {n : Int} (h : es.Pairwise qLt) : (setQ es k n).Pairwise qLt := by
  induction es with
  | nil => exact List.pairwise_singleton _ _
  | cons y l ih =>
    rw [List.pairwise_cons] at h
    unfold setQ
    cases hy : Op.bytesLess (kbP y.1) (kbP k) with
    | true =>
      rw [if_pos rfl, List.pairwise_cons]
      refine ⟨fun p hp => ?_, ih h.2⟩
      rcases setQ_mem hp with rfl | hp
      · exact hy
      · exact h.1 p hp
    | false =>
      rw [if_neg (by simp)]
      by_cases he : kbP y.1 = kbP k
      · rw [if_pos he, List.pairwise_cons]
        exact ⟨fun p hp => by have := h.1 p hp; unfold qLt at this ⊢; rw [he] at this; exact this, h.2⟩
      · rw [if_neg he, List.pairwise_cons, List.pairwise_cons]
        have hk : Op.bytesLess (kbP k) (kbP y.1) = true := by
          cases q : Op.bytesLess (kbP k) (kbP y.1) with
          | true => rfl
          | false => exact absurd (less_antisymm hy q) he
        refine ⟨fun p hp => ?_, h⟩
        rcases List.mem_cons.1 hp with rfl | hp
        · exact hk
        · exact less_trans hk (h.1 p hp)
theorem getQ_set (es : MapQ) (k j : Pr) (n : Int) : getQ (setQ es k n) j = if kbP j = kbP k then n else getQ es j := by
  induction es with
  | nil =>
    simp only [setQ, getQ]
    by_cases h : kbP j = kbP k
    · rw [if_pos h.symm, if_pos h]
    · rw [if_neg (fun e => h e.symm), if_neg h]
  | cons y l ih =>
    unfold setQ
    cases hy : Op.bytesLess (kbP y.1) (kbP k) with
    | true =>
      rw [if_pos rfl]
      simp only [getQ]
      by_cases h : kbP y.1 = kbP j
      · rw [if_pos h, if_pos h]
        have : kbP j ≠ kbP k := fun e => by rw [h, e, less_irrefl] at hy; cases hy
        rw [if_neg this]
      · rw [if_neg h, if_neg h, ih]
    | false =>
      rw [if_neg (by simp)]
      by_cases he : kbP y.1 = kbP k
      · rw [if_pos he]
        simp only [getQ]
        by_cases h : kbP j = kbP k
        · rw [if_pos h.symm, if_pos h]
        · rw [if_neg (fun e => h e.symm), if_neg h, if_neg (fun e => h (e.symm.trans he))]
      · rw [if_neg he]
        simp only [getQ]
        by_cases h : kbP j = kbP k
        · rw [if_pos h.symm, if_pos h]
        · rw [if_neg (fun e => h e.symm), if_neg h]
theorem filt_allQ {l : MapQ} {k : Pr} (h : ∀ p ∈ l, kbP p.1 ≠ kbP k) : (l.map entQ).filter (fun p => !p.1.sameKey (.string (kbP k))) = l.map entQ := by
  rw [List.filter_eq_self]
  intro a ha
  obtain ⟨p, hp, rfl⟩ := List.mem_map.1 ha
  simp only [entQ, Lit.sameKey, Bool.not_eq_true', beq_eq_false_iff_ne, ne_eq]
  exact h p hp
theorem ins_frontQ {l : MapQ} {k : Pr} {n : Int} (h : ∀ p ∈ l, Op.bytesLess (kbP k) (kbP p.1) = true) : DataW.insert (entQ (k, n)) (l.map entQ) = entQ (k, n) :: l.map entQ := by
  cases l with
  | nil => rfl
  | cons y l =>
    have := h y List.mem_cons_self
    simp only [List.map_cons, DataW.insert]
    rw [if_pos]
    simp only [entQ, Lit.before]
    rw [before_less]
    exact this
theorem put_listQ : ∀ (es : MapQ) (k : Pr) (n : Int), es.Pairwise qLt → DataW.insert (entQ (k, n)) ((es.map entQ).filter (fun p => !p.1.sameKey (.string (kbP k)))) = (setQ es k n).map entQ
  | [], k, n, _ => rfl
  | y :: l, k, n, hp => by
    rw [List.pairwise_cons] at hp
    have ih := put_listQ l k n hp.2
    unfold setQ
    cases hy : Op.bytesLess (kbP y.1) (kbP k) with
    | true =>
      have hne : kbP y.1 ≠ kbP k := fun e => by rw [e, less_irrefl] at hy; cases hy
      rw [if_pos rfl, List.map_cons, List.filter_cons_of_pos, DataW.insert, if_neg, ih, List.map_cons]
      · simp only [entQ, Lit.before]
        rw [before_less, less_asymm hy]
        simp
      · simp only [entQ, Lit.sameKey, Bool.not_eq_true', beq_eq_false_iff_ne, ne_eq]
        exact hne
    | false =>
      rw [if_neg (by simp)]
      by_cases he : kbP y.1 = kbP k
      · have hgt : ∀ p ∈ l, Op.bytesLess (kbP k) (kbP p.1) = true := fun p hp' => by have := hp.1 p hp'; unfold qLt at this; rw [he] at this; exact this
        rw [if_pos he, List.map_cons, List.filter_cons_of_neg, filt_allQ, ins_frontQ hgt, List.map_cons]
        · intro p hp' e
          have := hgt p hp'
          rw [e, less_irrefl] at this; cases this
        · simp [entQ, Lit.sameKey, he]
      · have hk : Op.bytesLess (kbP k) (kbP y.1) = true := by
          cases q : Op.bytesLess (kbP k) (kbP y.1) with
          | true => rfl
          | false => exact absurd (less_antisymm hy q) he
        have hgt : ∀ p ∈ y :: l, Op.bytesLess (kbP k) (kbP p.1) = true := fun p hp' => by
          rcases List.mem_cons.1 hp' with rfl | hp'
          · exact hk
          · exact less_trans hk (hp.1 p hp')
        rw [if_neg he, filt_allQ, ins_frontQ hgt]
        · rfl
        intro p hp' e
        have := hgt p hp'
        rw [e, less_irrefl] at this; cases this
theorem put_datQ {es : MapQ} (k : Pr) (n : Int) (h : es.Pairwise qLt) : (datQ es).put (.string (kbP k)) (.lit (.int .i64 n)) = datQ (setQ es k n) := by
  unfold datQ DataW.put
  exact congrArg DataW.map (put_listQ es k n h)
theorem at_datQ : ∀ (es : MapQ) (k : Pr), (datQ es).atKey (.string (kbP k)) (.lit (.int .i64 0)) = .lit (.int .i64 (getQ es k))
  | [], k => rfl
  | y :: l, k => by
    have ih := at_datQ l k
    unfold datQ DataW.atKey at ih ⊢
    simp only [List.map_cons, List.find?_cons] at ih ⊢
    unfold getQ
    by_cases he : kbP y.1 = kbP k
    · rw [if_pos he]
      have : (entQ y).1.sameKey (.string (kbP k)) = true := by simp [entQ, Lit.sameKey, he]
      simp only [this]; rfl
    · rw [if_neg he]
      have : (entQ y).1.sameKey (.string (kbP k)) = false := by
        simp only [entQ, Lit.sameKey, beq_eq_false_iff_ne, ne_eq]
        exact he
      simp only [this]
      exact ih
theorem size_datQ (es : MapQ) : Maps.size (datQ es) = es.length := by
  simp [Maps.size, datQ]
abbrev OwnsQ (w : World) (gb n : Nat) (es : MapQ) : Prop := w.ownsMap Try.prog 57 (plainElem (H := Unit) Try.prog 3) gb n (datQ es)
theorem zeroQ (w : World) : (zeroValue 3).run Try.prog w = .ok (.int .i64 0) w := by kernel_rfl
theorem setBlock_same {w : World} {b : Nat} {o : Obj} (h : w.heap[b]? = some o) : ChangeMaps.setBlock w b o = w := by
  unfold ChangeMaps.setBlock
  have : w.heap.setIfInBounds b o = w.heap := by
    apply Array.ext_getElem?
    intro i
    rw [Array.getElem?_setIfInBounds]
    split
    · rename_i e; subst e
      split
      · exact h.symm
      · rename_i hb
        have := blk_lt h
        omega
    · rfl
  rw [this]
theorem setBlock_twice (w : World) (b : Nat) (o o' : Obj) : ChangeMaps.setBlock (ChangeMaps.setBlock w b o) b o' = ChangeMaps.setBlock w b o' := by
  unfold ChangeMaps.setBlock
  simp
theorem wfI0 : (Lit.int .i64 0).wf = true := by decide
set_option maxRecDepth 100000 in
/-- m[k]++, whichever way its parts are drawn -/
theorem incQ_run {w : World} {gb n : Nat} {es : MapQ} (hown : OwnsQ w gb n es) (hup : es.Pairwise qLt) (hn : n < maxLen) (p : Pr) (hp : okPair p) :
    ∃ (st : Nat) (w2 : World),
      (Instr.lookup 85 (.map (some gb)) (valP p) false).run Try.prog w = .ok (.int .i64 (getQ es p)) w ∧
      (Instr.mapEntry 85 (.map (some gb)) (valP p)).run Try.prog w = .ok (.tuple #[.int .i64 (getQ es p), goInt st]) w2 ∧
      (Instr.lookup 85 (.map (some gb)) (valP p) false).run Try.prog w2 = .ok (.int .i64 (getQ es p)) w2 ∧ w.grownBy w2 (some gb) ∧
      ∀ (val : Int), (Lit.int .i64 val).wf = true → ∃ w3, (Instr.entryStore 85 (.map (some gb)) (goInt st) (.int .i64 val)).run Try.prog w2 = .ok () w3 ∧ OwnsQ w3 gb (n + 1) (setQ es p val) ∧ w.grownBy w3 (some gb) := by
  have hkey := keyOf_pair p hp
  have ht := Try.underlying85
  obtain ⟨c, hl, hat, hwc⟩ := hown.lookup_int lawP ht Try.underlying3 (zeroQ w) hkey
  rw [at_datQ] at hat
  injection hat with hat
  injection hat with _ hat
  subst hat
  obtain ⟨es0, clock, hb, F, hs, hD⟩ := hown
  have hz : ∀ u : World, (zeroValue 3).run Try.prog u = .ok (.int .i64 0) u := zeroQ
  obtain ⟨v0, st, es1, clock1, h1, h2, h3⟩ := WideElems.entry_then_store lawWP ht hz hb F hkey
  have hgr : ∀ o, w.grownBy (ChangeMaps.setBlock w gb o) (some gb) := fun o => ⟨rfl, rfl, rfl, by simp [ChangeMaps.setBlock], fun i _ hi => ChangeMaps.heap_setBlock_other hb _ (fun e => hi (by rw [e]))⟩
  have hst : ∀ (val : Int), (Lit.int .i64 val).wf = true → ∃ w3, (Instr.entryStore 85 (.map (some gb)) (goInt st) (.int .i64 val)).run Try.prog (ChangeMaps.setBlock w gb (.map es1 clock1)) = .ok () w3 ∧ OwnsQ w3 gb (n + 1) (setQ es p val) ∧ w.grownBy w3 (some gb) := by
    intro val hv
    obtain ⟨es', clock', r1, r2⟩ := h3 (ChangeMaps.setBlock w gb (.map es1 clock1)) (.int .i64 val) (ChangeMaps.heap_setBlock_same hb _)
    obtain ⟨w', q1, q2, q3⟩ := World.ownsMap.update (R := plainElem (H := Unit) Try.prog 3) ⟨es0, clock, hb, F, hs, hD⟩ lawP ht hn hkey (plainElem_int Try.underlying3 hv)
    rw [q1] at r2
    injection r2 with _ r2
    rw [setBlock_twice] at r1
    exact ⟨_, r1, by rw [← r2]; rw [put_datQ _ _ hup] at q2; exact q2, hgr _⟩
  rcases lawWP.find w hkey es0.toList F.keys with ⟨hf, hne⟩ | ⟨j, e0, hf, hj, hk⟩
  · have hm : (Instr.mapEntry 85 (.map (some gb)) (valP p)).run Try.prog w = .ok (.tuple #[.int .i64 0, goInt (clock : Nat)]) (ChangeMaps.setBlock w gb (.map (es0.push ⟨valP p, .int .i64 0, clock⟩) (clock + 1))) := by
      simp [Instr.mapEntry, run_underlying ht, MapKept.run_getObj_map hb, lawWP.check w false hkey, hf, hz, MapKept.run_setObj_map _ hb, Result.andThen, ChangeMaps.setBlock]
    have hu : (Instr.mapUpdate 85 (.map (some gb)) (valP p) (.int .i64 0)).run Try.prog w = .ok () (ChangeMaps.setBlock w gb (.map (es0.push ⟨valP p, .int .i64 0, clock⟩) (clock + 1))) := by
      simp [Instr.mapUpdate, run_underlying ht, MapKept.run_getObj_map hb, lawWP.check w false hkey, hf, MapKept.run_setObj_map _ hb, Result.andThen, ChangeMaps.setBlock]
    have h0 : getQ es p = 0 := by
      have : (Instr.lookup 85 (.map (some gb)) (valP p) false).run Try.prog w = .ok (.int .i64 0) w := by
        simp [Instr.lookup, run_underlying ht, MapKept.run_getObj_map hb, lawWP.check w es0.isEmpty hkey, hf, hz, Result.andThen]
      rw [hl] at this
      injection this with this
      injection this
    obtain ⟨w', q1, q2, _⟩ := World.ownsMap.update (R := plainElem (H := Unit) Try.prog 3) ⟨es0, clock, hb, F, hs, hD⟩ lawP ht hn hkey (plainElem_int Try.underlying3 wfI0)
    rw [hu] at q1
    injection q1 with _ q1
    rw [put_datQ _ _ hup] at q2
    rw [hm] at h1
    injection h1 with h1a h1b
    obtain ⟨c2, g1, g2, _⟩ := World.ownsMap.lookup_int q2 lawP ht Try.underlying3 (zeroQ w') hkey
    rw [at_datQ, getQ_set, if_pos rfl] at g2
    injection g2 with g2
    injection g2 with _ g2
    subst g2
    have hv0 : v0 = .int .i64 0 ∧ goInt (st : Nat) = goInt (clock : Nat) := by
      injection h1a with h1a
      simp at h1a
      exact ⟨h1a.1.symm, by rw [h1a.2]⟩
    refine ⟨st, w', hl, ?_, ?_, by rw [← q1]; exact hgr _, ?_⟩
    · rw [hm, h0, hv0.2, q1]
    · rw [h0]; exact g1
    · intro val hv
      rw [← q1, h1b]
      exact hst val hv
  · have hjj : es0[j]? = some e0 := by simpa using hj
    have hsame : es0.modify j (fun e => { e with key := valP p }) = es0 := by
      apply Array.ext_getElem?
      intro i
      rw [Array.getElem?_modify]
      split
      · rename_i e; subst e
        rw [hjj]
        simp [← hk]
      · rfl
    have hm : (Instr.mapEntry 85 (.map (some gb)) (valP p)).run Try.prog w = .ok (.tuple #[e0.val, goInt (e0.born : Nat)]) (ChangeMaps.setBlock w gb (.map es0 clock)) := by
      simp [Instr.mapEntry, run_underlying ht, MapKept.run_getObj_map hb, lawWP.check w false hkey, hf, hjj, hk, lawWP.stays w hkey, hsame, MapKept.run_setObj_map _ hb, Result.andThen, ChangeMaps.setBlock]
    have h0 : e0.val = .int .i64 (getQ es p) := by
      have : (Instr.lookup 85 (.map (some gb)) (valP p) false).run Try.prog w = .ok e0.val w := by
        simp [Instr.lookup, run_underlying ht, MapKept.run_getObj_map hb, lawWP.check w es0.isEmpty hkey, hf, hz, Result.andThen]
      rw [hl] at this
      injection this with this
      exact this.symm
    rw [setBlock_same hb] at hm
    rw [hm] at h1
    injection h1 with h1a h1b
    have hv0 : goInt (st : Nat) = goInt (e0.born : Nat) := by
      injection h1a with h1a
      simp at h1a
      rw [h1a.2]
    refine ⟨st, w, hl, ?_, hl, ⟨rfl, rfl, rfl, Nat.le_refl _, fun _ _ _ => rfl⟩, ?_⟩
    · rw [hm, h0, hv0]
    · intro val hv
      have := hst val hv
      rwa [← h1b] at this
end Go.Proofs.Ytannmdngejdjkaa.L
