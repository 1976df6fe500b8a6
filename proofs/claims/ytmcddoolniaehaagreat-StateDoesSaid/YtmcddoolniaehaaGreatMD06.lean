/- Several of the walk's texts in one: SMapP, Sx5, SHPairOrd. -/
import Derived.Maps.RangeWalk
import Derived.DeepKeys5
import Derived.WideKeyEntry
import Derived.RegionTactic
import Derived.Deep.RegionHeld3
import Derived.Shelf.SlSortCmp.WholeK
import Derived.Test.YtmcddoolniaehaaGreatMD04
section
namespace Go.Proofs.YtmcddoolniaehaaGreat.S
open Go.RowKit Go.Maps Go.Proofs.YtmcddoolniaehaaGreatW.PrintWords Go.Proofs.YtmcddoolniaehaaGreatW.PrintLast Go.Proofs.YtmcddoolniaehaaGreatW.PrintMore Go.Proofs.YtmcddoolniaehaaGreatW
set_option linter.unusedVariables false
set_option linter.unusedSimpArgs false
abbrev Pr := S43
def litsP (p : Pr) : List Lit := [.string p.f0.data.toList, .string p.f1.data.toList, .int .i64 p.f2.f0, .int .i64 p.f2.f1]
def kbP (p : Pr) : List UInt8 := keyBytes (litsP p)
def pairCells (p : Pr) : List Value := [.string p.f0, .string p.f1, .int .i64 p.f2.f0, .int .i64 p.f2.f1]
def valP (p : Pr) : Value := .agg #[.string p.f0, .string p.f1, .int .i64 p.f2.f0, .int .i64 p.f2.f1]
theorem valP_cells (p : Pr) : valP p = .agg (pairCells p).toArray := rfl
theorem wf_of_okI {n : Int} (h : okI n) : (Lit.int .i64 n).wf = true := by
  unfold okI at h
  simp only [Lit.wf, Bool.and_eq_true, decide_eq_true_eq]
  simp [IntKind.min, IntKind.max, IntKind.signed, IntKind.bits]
  omega
theorem laidOutP : laidOutB Tryz.prog = true := by kernel_rfl
theorem keyTypeP : Tryz.prog.keyType 43 = true := by kernel_rfl
theorem lawWP : WideMaps.KeyLaw Tryz.prog 43 := deep_law_gate laidOutP (of_decide_eq_true (by kernel_rfl)) (of_decide_eq_true (by kernel_rfl)) keyTypeP (by rw [Tryz.underlying43])
theorem lawP : Keyed Tryz.prog 43 := Keyed.of_law lawWP
theorem sizeP : ∃ n, Tryz.prog.types.size = n + 1 := ⟨Tryz.prog.types.size - 1, by kernel_rfl⟩
theorem lits_event (n : Nat) (a b : Int) (ha : (Lit.int .i64 a).wf = true) (hb : (Lit.int .i64 b).wf = true) : Tryz.prog.keyLits (n + 2) 30 [.int .i64 a, .int .i64 b] = some [.int .i64 a, .int .i64 b] := by
  have hc : Tryz.prog.cellsOf 30 = 2 := by kernel_rfl
  have hi : Tryz.prog.cellsOf 3 = 1 := by kernel_rfl
  unfold Program.keyLits
  simp [Tryz.underlying30, hc, hi, Program.keyLits, Tryz.underlying3, ha, hb]
theorem lits_pair (n : Nat) (p : Pr) (h : okPair p) : Tryz.prog.keyLits (n + 3) 43 (pairCells p) = some (litsP p) := by
  have hc : Tryz.prog.cellsOf 43 = 4 := by kernel_rfl
  have hi : Tryz.prog.cellsOf 30 = 2 := by kernel_rfl
  have hs : Tryz.prog.cellsOf 9 = 1 := by kernel_rfl
  have he := lits_event n p.f2.f0 p.f2.f1 (wf_of_okI h.2.2.1) (wf_of_okI h.2.2.2)
  have h0 : p.f0.size ≤ maxLen := h.1
  have h1 : p.f1.size ≤ maxLen := h.2.1
  unfold Program.keyLits
  simp [Tryz.underlying43, hc, hi, hs, pairCells, he]
  simp [Program.keyLits, Tryz.underlying9, h0, h1, litsP]
set_option maxRecDepth 100000 in
theorem keyOf_pair (p : Pr) (h : okPair p) : keyOf Tryz.prog 43 (valP p) = some (.string (kbP p)) := by
  have hf : (valP p).formed Tryz.prog 43 = true := by
    have hc : Tryz.prog.cellsOf 43 = 4 := by kernel_rfl
    simp [valP, Value.formed, Tryz.underlying43, hc]
  obtain ⟨n, hn⟩ : ∃ n, Tryz.prog.types.size = n + 2 := ⟨Tryz.prog.types.size - 2, by kernel_rfl⟩
  have hl := lits_pair n p h
  unfold keyOf
  rw [Tryz.underlying43, keyTypeP, hf, hn]
  show Option.map _ (Tryz.prog.keyLits (n + 3) 43 (pairCells p)) = _
  rw [hl]
  rfl
set_option maxRecDepth 100000 in
theorem kbP_inj {p q : Pr} (hp : okPair p) (hq : okPair q) (h : kbP p = kbP q) : p = q := by
  have h1 := keyOf_pair p hp
  have h2 := keyOf_pair q hq
  rw [h] at h1
  have h3 := lawWP.inj h1 h2
  unfold valP at h3
  injection h3 with h3
  obtain ⟨a, b, c, d⟩ := p
  obtain ⟨a', b', c', d'⟩ := q
  simp at h3
  obtain ⟨rfl, rfl, rfl, rfl⟩ := h3
  rfl
theorem okI_of_wf {n : Int} (h : (Lit.int .i64 n).wf = true) : okI n := okI_of h
set_option maxRecDepth 100000 in
theorem int_inv (n : Nat) {c : Value} {ls : List Lit} (h : Tryz.prog.keyLits (n + 1) 3 [c] = some ls) : ∃ a, c = .int .i64 a ∧ ls = [.int .i64 a] ∧ okI a := by
  unfold Program.keyLits at h
  rw [Tryz.underlying3] at h
  cases c <;> simp at h
  obtain ⟨⟨rfl, h1⟩, rfl⟩ := h
  exact ⟨_, rfl, rfl, okI_of h1⟩
set_option maxRecDepth 100000 in
theorem str_inv (n : Nat) {c : Value} {ls : List Lit} (h : Tryz.prog.keyLits (n + 1) 9 [c] = some ls) : ∃ a, c = .string a ∧ ls = [.string a.data.toList] ∧ okT a := by
  unfold Program.keyLits at h
  rw [Tryz.underlying9] at h
  cases c <;> simp at h
  obtain ⟨h1, rfl⟩ := h
  exact ⟨_, rfl, rfl, h1⟩
set_option maxRecDepth 100000 in
theorem event_inv (n : Nat) {cs : List Value} {ls : List Lit} (h : Tryz.prog.keyLits (n + 2) 30 cs = some ls) : ∃ a b, cs = [.int .i64 a, .int .i64 b] ∧ ls = [.int .i64 a, .int .i64 b] ∧ okI a ∧ okI b := by
  have hc : Tryz.prog.cellsOf 30 = 2 := by kernel_rfl
  have hi : Tryz.prog.cellsOf 3 = 1 := by kernel_rfl
  unfold Program.keyLits at h
  simp only [Tryz.underlying30, hc] at h
  split at h
  case isFalse => cases h
  case isTrue hh =>
  obtain ⟨c0, c1, rfl⟩ := len2 hh.1
  simp [hi, Option.bind_eq_some_iff] at h
  obtain ⟨x, hx, _, ⟨y, hy, rfl⟩, rfl⟩ := h
  obtain ⟨a, rfl, rfl, ha⟩ := int_inv n hx
  obtain ⟨b, rfl, rfl, hb⟩ := int_inv n hy
  exact ⟨a, b, rfl, rfl, ha, hb⟩
set_option maxRecDepth 100000 in
theorem pair_inv (n : Nat) {cs : List Value} {ls : List Lit} (h : Tryz.prog.keyLits (n + 3) 43 cs = some ls) : ∃ p : Pr, cs = pairCells p ∧ ls = litsP p ∧ okPair p := by
  have hc : Tryz.prog.cellsOf 43 = 4 := by kernel_rfl
  have hi : Tryz.prog.cellsOf 30 = 2 := by kernel_rfl
  have hs : Tryz.prog.cellsOf 9 = 1 := by kernel_rfl
  unfold Program.keyLits at h
  simp only [Tryz.underlying43, hc] at h
  split at h
  case isFalse => cases h
  case isTrue hh =>
  obtain ⟨c0, c1, c2, c3, rfl⟩ := len4 hh.1
  simp [hi, hs, Option.bind_eq_some_iff] at h
  obtain ⟨x, hx, _, ⟨y, hy, _, ⟨z, hz, rfl⟩, rfl⟩, rfl⟩ := h
  obtain ⟨a, rfl, rfl, ha⟩ := str_inv (n + 1) hx
  obtain ⟨b, rfl, rfl, hb⟩ := str_inv (n + 1) hy
  obtain ⟨c, d, e, rfl, hc, hd⟩ := event_inv n hz
  cases e
  exact ⟨⟨a, b, ⟨c, d⟩⟩, rfl, rfl, ha, hb, hc, hd⟩
set_option maxRecDepth 100000 in
theorem keyOf_inv {v : Value} {kl : Lit} (h : keyOf Tryz.prog 43 v = some kl) : ∃ p : Pr, v = valP p ∧ kl = .string (kbP p) ∧ okPair p := by
  obtain ⟨n, hn⟩ : ∃ n, Tryz.prog.types.size = n + 2 := ⟨Tryz.prog.types.size - 2, by kernel_rfl⟩
  unfold keyOf at h
  rw [Tryz.underlying43, hn] at h
  simp only [keyTypeP, Bool.true_and] at h
  split at h
  case isFalse => cases h
  case isTrue hf =>
  obtain ⟨ls, hl, rfl⟩ := Option.map_eq_some_iff.1 h
  obtain ⟨p, hp, rfl, ho⟩ := pair_inv n hl
  refine ⟨p, ?_, rfl, ho⟩
  cases v <;> simp [Value.formed, Tryz.underlying43] at hf
  rename_i cs
  have : cs.toList = pairCells p := by simpa [Value.cells] using hp
  rw [valP_cells, ← this]
abbrev MapQ := List (Pr × Int)
def qLt (x y : Pr × Int) : Prop := Op.bytesLess (kbP x.1) (kbP y.1) = true
def entQ (p : Pr × Int) : Lit × DataW Unit := (.string (kbP p.1), .lit (.int .i64 p.2))
def datQ (es : MapQ) : DataW Unit := .map (es.map entQ)
def getQ (es : MapQ) (k : Pr) : Int := match es with
  | [] => 0
  | p :: l => if kbP p.1 = kbP k then p.2 else getQ l k
def setQ (es : MapQ) (k : Pr) (n : Int) : MapQ := match es with
  | [] => [(k, n)]
  | p :: l => if Op.bytesLess (kbP p.1) (kbP k) then p :: setQ l k n else if kbP p.1 = kbP k then (k, n) :: l else (k, n) :: p :: l
theorem setQ_mem {es : MapQ} {k : Pr} {n : Int} {p : Pr × Int} (h : p ∈ setQ es k n) : p = (k, n) ∨ p ∈ es := by
  induction es with
  | nil => simpa [setQ] using h
  | cons y l ih =>
    unfold setQ at h
    split at h
    · rcases List.mem_cons.1 h with rfl | h
      · exact .inr List.mem_cons_self
      · rcases ih h with h | h
        · exact .inl h
        · exact .inr (List.mem_cons_of_mem _ h)
    · split at h
      · rcases List.mem_cons.1 h with rfl | h
        · exact .inl rfl
        · exact .inr (List.mem_cons_of_mem _ h)
      · rcases List.mem_cons.1 h with rfl | h
        · exact .inl rfl
        · exact .inr h
theorem setQ_up {es : MapQ} {k : Pr} {n : Int} (h : es.Pairwise qLt) : (setQ es k n).Pairwise qLt := by
  induction es with
  | nil => exact List.pairwise_singleton _ _
  | cons y l ih =>
    rw [List.pairwise_cons] at h
    unfold setQ
    cases hy : Op.bytesLess (kbP y.1) (kbP k) with
    | true =>
      rw [if_pos rfl, List.pairwise_cons]
      refine ⟨fun p hp => ?_, ih h.2⟩
      rcases setQ_mem hp with rfl | hp
      · exact hy
      · exact h.1 p hp
    | false =>
      rw [if_neg (by simp)]
      by_cases he : kbP y.1 = kbP k
      · rw [if_pos he, List.pairwise_cons]
        exact ⟨fun p hp => by have := h.1 p hp; unfold qLt at this ⊢; rw [he] at this; exact this, h.2⟩
      · rw [if_neg he, List.pairwise_cons, List.pairwise_cons]
        have hk : Op.bytesLess (kbP k) (kbP y.1) = true := by
          cases q : Op.bytesLess (kbP k) (kbP y.1) with
          | true => rfl
          | false => exact absurd (less_antisymm hy q) he
        refine ⟨fun p hp => ?_, h⟩
        rcases List.mem_cons.1 hp with rfl | hp
        · exact hk
        · exact less_trans hk (h.1 p hp)
theorem getQ_set (es : MapQ) (k j : Pr) (n : Int) : getQ (setQ es k n) j = if kbP j = kbP k then n else getQ es j := by
  induction es with
  | nil =>
    simp only [setQ, getQ]
    by_cases h : kbP j = kbP k
    · rw [if_pos h.symm, if_pos h]
    · rw [if_neg (fun e => h e.symm), if_neg h]
  | cons y l ih =>
    unfold setQ
    cases hy : Op.bytesLess (kbP y.1) (kbP k) with
    | true =>
      rw [if_pos rfl]
      simp only [getQ]
      by_cases h : kbP y.1 = kbP j
      · rw [if_pos h, if_pos h]
        have : kbP j ≠ kbP k := fun e => by rw [h, e, less_irrefl] at hy; cases hy
        rw [if_neg this]
      · rw [if_neg h, if_neg h, ih]
    | false =>
      rw [if_neg (by simp)]
      by_cases he : kbP y.1 = kbP k
      · rw [if_pos he]
        simp only [getQ]
        by_cases h : kbP j = kbP k
        · rw [if_pos h.symm, if_pos h]
        · rw [if_neg (fun e => h e.symm), if_neg h, if_neg (fun e => h (e.symm.trans he))]
      · rw [if_neg he]
        simp only [getQ]
        by_cases h : kbP j = kbP k
        · rw [if_pos h.symm, if_pos h]
        · rw [if_neg (fun e => h e.symm), if_neg h]
theorem filt_allQ {l : MapQ} {k : Pr} (h : ∀ p ∈ l, kbP p.1 ≠ kbP k) : (l.map entQ).filter (fun p => !p.1.sameKey (.string (kbP k))) = l.map entQ := by
  rw [List.filter_eq_self]
  intro a ha
  obtain ⟨p, hp, rfl⟩ := List.mem_map.1 ha
  simp only [entQ, Lit.sameKey, Bool.not_eq_true', beq_eq_false_iff_ne, ne_eq]
  exact h p hp
theorem ins_frontQ {l : MapQ} {k : Pr} {n : Int} (h : ∀ p ∈ l, Op.bytesLess (kbP k) (kbP p.1) = true) : DataW.insert (entQ (k, n)) (l.map entQ) = entQ (k, n) :: l.map entQ := by
  cases l with
  | nil => rfl
  | cons y l =>
    have := h y List.mem_cons_self
    simp only [List.map_cons, DataW.insert]
    rw [if_pos]
    simp only [entQ, Lit.before]
    rw [before_less]
    exact this
theorem put_listQ : ∀ (es : MapQ) (k : Pr) (n : Int), es.Pairwise qLt → DataW.insert (entQ (k, n)) ((es.map entQ).filter (fun p => !p.1.sameKey (.string (kbP k)))) = (setQ es k n).map entQ
  | [], k, n, _ => rfl
  | y :: l, k, n, hp => by
    rw [List.pairwise_cons] at hp
    have ih := put_listQ l k n hp.2
    unfold setQ
    cases hy : Op.bytesLess (kbP y.1) (kbP k) with
    | true =>
      have hne : kbP y.1 ≠ kbP k := fun e => by rw [e, less_irrefl] at hy; cases hy
      rw [if_pos rfl, List.map_cons, List.filter_cons_of_pos, DataW.insert, if_neg, ih, List.map_cons]
      · simp only [entQ, Lit.before]
        rw [before_less, less_asymm hy]
        simp
      · simp only [entQ, Lit.sameKey, Bool.not_eq_true', beq_eq_false_iff_ne, ne_eq]
        exact hne
    | false =>
      rw [if_neg (by simp)]
      by_cases he : kbP y.1 = kbP k
      · have hgt : ∀ p ∈ l, Op.bytesLess (kbP k) (kbP p.1) = true := fun p hp' => by have := hp.1 p hp'; unfold qLt at this; rw [he] at this; exact this
        rw [if_pos he, List.map_cons, List.filter_cons_of_neg, filt_allQ, ins_frontQ hgt, List.map_cons]
        · intro p hp' e
          have := hgt p hp'
          rw [e, less_irrefl] at this; cases this
        · simp [entQ, Lit.sameKey, he]
      · have hk : Op.bytesLess (kbP k) (kbP y.1) = true := by
          cases q : Op.bytesLess (kbP k) (kbP y.1) with
          | true => rfl
          | false => exact absurd (less_antisymm hy q) he
        have hgt : ∀ p ∈ y :: l, Op.bytesLess (kbP k) (kbP p.1) = true := fun p hp' => by
          rcases List.mem_cons.1 hp' with rfl | hp'
          · exact hk
          · exact less_trans hk (hp.1 p hp')
        rw [if_neg he, filt_allQ, ins_frontQ hgt]
        · rfl
        intro p hp' e
        have := hgt p hp'
        rw [e, less_irrefl] at this; cases this
theorem put_datQ {es : MapQ} (k : Pr) (n : Int) (h : es.Pairwise qLt) : (datQ es).put (.string (kbP k)) (.lit (.int .i64 n)) = datQ (setQ es k n) := by
  unfold datQ DataW.put
  exact congrArg DataW.map (put_listQ es k n h)
theorem at_datQ : ∀ (es : MapQ) (k : Pr), (datQ es).atKey (.string (kbP k)) (.lit (.int .i64 0)) = .lit (.int .i64 (getQ es k))
  | [], k => rfl
  | y :: l, k => by
    have ih := at_datQ l k
    unfold datQ DataW.atKey at ih ⊢
    simp only [List.map_cons, List.find?_cons] at ih ⊢
    unfold getQ
    by_cases he : kbP y.1 = kbP k
    · rw [if_pos he]
      have : (entQ y).1.sameKey (.string (kbP k)) = true := by simp [entQ, Lit.sameKey, he]
      simp only [this]; rfl
    · rw [if_neg he]
      have : (entQ y).1.sameKey (.string (kbP k)) = false := by
        simp only [entQ, Lit.sameKey, beq_eq_false_iff_ne, ne_eq]
        exact he
      simp only [this]
      exact ih
theorem size_datQ (es : MapQ) : Maps.size (datQ es) = es.length := by
  simp [Maps.size, datQ]
abbrev OwnsQ (w : World) (gb n : Nat) (es : MapQ) : Prop := w.ownsMap Tryz.prog 43 (plainElem (H := Unit) Tryz.prog 3) gb n (datQ es)
theorem zeroQ (w : World) : (zeroValue 3).run Tryz.prog w = .ok (.int .i64 0) w := by kernel_rfl
theorem setBlock_same {w : World} {b : Nat} {o : Obj} (h : w.heap[b]? = some o) : ChangeMaps.setBlock w b o = w := by
  unfold ChangeMaps.setBlock
  have : w.heap.setIfInBounds b o = w.heap := by
    apply Array.ext_getElem?
    intro i
    rw [Array.getElem?_setIfInBounds]
    split
    · rename_i e; subst e
      split
      · exact h.symm
      · rename_i hb
        have := blk_lt h
        omega
    · rfl
  rw [this]
theorem setBlock_twice (w : World) (b : Nat) (o o' : Obj) : ChangeMaps.setBlock (ChangeMaps.setBlock w b o) b o' = ChangeMaps.setBlock w b o' := by
  unfold ChangeMaps.setBlock
  simp
theorem wfI0 : (Lit.int .i64 0).wf = true := by decide
set_option maxRecDepth 100000 in
theorem incQ_run {w : World} {gb n : Nat} {es : MapQ} (hown : OwnsQ w gb n es) (hup : es.Pairwise qLt) (hn : n < maxLen) (p : Pr) (hp : okPair p) :
    ∃ (st : Nat) (w2 : World),
      (Instr.lookup 104 (.map (some gb)) (valP p) false).run Tryz.prog w = .ok (.int .i64 (getQ es p)) w ∧
      (Instr.mapEntry 104 (.map (some gb)) (valP p)).run Tryz.prog w = .ok (.tuple #[.int .i64 (getQ es p), goInt st]) w2 ∧
      (Instr.lookup 104 (.map (some gb)) (valP p) false).run Tryz.prog w2 = .ok (.int .i64 (getQ es p)) w2 ∧ w.grownBy w2 (some gb) ∧
      ∀ (val : Int), (Lit.int .i64 val).wf = true → ∃ w3, (Instr.entryStore 104 (.map (some gb)) (goInt st) (.int .i64 val)).run Tryz.prog w2 = .ok () w3 ∧ OwnsQ w3 gb (n + 1) (setQ es p val) ∧ w.grownBy w3 (some gb) := by
  have hkey := keyOf_pair p hp
  have ht := Tryz.underlying104
  obtain ⟨c, hl, hat, hwc⟩ := hown.lookup_int lawP ht Tryz.underlying3 (zeroQ w) hkey
  rw [at_datQ] at hat
  injection hat with hat
  injection hat with _ hat
  subst hat
  obtain ⟨es0, clock, hb, F, hs, hD⟩ := hown
  have hz : ∀ u : World, (zeroValue 3).run Tryz.prog u = .ok (.int .i64 0) u := zeroQ
  obtain ⟨v0, st, es1, clock1, h1, h2, h3⟩ := WideElems.entry_then_store lawWP ht hz hb F hkey
  have hgr : ∀ o, w.grownBy (ChangeMaps.setBlock w gb o) (some gb) := fun o => ⟨rfl, rfl, rfl, by simp [ChangeMaps.setBlock], fun i _ hi => ChangeMaps.heap_setBlock_other hb _ (fun e => hi (by rw [e]))⟩
  have hst : ∀ (val : Int), (Lit.int .i64 val).wf = true → ∃ w3, (Instr.entryStore 104 (.map (some gb)) (goInt st) (.int .i64 val)).run Tryz.prog (ChangeMaps.setBlock w gb (.map es1 clock1)) = .ok () w3 ∧ OwnsQ w3 gb (n + 1) (setQ es p val) ∧ w.grownBy w3 (some gb) := by
    intro val hv
    obtain ⟨es', clock', r1, r2⟩ := h3 (ChangeMaps.setBlock w gb (.map es1 clock1)) (.int .i64 val) (ChangeMaps.heap_setBlock_same hb _)
    obtain ⟨w', q1, q2, q3⟩ := World.ownsMap.update (R := plainElem (H := Unit) Tryz.prog 3) ⟨es0, clock, hb, F, hs, hD⟩ lawP ht hn hkey (plainElem_int Tryz.underlying3 hv)
    rw [q1] at r2
    injection r2 with _ r2
    rw [setBlock_twice] at r1
    exact ⟨_, r1, by rw [← r2]; rw [put_datQ _ _ hup] at q2; exact q2, hgr _⟩
  rcases lawWP.find w hkey es0.toList F.keys with ⟨hf, hne⟩ | ⟨j, e0, hf, hj, hk⟩
  · have hm : (Instr.mapEntry 104 (.map (some gb)) (valP p)).run Tryz.prog w = .ok (.tuple #[.int .i64 0, goInt (clock : Nat)]) (ChangeMaps.setBlock w gb (.map (es0.push ⟨valP p, .int .i64 0, clock⟩) (clock + 1))) := by
      simp [Instr.mapEntry, run_underlying ht, MapKept.run_getObj_map hb, lawWP.check w false hkey, hf, hz, MapKept.run_setObj_map _ hb, Result.andThen, ChangeMaps.setBlock]
    have hu : (Instr.mapUpdate 104 (.map (some gb)) (valP p) (.int .i64 0)).run Tryz.prog w = .ok () (ChangeMaps.setBlock w gb (.map (es0.push ⟨valP p, .int .i64 0, clock⟩) (clock + 1))) := by
      simp [Instr.mapUpdate, run_underlying ht, MapKept.run_getObj_map hb, lawWP.check w false hkey, hf, MapKept.run_setObj_map _ hb, Result.andThen, ChangeMaps.setBlock]
    have h0 : getQ es p = 0 := by
      have : (Instr.lookup 104 (.map (some gb)) (valP p) false).run Tryz.prog w = .ok (.int .i64 0) w := by
        simp [Instr.lookup, run_underlying ht, MapKept.run_getObj_map hb, lawWP.check w es0.isEmpty hkey, hf, hz, Result.andThen]
      rw [hl] at this
      injection this with this
      injection this
    obtain ⟨w', q1, q2, _⟩ := World.ownsMap.update (R := plainElem (H := Unit) Tryz.prog 3) ⟨es0, clock, hb, F, hs, hD⟩ lawP ht hn hkey (plainElem_int Tryz.underlying3 wfI0)
    rw [hu] at q1
    injection q1 with _ q1
    rw [put_datQ _ _ hup] at q2
    rw [hm] at h1
    injection h1 with h1a h1b
    obtain ⟨c2, g1, g2, _⟩ := World.ownsMap.lookup_int q2 lawP ht Tryz.underlying3 (zeroQ w') hkey
    rw [at_datQ, getQ_set, if_pos rfl] at g2
    injection g2 with g2
    injection g2 with _ g2
    subst g2
    have hv0 : v0 = .int .i64 0 ∧ goInt (st : Nat) = goInt (clock : Nat) := by
      injection h1a with h1a
      simp at h1a
      exact ⟨h1a.1.symm, by rw [h1a.2]⟩
    refine ⟨st, w', hl, ?_, ?_, by rw [← q1]; exact hgr _, ?_⟩
    · rw [hm, h0, hv0.2, q1]
    · rw [h0]; exact g1
    · intro val hv
      rw [← q1, h1b]
      exact hst val hv
  · have hjj : es0[j]? = some e0 := by simpa using hj
    have hsame : es0.modify j (fun e => { e with key := valP p }) = es0 := by
      apply Array.ext_getElem?
      intro i
      rw [Array.getElem?_modify]
      split
      · rename_i e; subst e
        rw [hjj]
        simp [← hk]
      · rfl
    have hm : (Instr.mapEntry 104 (.map (some gb)) (valP p)).run Tryz.prog w = .ok (.tuple #[e0.val, goInt (e0.born : Nat)]) (ChangeMaps.setBlock w gb (.map es0 clock)) := by
      simp [Instr.mapEntry, run_underlying ht, MapKept.run_getObj_map hb, lawWP.check w false hkey, hf, hjj, hk, lawWP.stays w hkey, hsame, MapKept.run_setObj_map _ hb, Result.andThen, ChangeMaps.setBlock]
    have h0 : e0.val = .int .i64 (getQ es p) := by
      have : (Instr.lookup 104 (.map (some gb)) (valP p) false).run Tryz.prog w = .ok e0.val w := by
        simp [Instr.lookup, run_underlying ht, MapKept.run_getObj_map hb, lawWP.check w es0.isEmpty hkey, hf, hz, Result.andThen]
      rw [hl] at this
      injection this with this
      exact this.symm
    rw [setBlock_same hb] at hm
    rw [hm] at h1
    injection h1 with h1a h1b
    have hv0 : goInt (st : Nat) = goInt (e0.born : Nat) := by
      injection h1a with h1a
      simp at h1a
      rw [h1a.2]
    refine ⟨st, w, hl, ?_, hl, ⟨rfl, rfl, rfl, Nat.le_refl _, fun _ _ _ => rfl⟩, ?_⟩
    · rw [hm, h0, hv0]
    · intro val hv
      have := hst val hv
      rwa [← h1b] at this
end Go.Proofs.YtmcddoolniaehaaGreat.S
end
section
namespace Go.Proofs.YtmcddoolniaehaaGreat.S
open Go.RowKit Go.Proofs.YtmcddoolniaehaaGreatW.PrintWords Go.Proofs.YtmcddoolniaehaaGreatW.PrintLast Go.Proofs.YtmcddoolniaehaaGreatW.PrintMore
attribute [local go_sem] max2_int min2_int max_two min_two max_three min_three max_four min_four   -- for this text's walks alone
set_option linter.unusedVariables false
set_option linter.unusedSimpArgs false

def cmp_Or_int.l0 : Nat → Int → List Int → Int → Int → Option (Int)
 | 0, _, _, _, _ => none
 | k + 1, x3, x6, x7, x8 => if x8 < x7 then (if 0 ≤ x8 then (if x8 < (x6.length : Int) then (if (rd x6 x8) = x3 then (cmp_Or_int.l0 k x3 x6 x7 (wrap64 (x8 + 1))) else (some (rd x6 x8))) else (none)) else (none)) else (some x3)
def cmp_Or_int.f (k : Nat) (l0 : List Int) : Option (Int) := cmp_Or_int.l0 k 0 l0 (l0.length : Int) 0
theorem cmp_Or_int.mono_l : ∀ k, (∀ y0 y1 y2 y3, LeO (cmp_Or_int.l0 k y0 y1 y2 y3) (cmp_Or_int.l0 (k + 1) y0 y1 y2 y3))
 | 0 => fun _ _ _ _ r h => by simp [cmp_Or_int.l0] at h
 | k + 1 => by
  have ih0 := cmp_Or_int.mono_l k
  ·intro y0 y1 y2 y3
   unfold cmp_Or_int.l0
   repeat' first
   | (with_reducible exact ih0 _ _ _ _)
   | (with_reducible exact LeO.refl _)
   | (with_reducible exact LeO.none _)
   | (with_reducible refine LeO.ite ?_ ?_)
   | (with_reducible refine LeO.bind ?_ (fun _ => ?_))
   | exact ih0 _ _ _ _
   | exact LeO.none _
   | refine LeO.ite ?_ ?_
   | refine LeO.bind ?_ (fun _ => ?_)
theorem cmp_Or_int.mono : ∀ a0 k, LeO (cmp_Or_int.f k a0) (cmp_Or_int.f (k + 1) a0) := by
 intro a0 k
 have ih0 := cmp_Or_int.mono_l k
 unfold cmp_Or_int.f
 repeat' first
   | (with_reducible exact ih0 _ _ _ _)
   | (with_reducible exact LeO.refl _)
   | (with_reducible exact LeO.none _)
   | (with_reducible refine LeO.ite ?_ ?_)
   | (with_reducible refine LeO.bind ?_ (fun _ => ?_))
   | exact ih0 _ _ _ _
   | exact LeO.none _
   | refine LeO.ite ?_ ?_
   | refine LeO.bind ?_ (fun _ => ?_)
set_option maxHeartbeats 8000000 in
set_option maxRecDepth 100000 in
theorem cmp_Or_int.calls (k : Nat) (A0 : Option Addr) (c0 : Nat) (l0 : List Int) (r : Int) (w : World) (hr0 : Kd.C (Kd.int .i64) w A0 l0.length l0) (hc0 : l0.length ≤ c0) (h : cmp_Or_int.f k l0 = some r) :
  Calls Tryz.prog 127 #[.slice A0 l0.length c0] w fun e w' => e = .returned (.int .i64 r) ∧ Drawn0 w w' := by
 have HR0 := Aside0.mk hr0
 have HC0 := Aside0.mk hc0
 clear hr0 hc0
 have H : (cmp_Or_int.l0 k 0 l0 (l0.length : Int) 0) = some r := h
 clear h
 have H' := Aside0.mk H
 clear H
 go_enter Tryz.func127, Tryz.ntmps127
 go_wp2
 go_loopg [8] k (fun kq v8 w' => ∃ (x8_1 : Int), v8 = .int .i64 x8_1 ∧ Aside0 (cmp_Or_int.l0 kq 0 l0 (l0.length : Int) x8_1 = some r) ∧ Aside0 (kq ≤ k) ∧ Drawn0 w w')
 case atStart => exact ⟨(0), (by first | rfl | (simp; done) | (simp [*]; done)), H', ⟨Nat.le_refl _⟩, by repeat (first | exact Drawn0.refl _ | apply Drawn0.step)⟩
 case round =>
  clear H'
  try clear c1
  obtain ⟨x8_1, rfl, HA, HK1, ⟨m1, rfl⟩⟩ := hrel
  cases gk with
  | zero => exact absurd HA.out (by simp [cmp_Or_int.l0])
  | succ k1 =>
   have H := HA.out
   clear HA
   simp only [cmp_Or_int.l0] at H
   by_cases c2 : x8_1 < (l0.length : Int)
   ·rw [if_pos c2] at H
    have c2b0 : decide (x8_1 < (l0.length : Int)) = true := decide_eq_true c2
    clear c2
    by_cases c3 : 0 ≤ x8_1
    ·rw [if_pos c3] at H
     have c3b0 : decide (0 ≤ x8_1) = true := decide_eq_true c3
     clear c3
     by_cases c4 : x8_1 < (l0.length : Int)
     ·rw [if_pos c4] at H
      have c4b0 : decide (x8_1 < (l0.length : Int)) = true := decide_eq_true c4
      clear c4
      by_cases c5 : (rd l0 x8_1) = 0
      ·rw [if_pos c5] at H
       have c5b0 : ((rd l0 x8_1) == 0) = true := beq_iff_eq.mpr c5
       have c5b1 : ((rd l0 x8_1) != 0) = false := bne_eq_false_iff_eq.mpr c5
       clear c5
       have H' := Aside0.mk H
       clear H
       have p104 : 0 ≤ (x8_1 : Int) := of_decide_eq_true (by first | (with_reducible assumption) | assumption)
       have q104 : x8_1 < (l0.length : Int) := of_decide_eq_true (by first | (with_reducible assumption) | assumption)
       obtain ⟨ad104, e104, hx104_0⟩ := Kd.at_int HR0.out x8_1 p104 q104
       cases e104
       replace p104 := eq_true p104
       replace q104 := eq_true q104
       go_wp2
       go_roundg k1
       case measure => have := HK1.out; omega
       case rel => exact ⟨(wrap64 (x8_1 + 1)), (by first | rfl | (simp; done) | (simp [*]; done)), H', ⟨by have := HK1.out; omega⟩, by repeat (first | exact Drawn0.refl _ | apply Drawn0.step)⟩
      ·rw [if_neg c5] at H
       have c5b0 : ((rd l0 x8_1) == 0) = false := beq_eq_false_iff_ne.mpr c5
       have c5b1 : ((rd l0 x8_1) != 0) = true := bne_iff_ne.mpr c5
       obtain rfl := Option.some.inj H
       have p104 : 0 ≤ (x8_1 : Int) := of_decide_eq_true (by first | (with_reducible assumption) | assumption)
       have q104 : x8_1 < (l0.length : Int) := of_decide_eq_true (by first | (with_reducible assumption) | assumption)
       obtain ⟨ad104, e104, hx104_0⟩ := Kd.at_int HR0.out x8_1 p104 q104
       cases e104
       replace p104 := eq_true p104
       replace q104 := eq_true q104
       go_wp2
       go_ret
       exact ⟨by first | rfl | (simp; done) | (simp [*]; done), by repeat (first | exact Drawn0.refl _ | apply Drawn0.step)⟩
     ·rw [if_neg c4] at H
      exact absurd H (by simp)
    ·rw [if_neg c3] at H
     exact absurd H (by simp)
   ·rw [if_neg c2] at H
    have c2b0 : decide (x8_1 < (l0.length : Int)) = false := decide_eq_false c2
    clear c2
    obtain rfl := Option.some.inj H
    go_wp2
    go_ret
    exact ⟨by first | rfl | (simp; done) | (simp [*]; done), by repeat (first | exact Drawn0.refl _ | apply Drawn0.step)⟩

def cmp_isNaN_string.f (a0 : ByteArray) : Option (Bool) := some (a0.toList != a0.toList)
set_option maxHeartbeats 8000000 in
set_option maxRecDepth 100000 in
theorem cmp_isNaN_string.calls (a0 : ByteArray) (r : Bool) (w : World) (h : cmp_isNaN_string.f a0 = some r) :
  Calls Tryz.prog 146 #[.string a0] w fun e w' => e = .returned (.bool r) ∧ Drawn0 w w' := by
 have H : (some (a0.toList != a0.toList)) = some r := h
 clear h
 obtain rfl := Option.some.inj H
 go_enter Tryz.func146, Tryz.ntmps146
 go_wp2
 go_ret
 exact ⟨by first | rfl | (simp; done) | (simp [*]; done), by repeat (first | exact Drawn0.refl _ | apply Drawn0.step)⟩

def cmp_Compare_string.f (a0 : ByteArray) (a1 : ByteArray) : Option (Int) := (cmp_isNaN_string.f a0).bind fun t105 => ((cmp_isNaN_string.f a1).bind fun t106 => (if t105 = true then (if t106 = true then (some 0) else (some (-1))) else (if t106 = true then (some 1) else (if (Op.bytesLess a0.toList a1.toList) = true then (some (-1)) else (if (Op.bytesLess a1.toList a0.toList) = true then (some 1) else (some 0))))))
set_option maxHeartbeats 8000000 in
set_option maxRecDepth 100000 in
theorem cmp_Compare_string.calls (a0 : ByteArray) (a1 : ByteArray) (r : Int) (w : World) (h : cmp_Compare_string.f a0 a1 = some r) :
  Calls Tryz.prog 128 #[.string a0, .string a1] w fun e w' => e = .returned (.int .i64 r) ∧ Drawn0 w w' := by
 have H : ((cmp_isNaN_string.f a0).bind fun t105 => ((cmp_isNaN_string.f a1).bind fun t106 => (if t105 = true then (if t106 = true then (some 0) else (some (-1))) else (if t106 = true then (some 1) else (if (Op.bytesLess a0.toList a1.toList) = true then (some (-1)) else (if (Op.bytesLess a1.toList a0.toList) = true then (some 1) else (some 0))))))) = some r := h
 clear h
 replace H := Option.bind_eq_some_iff.mp H
 obtain ⟨t105, A30, H⟩ := H
 replace H : ((cmp_isNaN_string.f a1).bind fun t106 => (if t105 = true then (if t106 = true then (some 0) else (some (-1))) else (if t106 = true then (some 1) else (if (Op.bytesLess a0.toList a1.toList) = true then (some (-1)) else (if (Op.bytesLess a1.toList a0.toList) = true then (some 1) else (some 0)))))) = some r := H
 have A3 := Aside0.mk A30
 clear A30
 replace H := Option.bind_eq_some_iff.mp H
 obtain ⟨t106, A40, H⟩ := H
 replace H : (if t105 = true then (if t106 = true then (some 0) else (some (-1))) else (if t106 = true then (some 1) else (if (Op.bytesLess a0.toList a1.toList) = true then (some (-1)) else (if (Op.bytesLess a1.toList a0.toList) = true then (some 1) else (some 0))))) = some r := H
 have A4 := Aside0.mk A40
 clear A40
 by_cases c5 : t105 = true
 ·subst c5
  have H1 : (if t106 = true then (some 0) else (some (-1))) = some r := by rw [if_pos rfl] at H; exact H
  clear H
  have H := H1
  clear H1
  by_cases c6 : t106 = true
  ·subst c6
   have H1 : (some 0) = some r := by rw [if_pos rfl] at H; exact H
   clear H
   have H := H1
   clear H1
   obtain rfl := Option.some.inj H
   go_enter Tryz.func128, Tryz.ntmps128
   go_wp2_with (first | ((with_reducible refine gate_callee (f := 146) rfl ?_); refine goesL_ (some 8) rfl rfl Tryz.func146 (by kernel_rfl) rfl #[.string a0] rfl (by (try simp only [List.map_toArray, List.map_cons, List.map_nil]); first | done | rfl | (simp only [List.length_drop, List.length_take]; rfl)) ?_; (with_reducible refine (cmp_isNaN_string.calls a0 true _ A3.out).mono ?_); rintro e w' ⟨rfl, ⟨nd, rfl⟩⟩; refine ⟨_, rfl, ?_⟩) | ((with_reducible refine gate_callee (f := 146) rfl ?_); refine goesL_ (some 10) rfl rfl Tryz.func146 (by kernel_rfl) rfl #[.string a1] rfl (by (try simp only [List.map_toArray, List.map_cons, List.map_nil]); first | done | rfl | (simp only [List.length_drop, List.length_take]; rfl)) ?_; (with_reducible refine (cmp_isNaN_string.calls a1 true _ A4.out).mono ?_); rintro e w' ⟨rfl, ⟨nd, rfl⟩⟩; refine ⟨_, rfl, ?_⟩))
   go_ret
   exact ⟨by first | rfl | (simp; done) | (simp [*]; done), by repeat (first | exact Drawn0.refl _ | apply Drawn0.step)⟩
  ·replace c6 := Bool.eq_false_iff.mpr c6
   subst c6
   have H1 : (some (-1)) = some r := by rw [if_neg (show ¬ (false = true) by decide)] at H; exact H
   clear H
   have H := H1
   clear H1
   obtain rfl := Option.some.inj H
   go_enter Tryz.func128, Tryz.ntmps128
   go_wp2_with (first | ((with_reducible refine gate_callee (f := 146) rfl ?_); refine goesL_ (some 8) rfl rfl Tryz.func146 (by kernel_rfl) rfl #[.string a0] rfl (by (try simp only [List.map_toArray, List.map_cons, List.map_nil]); first | done | rfl | (simp only [List.length_drop, List.length_take]; rfl)) ?_; (with_reducible refine (cmp_isNaN_string.calls a0 true _ A3.out).mono ?_); rintro e w' ⟨rfl, ⟨nd, rfl⟩⟩; refine ⟨_, rfl, ?_⟩) | ((with_reducible refine gate_callee (f := 146) rfl ?_); refine goesL_ (some 10) rfl rfl Tryz.func146 (by kernel_rfl) rfl #[.string a1] rfl (by (try simp only [List.map_toArray, List.map_cons, List.map_nil]); first | done | rfl | (simp only [List.length_drop, List.length_take]; rfl)) ?_; (with_reducible refine (cmp_isNaN_string.calls a1 false _ A4.out).mono ?_); rintro e w' ⟨rfl, ⟨nd, rfl⟩⟩; refine ⟨_, rfl, ?_⟩))
   go_ret
   exact ⟨by first | rfl | (simp; done) | (simp [*]; done), by repeat (first | exact Drawn0.refl _ | apply Drawn0.step)⟩
 ·replace c5 := Bool.eq_false_iff.mpr c5
  subst c5
  have H1 : (if t106 = true then (some 1) else (if (Op.bytesLess a0.toList a1.toList) = true then (some (-1)) else (if (Op.bytesLess a1.toList a0.toList) = true then (some 1) else (some 0)))) = some r := by rw [if_neg (show ¬ (false = true) by decide)] at H; exact H
  clear H
  have H := H1
  clear H1
  by_cases c7 : t106 = true
  ·subst c7
   have H1 : (some 1) = some r := by rw [if_pos rfl] at H; exact H
   clear H
   have H := H1
   clear H1
   obtain rfl := Option.some.inj H
   go_enter Tryz.func128, Tryz.ntmps128
   go_wp2_with (first | ((with_reducible refine gate_callee (f := 146) rfl ?_); refine goesL_ (some 8) rfl rfl Tryz.func146 (by kernel_rfl) rfl #[.string a0] rfl (by (try simp only [List.map_toArray, List.map_cons, List.map_nil]); first | done | rfl | (simp only [List.length_drop, List.length_take]; rfl)) ?_; (with_reducible refine (cmp_isNaN_string.calls a0 false _ A3.out).mono ?_); rintro e w' ⟨rfl, ⟨nd, rfl⟩⟩; refine ⟨_, rfl, ?_⟩) | ((with_reducible refine gate_callee (f := 146) rfl ?_); refine goesL_ (some 10) rfl rfl Tryz.func146 (by kernel_rfl) rfl #[.string a1] rfl (by (try simp only [List.map_toArray, List.map_cons, List.map_nil]); first | done | rfl | (simp only [List.length_drop, List.length_take]; rfl)) ?_; (with_reducible refine (cmp_isNaN_string.calls a1 true _ A4.out).mono ?_); rintro e w' ⟨rfl, ⟨nd, rfl⟩⟩; refine ⟨_, rfl, ?_⟩))
   go_ret
   exact ⟨by first | rfl | (simp; done) | (simp [*]; done), by repeat (first | exact Drawn0.refl _ | apply Drawn0.step)⟩
  ·replace c7 := Bool.eq_false_iff.mpr c7
   subst c7
   have H1 : (if (Op.bytesLess a0.toList a1.toList) = true then (some (-1)) else (if (Op.bytesLess a1.toList a0.toList) = true then (some 1) else (some 0))) = some r := by rw [if_neg (show ¬ (false = true) by decide)] at H; exact H
   clear H
   have H := H1
   clear H1
   by_cases c8 : (Op.bytesLess a0.toList a1.toList) = true
   ·rw [if_pos c8] at H
    have c8b0 : (Op.bytesLess a0.toList a1.toList) = true := c8
    clear c8
    obtain rfl := Option.some.inj H
    go_enter Tryz.func128, Tryz.ntmps128
    go_wp2_with (first | ((with_reducible refine gate_callee (f := 146) rfl ?_); refine goesL_ (some 8) rfl rfl Tryz.func146 (by kernel_rfl) rfl #[.string a0] rfl (by (try simp only [List.map_toArray, List.map_cons, List.map_nil]); first | done | rfl | (simp only [List.length_drop, List.length_take]; rfl)) ?_; (with_reducible refine (cmp_isNaN_string.calls a0 false _ A3.out).mono ?_); rintro e w' ⟨rfl, ⟨nd, rfl⟩⟩; refine ⟨_, rfl, ?_⟩) | ((with_reducible refine gate_callee (f := 146) rfl ?_); refine goesL_ (some 10) rfl rfl Tryz.func146 (by kernel_rfl) rfl #[.string a1] rfl (by (try simp only [List.map_toArray, List.map_cons, List.map_nil]); first | done | rfl | (simp only [List.length_drop, List.length_take]; rfl)) ?_; (with_reducible refine (cmp_isNaN_string.calls a1 false _ A4.out).mono ?_); rintro e w' ⟨rfl, ⟨nd, rfl⟩⟩; refine ⟨_, rfl, ?_⟩))
    go_ret
    exact ⟨by first | rfl | (simp; done) | (simp [*]; done), by repeat (first | exact Drawn0.refl _ | apply Drawn0.step)⟩
   ·rw [if_neg c8] at H
    have c8b0 : (Op.bytesLess a0.toList a1.toList) = false := by simpa using c8
    clear c8
    by_cases c9 : (Op.bytesLess a1.toList a0.toList) = true
    ·rw [if_pos c9] at H
     have c9b0 : (Op.bytesLess a1.toList a0.toList) = true := c9
     clear c9
     obtain rfl := Option.some.inj H
     go_enter Tryz.func128, Tryz.ntmps128
     go_wp2_with (first | ((with_reducible refine gate_callee (f := 146) rfl ?_); refine goesL_ (some 8) rfl rfl Tryz.func146 (by kernel_rfl) rfl #[.string a0] rfl (by (try simp only [List.map_toArray, List.map_cons, List.map_nil]); first | done | rfl | (simp only [List.length_drop, List.length_take]; rfl)) ?_; (with_reducible refine (cmp_isNaN_string.calls a0 false _ A3.out).mono ?_); rintro e w' ⟨rfl, ⟨nd, rfl⟩⟩; refine ⟨_, rfl, ?_⟩) | ((with_reducible refine gate_callee (f := 146) rfl ?_); refine goesL_ (some 10) rfl rfl Tryz.func146 (by kernel_rfl) rfl #[.string a1] rfl (by (try simp only [List.map_toArray, List.map_cons, List.map_nil]); first | done | rfl | (simp only [List.length_drop, List.length_take]; rfl)) ?_; (with_reducible refine (cmp_isNaN_string.calls a1 false _ A4.out).mono ?_); rintro e w' ⟨rfl, ⟨nd, rfl⟩⟩; refine ⟨_, rfl, ?_⟩))
     go_ret
     exact ⟨by first | rfl | (simp; done) | (simp [*]; done), by repeat (first | exact Drawn0.refl _ | apply Drawn0.step)⟩
    ·rw [if_neg c9] at H
     have c9b0 : (Op.bytesLess a1.toList a0.toList) = false := by simpa using c9
     clear c9
     obtain rfl := Option.some.inj H
     go_enter Tryz.func128, Tryz.ntmps128
     go_wp2_with (first | ((with_reducible refine gate_callee (f := 146) rfl ?_); refine goesL_ (some 8) rfl rfl Tryz.func146 (by kernel_rfl) rfl #[.string a0] rfl (by (try simp only [List.map_toArray, List.map_cons, List.map_nil]); first | done | rfl | (simp only [List.length_drop, List.length_take]; rfl)) ?_; (with_reducible refine (cmp_isNaN_string.calls a0 false _ A3.out).mono ?_); rintro e w' ⟨rfl, ⟨nd, rfl⟩⟩; refine ⟨_, rfl, ?_⟩) | ((with_reducible refine gate_callee (f := 146) rfl ?_); refine goesL_ (some 10) rfl rfl Tryz.func146 (by kernel_rfl) rfl #[.string a1] rfl (by (try simp only [List.map_toArray, List.map_cons, List.map_nil]); first | done | rfl | (simp only [List.length_drop, List.length_take]; rfl)) ?_; (with_reducible refine (cmp_isNaN_string.calls a1 false _ A4.out).mono ?_); rintro e w' ⟨rfl, ⟨nd, rfl⟩⟩; refine ⟨_, rfl, ?_⟩))
     go_ret
     exact ⟨by first | rfl | (simp; done) | (simp [*]; done), by repeat (first | exact Drawn0.refl _ | apply Drawn0.step)⟩

def cmp_isNaN_int.f (a0 : Int) : Option (Bool) := some (a0 != a0)
set_option maxHeartbeats 8000000 in
set_option maxRecDepth 100000 in
theorem cmp_isNaN_int.calls (a0 : Int) (r : Bool) (w : World) (h : cmp_isNaN_int.f a0 = some r) :
  Calls Tryz.prog 147 #[.int .i64 a0] w fun e w' => e = .returned (.bool r) ∧ Drawn0 w w' := by
 have H : (some (a0 != a0)) = some r := h
 clear h
 obtain rfl := Option.some.inj H
 go_enter Tryz.func147, Tryz.ntmps147
 go_wp2
 go_ret
 exact ⟨by first | rfl | (simp; done) | (simp [*]; done), by repeat (first | exact Drawn0.refl _ | apply Drawn0.step)⟩

def cmp_Compare_int.f (a0 : Int) (a1 : Int) : Option (Int) := (cmp_isNaN_int.f a0).bind fun t107 => ((cmp_isNaN_int.f a1).bind fun t108 => (if t107 = true then (if t108 = true then (some 0) else (some (-1))) else (if t108 = true then (some 1) else (if a0 < a1 then (some (-1)) else (if a0 > a1 then (some 1) else (some 0))))))
set_option maxHeartbeats 8000000 in
set_option maxRecDepth 100000 in
theorem cmp_Compare_int.calls (a0 : Int) (a1 : Int) (r : Int) (w : World) (h : cmp_Compare_int.f a0 a1 = some r) :
  Calls Tryz.prog 129 #[.int .i64 a0, .int .i64 a1] w fun e w' => e = .returned (.int .i64 r) ∧ Drawn0 w w' := by
 have H : ((cmp_isNaN_int.f a0).bind fun t107 => ((cmp_isNaN_int.f a1).bind fun t108 => (if t107 = true then (if t108 = true then (some 0) else (some (-1))) else (if t108 = true then (some 1) else (if a0 < a1 then (some (-1)) else (if a0 > a1 then (some 1) else (some 0))))))) = some r := h
 clear h
 replace H := Option.bind_eq_some_iff.mp H
 obtain ⟨t107, A30, H⟩ := H
 replace H : ((cmp_isNaN_int.f a1).bind fun t108 => (if t107 = true then (if t108 = true then (some 0) else (some (-1))) else (if t108 = true then (some 1) else (if a0 < a1 then (some (-1)) else (if a0 > a1 then (some 1) else (some 0)))))) = some r := H
 have A3 := Aside0.mk A30
 clear A30
 replace H := Option.bind_eq_some_iff.mp H
 obtain ⟨t108, A40, H⟩ := H
 replace H : (if t107 = true then (if t108 = true then (some 0) else (some (-1))) else (if t108 = true then (some 1) else (if a0 < a1 then (some (-1)) else (if a0 > a1 then (some 1) else (some 0))))) = some r := H
 have A4 := Aside0.mk A40
 clear A40
 by_cases c5 : t107 = true
 ·subst c5
  have H1 : (if t108 = true then (some 0) else (some (-1))) = some r := by rw [if_pos rfl] at H; exact H
  clear H
  have H := H1
  clear H1
  by_cases c6 : t108 = true
  ·subst c6
   have H1 : (some 0) = some r := by rw [if_pos rfl] at H; exact H
   clear H
   have H := H1
   clear H1
   obtain rfl := Option.some.inj H
   go_enter Tryz.func129, Tryz.ntmps129
   go_wp2_with (first | ((with_reducible refine gate_callee (f := 147) rfl ?_); refine goesL_ (some 8) rfl rfl Tryz.func147 (by kernel_rfl) rfl #[.int .i64 a0] rfl (by (try simp only [List.map_toArray, List.map_cons, List.map_nil]); first | done | rfl | (simp only [List.length_drop, List.length_take]; rfl)) ?_; (with_reducible refine (cmp_isNaN_int.calls a0 true _ A3.out).mono ?_); rintro e w' ⟨rfl, ⟨nd, rfl⟩⟩; refine ⟨_, rfl, ?_⟩) | ((with_reducible refine gate_callee (f := 147) rfl ?_); refine goesL_ (some 10) rfl rfl Tryz.func147 (by kernel_rfl) rfl #[.int .i64 a1] rfl (by (try simp only [List.map_toArray, List.map_cons, List.map_nil]); first | done | rfl | (simp only [List.length_drop, List.length_take]; rfl)) ?_; (with_reducible refine (cmp_isNaN_int.calls a1 true _ A4.out).mono ?_); rintro e w' ⟨rfl, ⟨nd, rfl⟩⟩; refine ⟨_, rfl, ?_⟩))
   go_ret
   exact ⟨by first | rfl | (simp; done) | (simp [*]; done), by repeat (first | exact Drawn0.refl _ | apply Drawn0.step)⟩
  ·replace c6 := Bool.eq_false_iff.mpr c6
   subst c6
   have H1 : (some (-1)) = some r := by rw [if_neg (show ¬ (false = true) by decide)] at H; exact H
   clear H
   have H := H1
   clear H1
   obtain rfl := Option.some.inj H
   go_enter Tryz.func129, Tryz.ntmps129
   go_wp2_with (first | ((with_reducible refine gate_callee (f := 147) rfl ?_); refine goesL_ (some 8) rfl rfl Tryz.func147 (by kernel_rfl) rfl #[.int .i64 a0] rfl (by (try simp only [List.map_toArray, List.map_cons, List.map_nil]); first | done | rfl | (simp only [List.length_drop, List.length_take]; rfl)) ?_; (with_reducible refine (cmp_isNaN_int.calls a0 true _ A3.out).mono ?_); rintro e w' ⟨rfl, ⟨nd, rfl⟩⟩; refine ⟨_, rfl, ?_⟩) | ((with_reducible refine gate_callee (f := 147) rfl ?_); refine goesL_ (some 10) rfl rfl Tryz.func147 (by kernel_rfl) rfl #[.int .i64 a1] rfl (by (try simp only [List.map_toArray, List.map_cons, List.map_nil]); first | done | rfl | (simp only [List.length_drop, List.length_take]; rfl)) ?_; (with_reducible refine (cmp_isNaN_int.calls a1 false _ A4.out).mono ?_); rintro e w' ⟨rfl, ⟨nd, rfl⟩⟩; refine ⟨_, rfl, ?_⟩))
   go_ret
   exact ⟨by first | rfl | (simp; done) | (simp [*]; done), by repeat (first | exact Drawn0.refl _ | apply Drawn0.step)⟩
 ·replace c5 := Bool.eq_false_iff.mpr c5
  subst c5
  have H1 : (if t108 = true then (some 1) else (if a0 < a1 then (some (-1)) else (if a0 > a1 then (some 1) else (some 0)))) = some r := by rw [if_neg (show ¬ (false = true) by decide)] at H; exact H
  clear H
  have H := H1
  clear H1
  by_cases c7 : t108 = true
  ·subst c7
   have H1 : (some 1) = some r := by rw [if_pos rfl] at H; exact H
   clear H
   have H := H1
   clear H1
   obtain rfl := Option.some.inj H
   go_enter Tryz.func129, Tryz.ntmps129
   go_wp2_with (first | ((with_reducible refine gate_callee (f := 147) rfl ?_); refine goesL_ (some 8) rfl rfl Tryz.func147 (by kernel_rfl) rfl #[.int .i64 a0] rfl (by (try simp only [List.map_toArray, List.map_cons, List.map_nil]); first | done | rfl | (simp only [List.length_drop, List.length_take]; rfl)) ?_; (with_reducible refine (cmp_isNaN_int.calls a0 false _ A3.out).mono ?_); rintro e w' ⟨rfl, ⟨nd, rfl⟩⟩; refine ⟨_, rfl, ?_⟩) | ((with_reducible refine gate_callee (f := 147) rfl ?_); refine goesL_ (some 10) rfl rfl Tryz.func147 (by kernel_rfl) rfl #[.int .i64 a1] rfl (by (try simp only [List.map_toArray, List.map_cons, List.map_nil]); first | done | rfl | (simp only [List.length_drop, List.length_take]; rfl)) ?_; (with_reducible refine (cmp_isNaN_int.calls a1 true _ A4.out).mono ?_); rintro e w' ⟨rfl, ⟨nd, rfl⟩⟩; refine ⟨_, rfl, ?_⟩))
   go_ret
   exact ⟨by first | rfl | (simp; done) | (simp [*]; done), by repeat (first | exact Drawn0.refl _ | apply Drawn0.step)⟩
  ·replace c7 := Bool.eq_false_iff.mpr c7
   subst c7
   have H1 : (if a0 < a1 then (some (-1)) else (if a0 > a1 then (some 1) else (some 0))) = some r := by rw [if_neg (show ¬ (false = true) by decide)] at H; exact H
   clear H
   have H := H1
   clear H1
   by_cases c8 : a0 < a1
   ·rw [if_pos c8] at H
    have c8b0 : decide (a0 < a1) = true := decide_eq_true c8
    clear c8
    obtain rfl := Option.some.inj H
    go_enter Tryz.func129, Tryz.ntmps129
    go_wp2_with (first | ((with_reducible refine gate_callee (f := 147) rfl ?_); refine goesL_ (some 8) rfl rfl Tryz.func147 (by kernel_rfl) rfl #[.int .i64 a0] rfl (by (try simp only [List.map_toArray, List.map_cons, List.map_nil]); first | done | rfl | (simp only [List.length_drop, List.length_take]; rfl)) ?_; (with_reducible refine (cmp_isNaN_int.calls a0 false _ A3.out).mono ?_); rintro e w' ⟨rfl, ⟨nd, rfl⟩⟩; refine ⟨_, rfl, ?_⟩) | ((with_reducible refine gate_callee (f := 147) rfl ?_); refine goesL_ (some 10) rfl rfl Tryz.func147 (by kernel_rfl) rfl #[.int .i64 a1] rfl (by (try simp only [List.map_toArray, List.map_cons, List.map_nil]); first | done | rfl | (simp only [List.length_drop, List.length_take]; rfl)) ?_; (with_reducible refine (cmp_isNaN_int.calls a1 false _ A4.out).mono ?_); rintro e w' ⟨rfl, ⟨nd, rfl⟩⟩; refine ⟨_, rfl, ?_⟩))
    go_ret
    exact ⟨by first | rfl | (simp; done) | (simp [*]; done), by repeat (first | exact Drawn0.refl _ | apply Drawn0.step)⟩
   ·rw [if_neg c8] at H
    have c8b0 : decide (a0 < a1) = false := decide_eq_false c8
    clear c8
    by_cases c9 : a0 > a1
    ·rw [if_pos c9] at H
     have c9b0 : decide (a1 < a0) = true := decide_eq_true c9
     clear c9
     obtain rfl := Option.some.inj H
     go_enter Tryz.func129, Tryz.ntmps129
     go_wp2_with (first | ((with_reducible refine gate_callee (f := 147) rfl ?_); refine goesL_ (some 8) rfl rfl Tryz.func147 (by kernel_rfl) rfl #[.int .i64 a0] rfl (by (try simp only [List.map_toArray, List.map_cons, List.map_nil]); first | done | rfl | (simp only [List.length_drop, List.length_take]; rfl)) ?_; (with_reducible refine (cmp_isNaN_int.calls a0 false _ A3.out).mono ?_); rintro e w' ⟨rfl, ⟨nd, rfl⟩⟩; refine ⟨_, rfl, ?_⟩) | ((with_reducible refine gate_callee (f := 147) rfl ?_); refine goesL_ (some 10) rfl rfl Tryz.func147 (by kernel_rfl) rfl #[.int .i64 a1] rfl (by (try simp only [List.map_toArray, List.map_cons, List.map_nil]); first | done | rfl | (simp only [List.length_drop, List.length_take]; rfl)) ?_; (with_reducible refine (cmp_isNaN_int.calls a1 false _ A4.out).mono ?_); rintro e w' ⟨rfl, ⟨nd, rfl⟩⟩; refine ⟨_, rfl, ?_⟩))
     go_ret
     exact ⟨by first | rfl | (simp; done) | (simp [*]; done), by repeat (first | exact Drawn0.refl _ | apply Drawn0.step)⟩
    ·rw [if_neg c9] at H
     have c9b0 : decide (a1 < a0) = false := decide_eq_false c9
     clear c9
     obtain rfl := Option.some.inj H
     go_enter Tryz.func129, Tryz.ntmps129
     go_wp2_with (first | ((with_reducible refine gate_callee (f := 147) rfl ?_); refine goesL_ (some 8) rfl rfl Tryz.func147 (by kernel_rfl) rfl #[.int .i64 a0] rfl (by (try simp only [List.map_toArray, List.map_cons, List.map_nil]); first | done | rfl | (simp only [List.length_drop, List.length_take]; rfl)) ?_; (with_reducible refine (cmp_isNaN_int.calls a0 false _ A3.out).mono ?_); rintro e w' ⟨rfl, ⟨nd, rfl⟩⟩; refine ⟨_, rfl, ?_⟩) | ((with_reducible refine gate_callee (f := 147) rfl ?_); refine goesL_ (some 10) rfl rfl Tryz.func147 (by kernel_rfl) rfl #[.int .i64 a1] rfl (by (try simp only [List.map_toArray, List.map_cons, List.map_nil]); first | done | rfl | (simp only [List.length_drop, List.length_take]; rfl)) ?_; (with_reducible refine (cmp_isNaN_int.calls a1 false _ A4.out).mono ?_); rintro e w' ⟨rfl, ⟨nd, rfl⟩⟩; refine ⟨_, rfl, ?_⟩))
     go_ret
     exact ⟨by first | rfl | (simp; done) | (simp [*]; done), by repeat (first | exact Drawn0.refl _ | apply Drawn0.step)⟩

end Go.Proofs.YtmcddoolniaehaaGreat.S
end
section
namespace Go.Proofs.YtmcddoolniaehaaGreat.S
open Go.RowKit Go.Maps Go.Sort Go.Proofs.YtmcddoolniaehaaGreatW.PrintWords Go.Proofs.YtmcddoolniaehaaGreatW.PrintLast Go.Proofs.YtmcddoolniaehaaGreatW.PrintMore Go.Proofs.YtmcddoolniaehaaGreatW
set_option linter.unusedVariables false
set_option linter.unusedSimpArgs false
def cS (a b : ByteArray) : Int := if Op.bytesLess a.toList b.toList then -1 else if Op.bytesLess b.toList a.toList then 1 else 0
def cI (a b : Int) : Int := if a < b then -1 else if b < a then 1 else 0
theorem cS_f (a b : ByteArray) : cmp_Compare_string.f a b = some (cS a b) := by
  simp only [cmp_Compare_string.f, cmp_isNaN_string.f, Option.bind_some, bne_self_eq_false, Bool.false_eq_true, if_false, cS]
  split
  · rfl
  · split <;> rfl
theorem cI_f (a b : Int) : cmp_Compare_int.f a b = some (cI a b) := by
  simp only [cmp_Compare_int.f, cmp_isNaN_int.f, Option.bind_some, bne_self_eq_false, Bool.false_eq_true, if_false, cI]
  split
  · rfl
  · split <;> rfl
def or4 (a b c d : Int) : Int := if a = 0 then if b = 0 then if c = 0 then d else c else b else a
theorem orStep (k : Nat) (l : List Int) (i : Int) (h0 : 0 ≤ i) (h1 : i < (l.length : Int)) : cmp_Or_int.l0 (k + 1) 0 l (l.length : Int) i = if rd l i = 0 then cmp_Or_int.l0 k 0 l (l.length : Int) (wrap64 (i + 1)) else some (rd l i) := by
  simp only [cmp_Or_int.l0]
  rw [if_pos h1, if_pos h0, if_pos h1]
theorem orEnd (k : Nat) (l : List Int) (i : Int) (h1 : ¬ i < (l.length : Int)) : cmp_Or_int.l0 (k + 1) 0 l (l.length : Int) i = some 0 := by
  simp only [cmp_Or_int.l0]
  rw [if_neg h1]
theorem or4_f (k : Nat) (a b c d : Int) : cmp_Or_int.f (k + 5) [a, b, c, d] = some (or4 a b c d) := by
  have w1 : wrap64 (0 + 1) = 1 := by unfold wrap64; omega
  have w2 : wrap64 (1 + 1) = 2 := by unfold wrap64; omega
  have w3 : wrap64 (2 + 1) = 3 := by unfold wrap64; omega
  have w4 : wrap64 (3 + 1) = 4 := by unfold wrap64; omega
  have r0 : rd [a, b, c, d] 0 = a := rfl
  have r1 : rd [a, b, c, d] 1 = b := rfl
  have r2 : rd [a, b, c, d] 2 = c := rfl
  have r3 : rd [a, b, c, d] 3 = d := rfl
  show cmp_Or_int.l0 (k + 4 + 1) 0 [a, b, c, d] _ 0 = _
  rw [orStep (k + 4) _ 0 (by omega) (by simp), w1, r0, orStep (k + 3) _ 1 (by omega) (by simp), w2, r1, orStep (k + 2) _ 2 (by omega) (by simp), w3, r2, orStep (k + 1) _ 3 (by omega) (by simp), w4, r3, orEnd k _ 4 (by simp)]
  unfold or4
  split <;> (try rfl)
  split <;> (try rfl)
  split <;> (try rfl)
  split <;> simp_all
def cmpP (x y : Pr) : Int := or4 (cS x.f0 y.f0) (cS x.f1 y.f1) (cI x.f2.f0 y.f2.f0) (cI x.f2.f1 y.f2.f1)
theorem C_lit {w : World} {g : Nat} {l : List Int} (h : w.heap[g]? = some (.cells (l.map (Value.int .i64)).toArray 3 (0, 0))) (hm : l.length ≤ maxLen) : Kd.C (Kd.int .i64) w (some ⟨g, 0, none⟩) l.length l := by
  refine Kd.C_of_reads (h1 := fun _ => rfl) (enc := Value.int .i64) (d := (0 : Int)) ⟨rfl, hm, fun h0 => ⟨_, rfl, fun j hj => ?_⟩⟩
  rw [add_plain, blk_cell h j]
  simp [hj]
def Gr (W V : World) : Prop := ∃ q os', V = grow (W.drewN q) os'
theorem Gr.refl (W : World) : Gr W W := ⟨0, #[], by simp [grow, World.drewN]⟩
theorem Gr.drewN {W V : World} (h : Gr W V) (n : Nat) : Gr W (V.drewN n) := by
  obtain ⟨q, os, rfl⟩ := h
  exact ⟨q + n, os, by simp [grow, World.drewN, Nat.add_assoc]⟩
theorem Gr.drew {W V : World} (h : Gr W V) : Gr W V.drew := h.drewN 1
theorem Gr.alloc {W V : World} (h : Gr W V) (o : Obj) : Gr W (V.alloc o) := by
  obtain ⟨q, os, rfl⟩ := h
  exact ⟨q, os ++ #[o], by rw [alloc_eq_grow, grow_grow]⟩
set_option maxHeartbeats 4000000 in
set_option maxRecDepth 100000 in
theorem order_exact (x y : Pr) (W : World) : Calls Tryz.prog 115 #[.agg #[.string x.f0, .string x.f1, .int .i64 x.f2.f0, .int .i64 x.f2.f1], .agg #[.string y.f0, .string y.f1, .int .i64 y.f2.f0, .int .i64 y.f2.f1]] W fun e w' => e = .returned (.int .i64 (cmpP x y)) ∧ ∃ q os', w' = grow (W.drewN q) os' := by
  have H0 : Aside0 (∀ V : World, Calls Tryz.prog 128 #[.string x.f0, .string y.f0] V fun e w' => e = .returned (.int .i64 (cS x.f0 y.f0)) ∧ Drawn0 V w') := ⟨fun V => cmp_Compare_string.calls _ _ _ V (cS_f _ _)⟩
  have H1 : Aside0 (∀ V : World, Calls Tryz.prog 128 #[.string x.f1, .string y.f1] V fun e w' => e = .returned (.int .i64 (cS x.f1 y.f1)) ∧ Drawn0 V w') := ⟨fun V => cmp_Compare_string.calls _ _ _ V (cS_f _ _)⟩
  have H2 : Aside0 (∀ V : World, Calls Tryz.prog 129 #[.int .i64 x.f2.f0, .int .i64 y.f2.f0] V fun e w' => e = .returned (.int .i64 (cI x.f2.f0 y.f2.f0)) ∧ Drawn0 V w') := ⟨fun V => cmp_Compare_int.calls _ _ _ V (cI_f _ _)⟩
  have H3 : Aside0 (∀ V : World, Calls Tryz.prog 129 #[.int .i64 x.f2.f1, .int .i64 y.f2.f1] V fun e w' => e = .returned (.int .i64 (cI x.f2.f1 y.f2.f1)) ∧ Drawn0 V w') := ⟨fun V => cmp_Compare_int.calls _ _ _ V (cI_f _ _)⟩
  have H4 : Aside0 (∀ (V : World) (g : Nat), V.heap[g]? = some (.cells #[.int .i64 (cS x.f0 y.f0), .int .i64 (cS x.f1 y.f1), .int .i64 (cI x.f2.f0 y.f2.f0), .int .i64 (cI x.f2.f1 y.f2.f1)] 3 (0, 0)) → Calls Tryz.prog 127 #[.slice (some ⟨g, 0, none⟩) 4 4] V fun e w' => e = .returned (.int .i64 (cmpP x y)) ∧ Drawn0 V w') :=
    ⟨fun V g h => cmp_Or_int.calls 5 (some ⟨g, 0, none⟩) 4 [cS x.f0 y.f0, cS x.f1 y.f1, cI x.f2.f0 y.f2.f0, cI x.f2.f1 y.f2.f1] _ V (C_lit h (show (4 : Nat) ≤ maxLen by decide)) (Nat.le_refl _) (or4_f 0 _ _ _ _)⟩
  generalize cmpP x y = r at H4 ⊢
  generalize cS x.f0 y.f0 = a0 at H0 H4
  generalize cS x.f1 y.f1 = a1 at H1 H4
  generalize cI x.f2.f0 y.f2.f0 = a2 at H2 H4
  generalize cI x.f2.f1 y.f2.f1 = a3 at H3 H4
  go_enter Tryz.func115, Tryz.ntmps115
  go_wp2_with fail
  have hg : Gr W ((W.alloc (.cells #[Value.string x.f0, Value.string x.f1, Value.int .i64 x.f2.f0, Value.int .i64 x.f2.f1] 43)).alloc (.cells #[Value.string y.f0, Value.string y.f1, Value.int .i64 y.f2.f0, Value.int .i64 y.f2.f1] 43)) := (Gr.alloc (Gr.alloc (Gr.refl W) _) _)
  have hb1 : ((W.alloc (.cells #[Value.string x.f0, Value.string x.f1, Value.int .i64 x.f2.f0, Value.int .i64 x.f2.f1] 43)).alloc (.cells #[Value.string y.f0, Value.string y.f1, Value.int .i64 y.f2.f0, Value.int .i64 y.f2.f1] 43)).heap[W.heap.size]? = some (.cells #[Value.string x.f0, Value.string x.f1, Value.int .i64 x.f2.f0, Value.int .i64 x.f2.f1] 43) := blk_alloc (blk_new W _) _
  have hb2 : ((W.alloc (.cells #[Value.string x.f0, Value.string x.f1, Value.int .i64 x.f2.f0, Value.int .i64 x.f2.f1] 43)).alloc (.cells #[Value.string y.f0, Value.string y.f1, Value.int .i64 y.f2.f0, Value.int .i64 y.f2.f1] 43)).heap[W.heap.size + 1]? = some (.cells #[Value.string y.f0, Value.string y.f1, Value.int .i64 y.f2.f0, Value.int .i64 y.f2.f1] 43) := by have := blk_new (W.alloc (.cells #[Value.string x.f0, Value.string x.f1, Value.int .i64 x.f2.f0, Value.int .i64 x.f2.f1] 43)) (.cells #[Value.string y.f0, Value.string y.f1, Value.int .i64 y.f2.f0, Value.int .i64 y.f2.f1] 43); simpa using this
  revert hg hb1 hb2
  generalize ((W.alloc (.cells #[Value.string x.f0, Value.string x.f1, Value.int .i64 x.f2.f0, Value.int .i64 x.f2.f1] 43)).alloc (.cells #[Value.string y.f0, Value.string y.f1, Value.int .i64 y.f2.f0, Value.int .i64 y.f2.f1] 43)) = V
  intro hg hb1 hb2
  have HG := Aside0.mk hg
  have hl1 := blk_lt hb1
  have hl2 := blk_lt hb2
  have c0 : V.cell? ⟨W.heap.size, 0, none⟩ = some (Value.string x.f0) := blk_cell hb1 0
  have c1 : V.cell? ⟨W.heap.size, 1, none⟩ = some (Value.string x.f1) := blk_cell hb1 1
  have c2 : V.cell? ⟨W.heap.size, 2, none⟩ = some (Value.int .i64 x.f2.f0) := blk_cell hb1 2
  have c3 : V.cell? ⟨W.heap.size, 3, none⟩ = some (Value.int .i64 x.f2.f1) := blk_cell hb1 3
  have d0 : V.cell? ⟨W.heap.size + 1, 0, none⟩ = some (Value.string y.f0) := blk_cell hb2 0
  have d1 : V.cell? ⟨W.heap.size + 1, 1, none⟩ = some (Value.string y.f1) := blk_cell hb2 1
  have d2 : V.cell? ⟨W.heap.size + 1, 2, none⟩ = some (Value.int .i64 y.f2.f0) := blk_cell hb2 2
  have d3 : V.cell? ⟨W.heap.size + 1, 3, none⟩ = some (Value.int .i64 y.f2.f1) := blk_cell hb2 3
  clear hg hb1 hb2
  go_region_held3 (fun w' => w'.cell? ⟨W.heap.size, 0, none⟩ = some (Value.string x.f0) ∧ w'.cell? ⟨W.heap.size, 1, none⟩ = some (Value.string x.f1) ∧ w'.cell? ⟨W.heap.size, 2, none⟩ = some (Value.int .i64 x.f2.f0) ∧ w'.cell? ⟨W.heap.size, 3, none⟩ = some (Value.int .i64 x.f2.f1) ∧ w'.cell? ⟨W.heap.size + 1, 0, none⟩ = some (Value.string y.f0) ∧ w'.cell? ⟨W.heap.size + 1, 1, none⟩ = some (Value.string y.f1) ∧ w'.cell? ⟨W.heap.size + 1, 2, none⟩ = some (Value.int .i64 y.f2.f0) ∧ w'.cell? ⟨W.heap.size + 1, 3, none⟩ = some (Value.int .i64 y.f2.f1))
    (first | (exact ⟨c0, c1, c2, c3, d0, d1, d2, d3⟩) | go_keep)
    (first
     | (go_at_call 128; (with_reducible refine (H0.out _).mono ?_); rintro e w' ⟨rfl, ⟨nd, rfl⟩⟩)
     | (go_at_call 128; (with_reducible refine (H1.out _).mono ?_); rintro e w' ⟨rfl, ⟨nd, rfl⟩⟩)
     | (go_at_call 129; (with_reducible refine (H2.out _).mono ?_); rintro e w' ⟨rfl, ⟨nd, rfl⟩⟩)
     | (go_at_call 129; (with_reducible refine (H3.out _).mono ?_); rintro e w' ⟨rfl, ⟨nd, rfl⟩⟩)
     | (go_at_call 127; (with_reducible refine (H4.out _ _ ?hh).mono ?_); (case hh => first | exact blk_new _ _ | exact blk_drew (blk_new _ _) | exact blk_drewN (blk_new _ _) _); rintro e w' ⟨rfl, ⟨nd, rfl⟩⟩))
  all_goals
    go_wp2
    go_ret
    exact ⟨rfl, by repeat (first | exact HG.out | apply Gr.drewN | apply Gr.alloc | apply Gr.drew)⟩
end Go.Proofs.YtmcddoolniaehaaGreat.S
end
