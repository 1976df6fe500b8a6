/- A row's arguments opened: structs by value, and slices of structs. No walk. -/
import Derived.Test.YtannmdngejdjkaaLx0
import Derived.Test.YtannmdngejdjkaaRows
import Derived.WalkKit
import Derived.ProofKit
import Derived.OpenShut
import Derived.ShutString
import Derived.ChangeOld
import Derived.Below
import Derived.SizedLaws
import Derived.Carry
import Derived.Deep.Slices
namespace Go.Proofs.Ytannmdngejdjkaa.L
open Go.RowKit Go.ChangeShapes Go.WideShapes Go.ChangeAt Go.Deep Go.Proofs.YtannmdngejdjkaaW.PrintWords Go.Proofs.YtannmdngejdjkaaW.PrintLast Go.Proofs.YtannmdngejdjkaaW.PrintMore Go.Proofs.YtannmdngejdjkaaW
set_option linter.unusedVariables false
set_option linter.unusedSimpArgs false
/-- a whole number of 64 bits -/
def okI (n : Int) : Prop := -9223372036854775808 ≤ n ∧ n ≤ 9223372036854775807
def okT (s : ByteArray) : Prop := s.size ≤ maxLen
theorem okI_of {n : Int} (h : (Lit.int .i64 n).wf = true) : okI n := by
  simp only [Lit.wf, Bool.and_eq_true, decide_eq_true_eq] at h
  exact ⟨by have := h.1; simpa [IntKind.min, IntKind.signed, IntKind.bits] using this, by have := h.2; simpa [IntKind.max, IntKind.signed, IntKind.bits] using this⟩
theorem len2 {α : Type} : ∀ {l : List α}, l.length = 2 → ∃ x0 x1, l = [x0, x1]
  | [x0, x1], _ => ⟨x0, x1, rfl⟩
theorem len3 {α : Type} : ∀ {l : List α}, l.length = 3 → ∃ x0 x1 x2, l = [x0, x1, x2]
  | [x0, x1, x2], _ => ⟨x0, x1, x2, rfl⟩
theorem len4 {α : Type} : ∀ {l : List α}, l.length = 4 → ∃ x0 x1 x2 x3, l = [x0, x1, x2, x3]
  | [x0, x1, x2, x3], _ => ⟨x0, x1, x2, x3, rfl⟩
theorem len5 {α : Type} : ∀ {l : List α}, l.length = 5 → ∃ x0 x1 x2 x3 x4, l = [x0, x1, x2, x3, x4]
  | [x0, x1, x2, x3, x4], _ => ⟨x0, x1, x2, x3, x4, rfl⟩
section
variable {H : Type} {enc : TypeId × Value → H} {w : World} {base : Nat} {spare : Nat → Bool} {held : Bool}
theorem open_ints2 {fuel : Nat} {cs : List Value} {x : DataW H × List MemPlace} (h : DataW.trod enc Try.prog w base spare held fuel 24 cs = some x) : ∃ a b, cs = [.int .i64 a, .int .i64 b] ∧ okI a ∧ okI b := by
  obtain ⟨xs, n, _, _, hl, hlen, hf⟩ := DataW.trod_struct Try.underlying24 h
  rw [show Try.prog.cellsOf 24 = 2 by kernel_rfl] at hl
  have hi : Try.prog.cellsOf 3 = 1 := by kernel_rfl
  have hlen : xs.length = 2 := hlen
  obtain ⟨c0, c1, rfl⟩ := len2 hl
  obtain ⟨y0, y1, rfl⟩ := len2 hlen
  have h0 := hf 0 _ rfl
  have h1 := hf 1 _ rfl
  simp only [List.getElem_toArray, List.getElem_cons_zero, List.getElem_cons_succ, hi,  List.drop_zero, List.drop_succ_cons, List.take_succ_cons, List.take_zero, List.getElem?_cons_zero, List.getElem?_cons_succ] at h0 h1
  obtain ⟨a, e0, _, w0⟩ := DataW.trod_int Try.underlying3 h0
  obtain ⟨b, e1, _, w1⟩ := DataW.trod_int Try.underlying3 h1
  cases e0; cases e1
  exact ⟨a, b, rfl, okI_of w0, okI_of w1⟩
def okReg (x : S26) : Prop := okT x.f0 ∧ okT x.f1 ∧ okI x.f2 ∧ okI x.f3.f0 ∧ okI x.f3.f1
theorem open_reg {fuel : Nat} {cs : List Value} {x : DataW H × List MemPlace} (h : DataW.trod enc Try.prog w base spare held fuel 26 cs = some x) : ∃ r : S26, cs = [.string r.f0, .string r.f1, .int .i64 r.f2, .int .i64 r.f3.f0, .int .i64 r.f3.f1] ∧ okReg r := by
  obtain ⟨xs, n, _, _, hl, hlen, hf⟩ := DataW.trod_struct Try.underlying26 h
  rw [show Try.prog.cellsOf 26 = 5 by kernel_rfl] at hl
  have hi : Try.prog.cellsOf 3 = 1 := by kernel_rfl
  have hs : Try.prog.cellsOf 9 = 1 := by kernel_rfl
  have he : Try.prog.cellsOf 24 = 2 := by kernel_rfl
  have hlen : xs.length = 4 := hlen
  obtain ⟨c0, c1, c2, c3, c4, rfl⟩ := len5 hl
  obtain ⟨y0, y1, y2, y3, rfl⟩ := len4 hlen
  have h0 := hf 0 _ rfl
  have h1 := hf 1 _ rfl
  have h2 := hf 2 _ rfl
  have h3 := hf 3 _ rfl
  simp only [List.getElem_toArray, List.getElem_cons_zero, List.getElem_cons_succ, hi, hs, he,  List.drop_zero, List.drop_succ_cons, List.take_succ_cons, List.take_zero, List.getElem?_cons_zero, List.getElem?_cons_succ] at h0 h1 h2 h3
  obtain ⟨a, e0, _, w0⟩ := DataW.trod_string Try.underlying9 h0
  obtain ⟨b, e1, _, w1⟩ := DataW.trod_string Try.underlying9 h1
  obtain ⟨c, e2, _, w2⟩ := DataW.trod_int Try.underlying3 h2
  obtain ⟨d, f, e3, w3, w4⟩ := open_ints2 h3
  cases e0; cases e1; cases e2; cases e3
  exact ⟨⟨a, b, c, ⟨d, f⟩⟩, rfl, w0, w1, okI_of w2, w3, w4⟩
def okCtr (x : S53) : Prop := okT x.f0 ∧ okI x.f1
theorem open_ctr {fuel : Nat} {cs : List Value} {x : DataW H × List MemPlace} (h : DataW.trod enc Try.prog w base spare held fuel 53 cs = some x) : ∃ r : S53, cs = [.string r.f0, .int .i64 r.f1] ∧ okCtr r := by
  obtain ⟨xs, n, _, _, hl, hlen, hf⟩ := DataW.trod_struct Try.underlying53 h
  rw [show Try.prog.cellsOf 53 = 2 by kernel_rfl] at hl
  have hi : Try.prog.cellsOf 3 = 1 := by kernel_rfl
  have hs : Try.prog.cellsOf 9 = 1 := by kernel_rfl
  have hlen : xs.length = 2 := hlen
  obtain ⟨c0, c1, rfl⟩ := len2 hl
  obtain ⟨y0, y1, rfl⟩ := len2 hlen
  have h0 := hf 0 _ rfl
  have h1 := hf 1 _ rfl
  simp only [List.getElem_toArray, List.getElem_cons_zero, List.getElem_cons_succ, hi, hs,  List.drop_zero, List.drop_succ_cons, List.take_succ_cons, List.take_zero, List.getElem?_cons_zero, List.getElem?_cons_succ] at h0 h1
  obtain ⟨a, e0, _, w0⟩ := DataW.trod_string Try.underlying9 h0
  obtain ⟨b, e1, _, w1⟩ := DataW.trod_int Try.underlying3 h1
  cases e0; cases e1
  exact ⟨⟨a, b⟩, rfl, w0, okI_of w1⟩
def okPair (x : S57) : Prop := okT x.f0 ∧ okT x.f1 ∧ okI x.f2.f0 ∧ okI x.f2.f1
theorem open_pair {fuel : Nat} {cs : List Value} {x : DataW H × List MemPlace} (h : DataW.trod enc Try.prog w base spare held fuel 57 cs = some x) : ∃ r : S57, cs = [.string r.f0, .string r.f1, .int .i64 r.f2.f0, .int .i64 r.f2.f1] ∧ okPair r := by
  obtain ⟨xs, n, _, _, hl, hlen, hf⟩ := DataW.trod_struct Try.underlying57 h
  rw [show Try.prog.cellsOf 57 = 4 by kernel_rfl] at hl
  have hs : Try.prog.cellsOf 9 = 1 := by kernel_rfl
  have he : Try.prog.cellsOf 24 = 2 := by kernel_rfl
  have hlen : xs.length = 3 := hlen
  obtain ⟨c0, c1, c2, c3, rfl⟩ := len4 hl
  obtain ⟨y0, y1, y2, rfl⟩ := len3 hlen
  have h0 := hf 0 _ rfl
  have h1 := hf 1 _ rfl
  have h2 := hf 2 _ rfl
  simp only [List.getElem_toArray, List.getElem_cons_zero, List.getElem_cons_succ, hs, he,  List.drop_zero, List.drop_succ_cons, List.take_succ_cons, List.take_zero, List.getElem?_cons_zero, List.getElem?_cons_succ] at h0 h1 h2
  obtain ⟨a, e0, _, w0⟩ := DataW.trod_string Try.underlying9 h0
  obtain ⟨b, e1, _, w1⟩ := DataW.trod_string Try.underlying9 h1
  obtain ⟨d, f, e3, w3, w4⟩ := open_ints2 h2
  cases e0; cases e1; cases e3
  exact ⟨⟨a, b, ⟨d, f⟩⟩, rfl, w0, w1, w3, w4⟩
theorem open_row {α : Type} [Inhabited α] {d : Kd α} {ok : α → Prop} {t e : TypeId} (hu : Try.prog.underlying t = some (.slice e)) (hc : Try.prog.cellsOf e = d.sz) (hsz : d.sz ≠ 0) (hop : ∀ (fuel : Nat) (cs : List Value) (x : DataW H × List MemPlace), DataW.trod enc Try.prog w base spare held fuel e cs = some x → ∃ a, d.K w a cs ∧ ok a)
    {A : Option Addr} {len cap : Nat} {dd : DataW H} {ps : List MemPlace} (h : DataW.Trod enc Try.prog w base spare held t (.slice A len cap) dd ps) : ∃ xs : List α, xs.length = len ∧ len ≤ cap ∧ d.C w A len xs ∧ ∀ x ∈ xs, ok x := by
  obtain ⟨fuel, hf⟩ := h
  rcases open_slice hu hf with ⟨hcs, _⟩ | ⟨a, len', cap', m, n, D, Pl, hcs, _, hl, hm, hmm, _, hx⟩
  · simp [Value.cells] at hcs
    obtain ⟨rfl, rfl, rfl⟩ := hcs
    exact ⟨[], rfl, Nat.le_refl _, Kd.C_nil d w, fun x hx => by simp at hx⟩
  · simp [Value.cells] at hcs
    obtain ⟨rfl, rfl, rfl⟩ := hcs
    have hle : len ≤ m := by rw [hmm]; split <;> omega
    obtain ⟨f, hf'⟩ := choose_lt (α := α) (n := len) (p := fun i a' => ∃ cs', w.cells? base (a.add (i * d.sz)) d.sz = some cs' ∧ d.K w a' cs' ∧ ok a') (fun i hi => by
      obtain ⟨cs', h1, h2⟩ := hx i (by omega)
      obtain ⟨a', h3, h4⟩ := hop _ _ _ h2
      rw [hc] at h1
      exact ⟨a', cs', h1, h3, h4⟩)
    refine ⟨(List.range len).map f, by simp, hl, ⟨by simp, by unfold maxLen at hm; omega, fun _ => ⟨a, rfl, fun j p hp => ?_⟩⟩, ?_⟩
    · have hj : j < len := by
        have := (List.getElem?_eq_some_iff.1 hp).1
        simpa using this
      have hp' : f j = p := by
        rw [List.getElem?_map, List.getElem?_range hj] at hp
        simpa using hp
      subst hp'
      obtain ⟨cs', h1, h2, h3⟩ := hf' j hj
      obtain ⟨_, h5, h6⟩ := World.cells?_some h1
      refine ⟨cs', h5, h2, fun i u hu => ?_⟩
      have hi := (List.getElem?_eq_some_iff.1 hu).1
      rw [← Deep.add_add, h6 i (by omega), hu]
    · intro x hx
      obtain ⟨i, hi, rfl⟩ := List.mem_map.1 hx
      obtain ⟨_, _, _, h⟩ := hf' i (by simpa using hi)
      exact h
end
instance : Inhabited S26 := ⟨z26⟩
instance : Inhabited S53 := ⟨z53⟩
instance : Inhabited S57 := ⟨z57⟩
end Go.Proofs.Ytannmdngejdjkaa.L
