/- Counts that may be: what the printed ctr.May comes to. Plain. -/
import Derived.Test.YtannmdngejdjkaaLx21
import Derived.Test.YtannmdngejdjkaaLHKey
import Derived.Test.YtannmdngejdjkaaLHSums
namespace Go.Proofs.Ytannmdngejdjkaa.L
open Go.RowKit Go.Proofs.YtannmdngejdjkaaW.PrintWords Go.Proofs.YtannmdngejdjkaaW.PrintLast Go.Proofs.YtannmdngejdjkaaW.PrintMore Go.Proofs.YtannmdngejdjkaaW
set_option linter.unusedVariables false
set_option linter.unusedSimpArgs false
abbrev Ct := S53
theorem wrapS {n : Nat} (h : n < 4611686018427387904) : wrap64 ((n : Int) + 1) = ((n + 1 : Nat) : Int) := by unfold wrap64; omega
theorem wrapP {n : Nat} (h : n < 4611686018427387904) : wrap64 (((n + 1 : Nat) : Int) - 1) = (n : Int) := by unfold wrap64; omega
theorem rdC_mid (pre suf : List Ct) (x : Ct) : rd_T53 (pre ++ x :: suf) ((pre.length : Nat) : Int) = x := by
  simp [rd_T53, List.getD_eq_getElem?_getD]
theorem lenS {α : Type} (pre : List α) (x : α) : (pre ++ [x]).length = pre.length + 1 := by simp
theorem appS {α : Type} (pre suf : List α) (x : α) : (pre ++ [x]) ++ suf = pre ++ x :: suf := by simp
def kSmall (a : ByteArray) : Bool := decide (a.size ≤ 140737488351232)
theorem keyS {a : ByteArray} (h : kSmall a = true) : ops_Key.f a = some (keyB a.data.toList) := by
  unfold ops_Key.f
  unfold kSmall at h
  rw [if_pos (by simp at h; omega)]
def oneC (c : Ct) : Bool := keyB c.f0.data.toList && decide (c.f1 ≠ 0)
def mayCP : Option Ct → List Ct → Bool
  | _, [] => true
  | p, x :: l => oneC x && ((match p with | none => true | some y => Op.bytesLess y.f0.toList x.f0.toList) && mayCP (some x) l)
def mayC (l : List Ct) : Bool := mayCP none l
def cLt (x y : Ct) : Prop := Op.bytesLess x.f0.toList y.f0.toList = true
theorem mayC_loop : ∀ (suf pre : List Ct) (k : Nat), suf.length < k → (pre ++ suf).length < 4611686018427387904 → (∀ x ∈ suf, kSmall x.f0 = true) →
    ctr_May.l0 k (pre ++ suf) (pre ++ suf) (((pre ++ suf).length : Nat) : Int) ((pre.length : Nat) : Int) = some (mayCP pre.getLast? suf)
  | suf, pre, 0, hk, _, _ => by omega
  | [], pre, k + 1, _, _, _ => by
    simp only [ctr_May.l0]
    rw [if_neg (by simp)]
    rfl
  | x :: suf, pre, k + 1, hk, hl, ho => by
    have hlt : ((pre.length : Nat) : Int) < (((pre ++ x :: suf).length : Nat) : Int) := by simp; omega
    have hpl : pre.length < 4611686018427387904 := by simp at hl; omega
    have ih := mayC_loop suf (pre ++ [x]) k (by simp at hk; omega) (by simpa using hl) (fun y hy => ho y (List.mem_cons_of_mem _ hy))
    rw [appS, List.getLast?_concat, lenS] at ih
    simp only [ctr_May.l0]
    rw [if_pos hlt, if_pos (by omega), if_pos hlt, rdC_mid, keyS (ho x List.mem_cons_self), Option.bind_some, wrapS hpl]
    unfold mayCP oneC
    cases h1 : keyB x.f0.data.toList with
    | false => rfl
    | true =>
      simp only [if_true, Bool.true_and]
      by_cases h0 : x.f1 = 0
      · rw [if_pos h0]; simp [h0]
      · rw [if_neg h0]
        simp only [ne_eq, h0, not_false_eq_true, decide_true, Bool.true_and]
        rcases List.eq_nil_or_concat pre with rfl | ⟨p, y, rfl⟩
        · rw [if_neg (by simp)]
          simpa using ih
        · rw [List.concat_eq_append] at *
          have hw : wrap64 ((((p ++ [y]).length : Nat) : Int) - 1) = ((p.length : Nat) : Int) := by
            rw [List.length_append, List.length_singleton]; exact wrapP (by simp at hpl; omega)
          rw [if_pos (by simp), hw, if_pos (by omega), if_pos (by simp; omega), appS, rdC_mid, List.getLast?_concat]
          rw [appS] at ih
          cases h2 : Op.bytesLess y.f0.toList x.f0.toList with
          | false => simp [h2]
          | true =>
            simp only [if_true]
            rw [ih, h2]; rfl
theorem mayC_f (k : Nat) (l : List Ct) (hk : l.length < k) (hl : l.length < 4611686018427387904) (ho : ∀ x ∈ l, kSmall x.f0 = true) : ctr_May.f k l = some (mayC l) := by
  have := mayC_loop l [] k hk (by simpa using hl) ho
  simpa [ctr_May.f, mayC] using this
theorem mayCP_iff : ∀ (l : List Ct) (p : Option Ct), mayCP p l = true ↔ (∀ x ∈ l, oneC x = true) ∧ (p.toList ++ l).Pairwise cLt
  | [], none => by simp [mayCP]
  | [], some y => by simp [mayCP]
  | x :: l, none => by
    have ih := mayCP_iff l (some x)
    unfold mayCP
    simp only [Bool.true_and, Bool.and_eq_true, ih, List.mem_cons, forall_eq_or_imp, Option.toList, List.nil_append, List.cons_append]
    exact and_assoc.symm
  | x :: l, some y => by
    have ih := mayCP_iff l (some x)
    unfold mayCP
    simp only [Bool.and_eq_true, ih, List.mem_cons, forall_eq_or_imp, Option.toList, List.nil_append, List.cons_append]
    constructor
    · rintro ⟨h1, h2, h3, h4⟩
      refine ⟨⟨h1, h3⟩, ?_⟩
      rw [List.pairwise_cons]
      refine ⟨fun z hz => ?_, h4⟩
      rcases List.mem_cons.1 hz with rfl | hz
      · exact h2
      · exact less_trans h2 ((List.pairwise_cons.1 h4).1 z hz)
    · rintro ⟨⟨h1, h3⟩, h4⟩
      rw [List.pairwise_cons] at h4
      exact ⟨h1, h4.1 x List.mem_cons_self, h3, h4.2⟩
theorem mayC_iff (l : List Ct) : mayC l = true ↔ (∀ x ∈ l, oneC x = true) ∧ l.Pairwise cLt := by
  have := mayCP_iff l none
  simpa [mayC] using this
theorem setM_len (es : MapL) (k : ByteArray) (n : Int) : (setM es k n).length ≤ es.length + 1 := by
  induction es with
  | nil => simp [setM]
  | cons y l ih =>
    unfold setM
    split
    · simp; exact ih
    · split <;> simp
theorem addM_len (t : Int) : ∀ (l : List Ct) (es : MapL), (addM t es l).length ≤ es.length + l.length
  | [], es => by simp [addM]
  | c :: l, es => by
    have h1 := addM_len t l (incM es c.f0 (wrap64 (t * c.f1)))
    have h2 := setM_len es c.f0 (wrap64 (getM es c.f0 + wrap64 (t * c.f1)))
    show (addM t (incM es c.f0 (wrap64 (t * c.f1))) l).length ≤ _
    unfold incM at *
    simp only [List.length_cons]
    omega
end Go.Proofs.Ytannmdngejdjkaa.L
