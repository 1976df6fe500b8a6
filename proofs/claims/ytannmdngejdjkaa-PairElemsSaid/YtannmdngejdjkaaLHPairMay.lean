/- Pairs that may be: what the printed pair.May comes to. Plain. -/
import Derived.Test.YtannmdngejdjkaaLx33
import Derived.Test.YtannmdngejdjkaaLHKey
import Derived.Test.YtannmdngejdjkaaLHPairSort
namespace Go.Proofs.Ytannmdngejdjkaa.L
open Go.RowKit Go.Sort Go.Proofs.YtannmdngejdjkaaW.PrintWords Go.Proofs.YtannmdngejdjkaaW.PrintLast Go.Proofs.YtannmdngejdjkaaW.PrintMore Go.Proofs.YtannmdngejdjkaaW
set_option linter.unusedVariables false
set_option linter.unusedSimpArgs false
theorem wrapUp {n : Nat} (h : n < 4611686018427387904) : wrap64 ((n : Int) + 1) = ((n + 1 : Nat) : Int) := by unfold wrap64; omega
theorem wrapDn {n : Nat} (h : n < 4611686018427387904) : wrap64 (((n + 1 : Nat) : Int) - 1) = (n : Int) := by unfold wrap64; omega
theorem rdP_mid (pre suf : List Pr) (x : Pr) : rd_T57 (pre ++ x :: suf) ((pre.length : Nat) : Int) = x := by
  simp [rd_T57, List.getD_eq_getElem?_getD]
theorem len_one {α : Type} (pre : List α) (x : α) : (pre ++ [x]).length = pre.length + 1 := by simp
theorem app_one {α : Type} (pre suf : List α) (x : α) : (pre ++ [x]) ++ suf = pre ++ x :: suf := by simp
theorem keyT {a : ByteArray} (h : okT a) : ops_Key.f a = some (keyB a.data.toList) := by
  unfold ops_Key.f
  unfold okT maxLen at h
  rw [if_pos (by omega)]
def ltP (x y : Pr) : Bool := decide (cmpP x y < 0)
theorem less_f (k : Nat) (x y : Pr) : pair_Less.f (k + 5) x.f0 x.f1 x.f2.f0 x.f2.f1 y.f0 y.f1 y.f2.f0 y.f2.f1 = some (ltP x y) := by
  unfold pair_Less.f pair_order.f
  rw [cS_f, cS_f, cI_f, cI_f]
  simp only [Option.bind_some]
  rw [or4_f]
  rfl
def oneP (x : Pr) : Bool := keyB x.f0.data.toList && (keyB x.f1.data.toList && (decide (0 ≤ x.f2.f0) && (decide (x.f2.f0 < 8) && decide (1 ≤ x.f2.f1))))
def mayPP : Option Pr → List Pr → Bool
  | _, [] => true
  | p, x :: l => oneP x && ((match p with | none => true | some y => ltP y x) && mayPP (some x) l)
def mayP (l : List Pr) : Bool := mayPP none l
theorem mayP_loop : ∀ (suf pre : List Pr) (k : Nat), suf.length + 5 < k → (pre ++ suf).length < 4611686018427387904 → (∀ x ∈ suf, okPair x) →
    pair_May.l0 k (pre ++ suf) (pre ++ suf) (((pre ++ suf).length : Nat) : Int) ((pre.length : Nat) : Int) = some (mayPP pre.getLast? suf)
  | suf, pre, 0, hk, _, _ => by omega
  | [], pre, k + 1, _, _, _ => by
    simp only [pair_May.l0]
    rw [if_neg (by simp)]
    rfl
  | x :: suf, pre, k + 1, hk, hl, ho => by
    have hlt : ((pre.length : Nat) : Int) < (((pre ++ x :: suf).length : Nat) : Int) := by simp; omega
    have hpl : pre.length < 4611686018427387904 := by simp at hl; omega
    have ih := mayP_loop suf (pre ++ [x]) k (by simp at hk; omega) (by simpa using hl) (fun y hy => ho y (List.mem_cons_of_mem _ hy))
    rw [app_one, List.getLast?_concat, len_one] at ih
    have hox := ho x List.mem_cons_self
    simp only [pair_May.l0]
    rw [if_pos hlt, if_pos (by omega), if_pos hlt, rdP_mid, keyT hox.1, Option.bind_some, wrapUp hpl]
    unfold mayPP oneP
    cases h1 : keyB x.f0.data.toList with
    | false => rfl
    | true =>
      rw [if_pos rfl, keyT hox.2.1, Option.bind_some]
      cases h2 : keyB x.f1.data.toList with
      | false => rfl
      | true =>
        simp only [if_true, Bool.true_and]
        by_cases h3 : x.f2.f0 < 0
        · rw [if_pos h3]
          have : ¬ (0 ≤ x.f2.f0) := by omega
          simp [this]
        · rw [if_neg h3]
          have h3' : 0 ≤ x.f2.f0 := by omega
          by_cases h4 : x.f2.f0 ≥ 8
          · rw [if_pos h4]
            have : ¬ (x.f2.f0 < 8) := by omega
            simp [this]
          · rw [if_neg h4]
            have h4' : x.f2.f0 < 8 := by omega
            by_cases h5 : x.f2.f1 < 1
            · rw [if_pos h5]
              have : ¬ (1 ≤ x.f2.f1) := by omega
              simp [this]
            · rw [if_neg h5]
              have h5' : 1 ≤ x.f2.f1 := by omega
              simp only [h3', h4', h5', decide_true, Bool.true_and]
              rcases List.eq_nil_or_concat pre with rfl | ⟨p, y, rfl⟩
              · rw [if_neg (by simp)]
                simpa using ih
              · rw [List.concat_eq_append] at *
                have hw : wrap64 ((((p ++ [y]).length : Nat) : Int) - 1) = ((p.length : Nat) : Int) := by
                  rw [List.length_append, List.length_singleton]; exact wrapDn (by simp at hpl; omega)
                obtain ⟨k', rfl⟩ : ∃ k', k = k' + 5 := ⟨k - 5, by simp at hk; omega⟩
                rw [if_pos (by simp), hw, if_pos (by omega), if_pos (by simp; omega), app_one, rdP_mid, less_f, Option.bind_some, List.getLast?_concat]
                rw [app_one] at ih
                cases h6 : ltP y x with
                | false => simp [h6]
                | true =>
                  simp only [if_true]
                  rw [ih, h6]; rfl
theorem mayP_f (k : Nat) (l : List Pr) (hk : l.length + 5 < k) (hl : l.length < 4611686018427387904) (ho : ∀ x ∈ l, okPair x) : pair_May.f k l = some (mayP l) := by
  have := mayP_loop l [] k hk (by simpa using hl) ho
  simpa [pair_May.f, mayP] using this
theorem ltP_trans {x y z : Pr} (h1 : ltP x y = true) (h2 : ltP y z = true) : ltP x z = true := by
  unfold ltP at *
  simp only [decide_eq_true_eq] at *
  exact cmpP_ok.trans x y z h1 h2
theorem ltP_irrefl (x : Pr) : ltP x x = false := by
  unfold ltP
  have := (cmpP_ok.eq x x).2 rfl
  simp [this]
theorem ltP_tri (x y : Pr) : ltP x y = true ∨ x = y ∨ ltP y x = true := by
  unfold ltP
  simp only [decide_eq_true_eq]
  rcases Int.lt_trichotomy (cmpP x y) 0 with q | q | q
  · exact .inl q
  · exact .inr (.inl ((cmpP_ok.eq x y).1 q))
  · exact .inr (.inr ((cmpP_ok.anti y x).2 q))
abbrev pLt (x y : Pr) : Prop := ltP x y = true
theorem mayPP_iff : ∀ (l : List Pr) (p : Option Pr), mayPP p l = true ↔ (∀ x ∈ l, oneP x = true) ∧ (p.toList ++ l).Pairwise pLt
  | [], none => by simp [mayPP]
  | [], some y => by simp [mayPP]
  | x :: l, none => by
    have ih := mayPP_iff l (some x)
    unfold mayPP
    simp only [Bool.true_and, Bool.and_eq_true, ih, List.mem_cons, forall_eq_or_imp, Option.toList, List.nil_append, List.cons_append]
    exact and_assoc.symm
  | x :: l, some y => by
    have ih := mayPP_iff l (some x)
    unfold mayPP
    simp only [Bool.and_eq_true, ih, List.mem_cons, forall_eq_or_imp, Option.toList, List.nil_append, List.cons_append]
    constructor
    · rintro ⟨h1, h2, h3, h4⟩
      refine ⟨⟨h1, h3⟩, ?_⟩
      rw [List.pairwise_cons]
      refine ⟨fun z hz => ?_, h4⟩
      rcases List.mem_cons.1 hz with rfl | hz
      · exact h2
      · exact ltP_trans h2 ((List.pairwise_cons.1 h4).1 z hz)
    · rintro ⟨⟨h1, h3⟩, h4⟩
      rw [List.pairwise_cons] at h4
      exact ⟨h1, h4.1 x List.mem_cons_self, h3, h4.2⟩
theorem mayP_iff (l : List Pr) : mayP l = true ↔ (∀ x ∈ l, oneP x = true) ∧ l.Pairwise pLt := by
  have := mayPP_iff l none
  simpa [mayP] using this
end Go.Proofs.Ytannmdngejdjkaa.L
