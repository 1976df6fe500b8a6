/- Ids as lists of bytes: their order, sets of them as lists that rise. Plain. -/
import Derived.Test.YtkgjdeicjkibiaaStrOrd
namespace Go.Proofs.Ytkgjdeicjkibiaa.D
open Go.Proofs.YtkgjdeicjkibiaaW
set_option linter.unusedVariables false
set_option linter.unusedSimpArgs false
abbrev Id := List UInt8
def ltI (a b : Id) : Bool := Op.bytesLess a b
def insI (x : Id) : List Id → List Id
  | [] => [x]
  | y :: l => if ltI x y then x :: y :: l else if x = y then y :: l else y :: insI x l
def sortI (l : List Id) : List Id := l.foldr insI []
def UpI (l : List Id) : Prop := l.Pairwise (fun a b => ltI a b = true)
theorem ltI_irrefl (a : Id) : ltI a a = false := less_irrefl a
theorem ltI_trans {a b c : Id} (h : ltI a b = true) (h' : ltI b c = true) : ltI a c = true := less_trans h h'
theorem ltI_total {a b : Id} (h : ltI a b = false) (h' : ltI b a = false) : a = b := less_antisymm h h'
theorem ltI_asymm {a b : Id} (h : ltI a b = true) : ltI b a = false := less_asymm h
theorem ltI_ne {a b : Id} (h : ltI a b = true) : a ≠ b := fun e => by rw [e, ltI_irrefl] at h; cases h
theorem mem_insI (x y : Id) : ∀ l : List Id, y ∈ insI x l ↔ y = x ∨ y ∈ l
  | [] => by simp [insI]
  | z :: l => by
    unfold insI
    split
    · simp
    · split
      · rename_i h; subst h; simp
      · simp only [List.mem_cons, mem_insI x y l]
        constructor
        · rintro (h | h | h)
          · exact .inr (.inl h)
          · exact .inl h
          · exact .inr (.inr h)
        · rintro (h | h | h)
          · exact .inr (.inl h)
          · exact .inl h
          · exact .inr (.inr h)
theorem up_insI (x : Id) : ∀ l : List Id, UpI l → UpI (insI x l)
  | [], _ => List.pairwise_singleton _ _
  | z :: l, h => by
    unfold UpI at h
    rw [List.pairwise_cons] at h
    unfold insI
    cases h1 : ltI x z with
    | true =>
      rw [if_pos rfl]
      refine List.pairwise_cons.2 ⟨fun y hy => ?_, List.pairwise_cons.2 h⟩
      rcases List.mem_cons.1 hy with rfl | hy
      · exact h1
      · exact ltI_trans h1 (h.1 y hy)
    | false =>
      rw [if_neg (by simp)]
      by_cases h2 : x = z
      · rw [if_pos h2]
        exact List.pairwise_cons.2 h
      · rw [if_neg h2]
        refine List.pairwise_cons.2 ⟨fun y hy => ?_, up_insI x l h.2⟩
        rcases (mem_insI x y l).1 hy with rfl | hy
        · cases h3 : ltI z y with
          | true => rfl
          | false => exact absurd (ltI_total h1 h3) h2
        · exact h.1 y hy
theorem mem_sortI (y : Id) : ∀ l : List Id, y ∈ sortI l ↔ y ∈ l
  | [] => by simp [sortI]
  | x :: l => by
    have ih := mem_sortI y l
    unfold sortI at ih ⊢
    rw [List.foldr_cons, mem_insI, ih, List.mem_cons]
theorem up_sortI : ∀ l : List Id, UpI (sortI l)
  | [] => List.Pairwise.nil
  | x :: l => up_insI x _ (up_sortI l)
theorem up_ext : ∀ {a b : List Id}, UpI a → UpI b → (∀ x, x ∈ a ↔ x ∈ b) → a = b
  | [], [], _, _, _ => rfl
  | [], y :: b, _, _, h => by have := (h y).2 List.mem_cons_self; cases this
  | x :: a, [], _, _, h => by have := (h x).1 List.mem_cons_self; cases this
  | x :: a, y :: b, ha, hb, h => by
    have ha' := List.pairwise_cons.1 ha
    have hb' := List.pairwise_cons.1 hb
    have e : x = y := by
      rcases List.mem_cons.1 ((h x).1 List.mem_cons_self) with e | h1
      · exact e
      · rcases List.mem_cons.1 ((h y).2 List.mem_cons_self) with e | h2
        · exact e.symm
        · have q1 := ha'.1 y h2
          have q2 := hb'.1 x h1
          rw [ltI_asymm q1] at q2; cases q2
    subst e
    rw [up_ext ha'.2 hb'.2 fun z => ?_]
    constructor
    · intro hz
      rcases List.mem_cons.1 ((h z).1 (List.mem_cons_of_mem _ hz)) with rfl | q
      · have := ha'.1 z hz; rw [ltI_irrefl] at this; cases this
      · exact q
    · intro hz
      rcases List.mem_cons.1 ((h z).2 (List.mem_cons_of_mem _ hz)) with rfl | q
      · have := hb'.1 z hz; rw [ltI_irrefl] at this; cases this
      · exact q
theorem sortI_ext {a b : List Id} (h : ∀ x, x ∈ a ↔ x ∈ b) : sortI a = sortI b := up_ext (up_sortI a) (up_sortI b) fun x => by rw [mem_sortI, mem_sortI, h x]
theorem sortI_up {a : List Id} (h : UpI a) : sortI a = a := up_ext (up_sortI a) h fun x => mem_sortI x a
theorem len_insI (x : Id) : ∀ l : List Id, (insI x l).length ≤ l.length + 1
  | [] => by simp [insI]
  | z :: l => by
    unfold insI
    split
    · simp
    · split
      · simp
      · simp only [List.length_cons]; have := len_insI x l; omega
theorem len_sortI : ∀ l : List Id, (sortI l).length ≤ l.length
  | [] => by simp [sortI]
  | x :: l => by
    have := len_sortI l
    have h := len_insI x (sortI l)
    simp only [sortI, List.foldr_cons, List.length_cons] at h this ⊢
    omega
/-- those of one list that another one has, or has not -/
def someI (a b : List Id) (want : Bool) : List Id := sortI (a.filter fun x => decide (x ∈ b) == want)
theorem mem_someI (a b : List Id) (want : Bool) (x : Id) : x ∈ someI a b want ↔ x ∈ a ∧ decide (x ∈ b) = want := by
  unfold someI
  rw [mem_sortI, List.mem_filter, beq_iff_eq]
theorem len_someI (a b : List Id) (want : Bool) : (someI a b want).length ≤ a.length := Nat.le_trans (len_sortI _) (List.length_filter_le _ _)
def bothI (a b : List Id) : List Id := sortI (a ++ b)
theorem mem_bothI (a b : List Id) (x : Id) : x ∈ bothI a b ↔ x ∈ a ∨ x ∈ b := by unfold bothI; rw [mem_sortI, List.mem_append]
def okId (x : Id) : Prop := x.length = 32
theorem ok_sortI {l : List Id} (h : ∀ x ∈ l, okId x) : ∀ x ∈ sortI l, okId x := fun x hx => h x ((mem_sortI x l).1 hx)
theorem ok_someI {a b : List Id} {want : Bool} (h : ∀ x ∈ a, okId x) : ∀ x ∈ someI a b want, okId x := fun x hx => h x ((mem_someI a b want x).1 hx).1
theorem ok_bothI {a b : List Id} (h : ∀ x ∈ a, okId x) (h' : ∀ x ∈ b, okId x) : ∀ x ∈ bothI a b, okId x := fun x hx => ((mem_bothI a b x).1 hx).elim (h x) (h' x)
end Go.Proofs.Ytkgjdeicjkibiaa.D
