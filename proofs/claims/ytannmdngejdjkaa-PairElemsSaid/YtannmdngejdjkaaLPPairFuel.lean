/- Pairs: what the printed functions come to, with rounds enough. Plain. -/
import Derived.Test.YtannmdngejdjkaaLPPairLaws
import Derived.Test.YtannmdngejdjkaaLx34
import Derived.Test.YtannmdngejdjkaaLx35
import Derived.Test.YtannmdngejdjkaaLx38
namespace Go.Proofs.Ytannmdngejdjkaa.L
open Go.RowKit Go.Proofs.YtannmdngejdjkaaW.PrintWords Go.Proofs.YtannmdngejdjkaaW.PrintLast Go.Proofs.YtannmdngejdjkaaW.PrintMore Go.Proofs.YtannmdngejdjkaaW
set_option linter.unusedVariables false
set_option linter.unusedSimpArgs false
def eqQ (x y : Pr) : Bool := (x.f0.toList == y.f0.toList) && ((x.f1.toList == y.f1.toList) && ((x.f2.f0 == y.f2.f0) && (x.f2.f1 == y.f2.f1)))
theorem eqQ_iff {x y : Pr} : eqQ x y = true ↔ x = y := by
  unfold eqQ
  simp only [Bool.and_eq_true, beq_iff_eq]
  constructor
  · rintro ⟨h1, h2, h3, h4⟩
    obtain ⟨a, b, c, d⟩ := x
    obtain ⟨a', b', c', d'⟩ := y
    simp only at h1 h2 h3 h4
    obtain rfl := toList_inj h1
    obtain rfl := toList_inj h2
    subst h3 h4
    rfl
  · rintro rfl; exact ⟨rfl, rfl, rfl, rfl⟩
instance : DecidableEq Pr := fun x y => decidable_of_iff (eqQ x y = true) eqQ_iff
theorem monoP_up {α : Type} {f : Nat → Option α} (hm : ∀ k, LeO (f k) (f (k + 1))) {n : Nat} {r : α} (h : f n = some r) : ∀ k, n ≤ k → f k = some r := by
  intro k hk
  obtain ⟨d, rfl⟩ := Nat.exists_eq_add_of_le hk
  clear hk
  induction d with
  | zero => exact h
  | succ d ih => exact hm _ _ ih
def fewP (l : List Pr) : Bool := decide (l.length ≤ 30) && l.all (fun x => decide (x.f0.size ≤ 100) && decide (x.f1.size ≤ 100))
theorem fewP_loop : ∀ (suf pre : List Pr) (k : Nat), suf.length < k → (pre ++ suf).length < 4611686018427387904 →
    law08_Few.l0 k (pre ++ suf) ((pre.length : Nat) : Int) = some (suf.all (fun x => decide (x.f0.size ≤ 100) && decide (x.f1.size ≤ 100)))
  | suf, pre, 0, hk, _ => by omega
  | [], pre, k + 1, _, _ => by
    simp only [law08_Few.l0]
    rw [if_neg (by simp)]
    rfl
  | x :: suf, pre, k + 1, hk, hl => by
    have hlt : ((pre.length : Nat) : Int) < (((pre ++ x :: suf).length : Nat) : Int) := by simp; omega
    have hpl : pre.length < 4611686018427387904 := by simp at hl; omega
    have ih := fewP_loop suf (pre ++ [x]) k (by simp at hk; omega) (by simpa using hl)
    rw [app_one, len_one] at ih
    simp only [law08_Few.l0]
    rw [if_pos hlt, if_pos (by omega), rdP_mid, wrapUp hpl, ih, List.all_cons]
    by_cases h1 : x.f0.size ≤ 100
    · rw [if_neg (by omega)]
      by_cases h2 : x.f1.size ≤ 100
      · rw [if_neg (by omega)]; simp [h1, h2]
      · rw [if_pos (by omega)]; simp [h1, h2]
    · rw [if_pos (by omega)]; simp [h1]
theorem fewP_f (k : Nat) (l : List Pr) (hk : 31 < k) : law08_Few.f k l = some (fewP l) := by
  unfold law08_Few.f fewP
  by_cases h : l.length ≤ 30
  · rw [if_neg (by omega)]
    have := fewP_loop l [] k (by omega) (by simp; omega)
    simp only [List.nil_append, List.length_nil] at this
    rw [show ((0 : Nat) : Int) = 0 from rfl] at this
    rw [this]; simp [h]
  · rw [if_pos (by omega)]; simp [h]
theorem fewP_len {l : List Pr} (h : fewP l = true) : l.length ≤ 30 := by
  unfold fewP at h; simp at h; exact h.1
theorem smallP_of {l : List Pr} (h : okL l) (hl : l.length ≤ 1000) : smallP l = true := by
  unfold smallP
  simp only [Bool.and_eq_true, decide_eq_true_eq, List.all_eq_true]
  exact ⟨by omega, fun x hx => okB_iff.2 (h x hx)⟩
theorem mayPk (k : Nat) (l : List Pr) (hk : l.length + 5 < k) (hl : l.length ≤ 1000) (ho : okL l) : pair_May.f k l = some (mayP l) := mayP_f k l hk (by omega) ho
theorem addP_f {l : List Pr} {p : Pr} (ho : okL l) (hp : okPair p) (hl : l.length ≤ 1000) : pair_Add.f l p.f0 p.f1 p.f2.f0 p.f2.f1 = some (addP l p) := by
  unfold pair_Add.f
  rw [if_pos ⟨smallP_of ho hl, okB_iff.2 hp⟩]
theorem delP_f {l : List Pr} {a b : ByteArray} (ho : okL l) (hl : l.length ≤ 1000) : pair_Del.f l a b = some (delP l a b) := by
  unfold pair_Del.f
  rw [if_pos (smallP_of ho hl)]
theorem elemsP_f {l : List Pr} {a : ByteArray} (ho : okL l) (hl : l.length ≤ 1000) : pair_Elems.f l a = some (elemsP l a) := by
  unfold pair_Elems.f
  rw [if_pos (smallP_of ho hl)]
theorem mergeP_f {a b c : List Pr} (h0 : okL a) (h1 : okL b) (h2 : okL c) (l0 : a.length ≤ 1000) (l1 : b.length ≤ 1000) (l2 : c.length ≤ 1000) : pair_Merge.f a b c = some (mergeP a b c) := by
  unfold pair_Merge.f
  rw [if_pos ⟨smallP_of h0 l0, smallP_of h1 l1, smallP_of h2 l2⟩]
theorem sameP_loop (l : List Pr) (hl : l.length < 4611686018427387904) : ∀ (d k n : Nat), n + d = l.length → d < k → ref08_Same.l0 k l l (n : Int) = some true
  | d, 0, n, _, h => by omega
  | 0, k + 1, n, h, _ => by
    simp only [ref08_Same.l0]
    rw [if_neg (by omega)]
  | d + 1, k + 1, n, h, hk => by
    have ih := sameP_loop l hl d k (n + 1) (by omega) (by omega)
    simp only [ref08_Same.l0]
    rw [if_pos (by omega), if_pos (by omega), if_pos (by omega), wrapUp (by omega), ih]
    simp
theorem sameP_f (k : Nat) {l l' : List Pr} (h : l = l') (hl : l.length < k) (hk : k < 1000000) : ref08_Same.f k l l' = some true := by
  subst h
  unfold ref08_Same.f
  rw [if_pos rfl]
  exact sameP_loop l (by omega) l.length k 0 (by omega) hl
theorem w_one_ne : ((⟨(⟨#[97]⟩ : ByteArray), (⟨#[120]⟩ : ByteArray), (⟨0, 1⟩ : S24)⟩ : S57) : Pr) ≠ (⟨(⟨#[97]⟩ : ByteArray), (⟨#[120]⟩ : ByteArray), (⟨0, 2⟩ : S24)⟩ : S57) := by
  intro h
  injection h with _ _ h
  injection h with _ h
  cases h
theorem w_ok : okL [(⟨(⟨#[97]⟩ : ByteArray), (⟨#[120]⟩ : ByteArray), (⟨0, 1⟩ : S24)⟩ : S57), (⟨(⟨#[97]⟩ : ByteArray), (⟨#[120]⟩ : ByteArray), (⟨0, 2⟩ : S24)⟩ : S57)] := by
  intro x hx
  rw [← okB_iff]
  rcases List.mem_cons.1 hx with rfl | hx
  · decide +kernel
  · rw [List.mem_singleton.1 hx]; decide +kernel
theorem w_up : ([(⟨(⟨#[97]⟩ : ByteArray), (⟨#[120]⟩ : ByteArray), (⟨0, 1⟩ : S24)⟩ : S57), (⟨(⟨#[97]⟩ : ByteArray), (⟨#[120]⟩ : ByteArray), (⟨0, 2⟩ : S24)⟩ : S57)] : List Pr).Pairwise pLt := by
  refine List.pairwise_cons.2 ⟨fun y hy => ?_, List.pairwise_singleton _ _⟩
  rw [List.mem_singleton.1 hy]
  show ltP _ _ = true
  decide +kernel
theorem w_ok1 : okL [(⟨(⟨#[97]⟩ : ByteArray), (⟨#[120]⟩ : ByteArray), (⟨0, 1⟩ : S24)⟩ : S57)] := fun x hx => w_ok x (by rw [List.mem_singleton.1 hx]; exact List.mem_cons_self)
theorem w_del : pair_Del.f ([(⟨(⟨#[97]⟩ : ByteArray), (⟨#[120]⟩ : ByteArray), (⟨0, 1⟩ : S24)⟩ : S57)] : List (S57)) (⟨#[97]⟩ : ByteArray) (⟨#[120]⟩ : ByteArray) = some [] := by
  have h := delP_f (l := [(⟨(⟨#[97]⟩ : ByteArray), (⟨#[120]⟩ : ByteArray), (⟨0, 1⟩ : S24)⟩ : S57)]) (a := (⟨#[97]⟩ : ByteArray)) (b := (⟨#[120]⟩ : ByteArray)) w_ok1 (by decide)
  have e : (delP [(⟨(⟨#[97]⟩ : ByteArray), (⟨#[120]⟩ : ByteArray), (⟨0, 1⟩ : S24)⟩ : S57)] (⟨#[97]⟩ : ByteArray) (⟨#[120]⟩ : ByteArray)).length = 0 := by decide +kernel
  rw [h, List.eq_nil_of_length_eq_zero e]
theorem w_add : pair_Add.f ([(⟨(⟨#[97]⟩ : ByteArray), (⟨#[120]⟩ : ByteArray), (⟨0, 1⟩ : S24)⟩ : S57)] : List (S57)) (⟨#[97]⟩ : ByteArray) (⟨#[120]⟩ : ByteArray) 0 2 = some [(⟨(⟨#[97]⟩ : ByteArray), (⟨#[120]⟩ : ByteArray), (⟨0, 1⟩ : S24)⟩ : S57), (⟨(⟨#[97]⟩ : ByteArray), (⟨#[120]⟩ : ByteArray), (⟨0, 2⟩ : S24)⟩ : S57)] := by
  have h := addP_f (l := [(⟨(⟨#[97]⟩ : ByteArray), (⟨#[120]⟩ : ByteArray), (⟨0, 1⟩ : S24)⟩ : S57)]) (p := (⟨(⟨#[97]⟩ : ByteArray), (⟨#[120]⟩ : ByteArray), (⟨0, 2⟩ : S24)⟩ : S57)) w_ok1 (w_ok _ (by simp)) (by decide)
  refine h.trans ?_
  have m : (mayP [(⟨(⟨#[97]⟩ : ByteArray), (⟨#[120]⟩ : ByteArray), (⟨0, 1⟩ : S24)⟩ : S57)] && mayP [(⟨(⟨#[97]⟩ : ByteArray), (⟨#[120]⟩ : ByteArray), (⟨0, 2⟩ : S24)⟩ : S57)]) = true := by decide +kernel
  unfold addP
  rw [if_pos m]
  exact congrArg some (setP_of_up w_ok w_up)
theorem w_merge : pair_Merge.f ([(⟨(⟨#[97]⟩ : ByteArray), (⟨#[120]⟩ : ByteArray), (⟨0, 1⟩ : S24)⟩ : S57)] : List (S57)) [] [(⟨(⟨#[97]⟩ : ByteArray), (⟨#[120]⟩ : ByteArray), (⟨0, 1⟩ : S24)⟩ : S57), (⟨(⟨#[97]⟩ : ByteArray), (⟨#[120]⟩ : ByteArray), (⟨0, 2⟩ : S24)⟩ : S57)] = some [(⟨(⟨#[97]⟩ : ByteArray), (⟨#[120]⟩ : ByteArray), (⟨0, 2⟩ : S24)⟩ : S57)] := by
  have h := mergeP_f (a := [(⟨(⟨#[97]⟩ : ByteArray), (⟨#[120]⟩ : ByteArray), (⟨0, 1⟩ : S24)⟩ : S57)]) (b := []) (c := [(⟨(⟨#[97]⟩ : ByteArray), (⟨#[120]⟩ : ByteArray), (⟨0, 1⟩ : S24)⟩ : S57), (⟨(⟨#[97]⟩ : ByteArray), (⟨#[120]⟩ : ByteArray), (⟨0, 2⟩ : S24)⟩ : S57)]) w_ok1 (fun x hx => by cases hx) w_ok (by decide) (by decide) (by decide)
  refine h.trans (congrArg some ?_)
  refine up_ext (mergeP_up _ _ _) (List.pairwise_singleton _ _) fun x => ?_
  rw [mergeP_mem w_ok1 (fun x hx => by cases hx) w_ok (by decide) (by decide) (by decide) (by decide +kernel) rfl (by decide +kernel)]
  have hne := w_one_ne
  constructor
  · rintro ⟨h1 | h1, h2⟩
    · cases h1
    · rcases h2 with ⟨h2, _⟩ | h2
      · cases h2
      · rcases List.mem_cons.1 h1 with rfl | h1
        · exact absurd List.mem_cons_self h2
        · exact h1
  · intro h1
    have := List.mem_singleton.1 h1
    subst this
    exact ⟨.inr (by simp), .inr (fun h2 => hne (List.mem_singleton.1 h2).symm)⟩
theorem w_elems : pair_Elems.f ([(⟨(⟨#[97]⟩ : ByteArray), (⟨#[120]⟩ : ByteArray), (⟨0, 1⟩ : S24)⟩ : S57), (⟨(⟨#[97]⟩ : ByteArray), (⟨#[120]⟩ : ByteArray), (⟨0, 2⟩ : S24)⟩ : S57)] : List (S57)) (⟨#[97]⟩ : ByteArray) = some [(⟨#[120]⟩ : ByteArray)] := by decide +kernel
theorem w_may : pair_May.f 12 ([(⟨(⟨#[97]⟩ : ByteArray), (⟨#[120]⟩ : ByteArray), (⟨0, 2⟩ : S24)⟩ : S57)] : List (S57)) = some true := by decide +kernel
theorem w_less : pair_Less.f 12 (⟨#[97]⟩ : ByteArray) (⟨#[120]⟩ : ByteArray) 0 1 (⟨#[97]⟩ : ByteArray) (⟨#[120]⟩ : ByteArray) 0 2 = some true := by decide +kernel
theorem awakeP_12 : law08_awake.f 12 = some true := by
  unfold law08_awake.f
  rw [Option.bind_some, w_del, Option.bind_some, w_add, Option.bind_some, w_merge, Option.bind_some, w_may, w_less, w_elems]
  decide +kernel
theorem awakeP_k (k : Nat) (hk : 12 ≤ k) : law08_awake.f k = some true := monoP_up law08_awake.mono awakeP_12 k hk
end Go.Proofs.Ytannmdngejdjkaa.L
