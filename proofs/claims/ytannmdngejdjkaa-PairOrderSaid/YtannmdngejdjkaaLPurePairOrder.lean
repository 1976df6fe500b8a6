/- PairOrder, plain: it answers true. -/
import Derived.Test.YtannmdngejdjkaaLPPairFuel
import Derived.Test.YtannmdngejdjkaaLHRow
import Derived.Test.YtannmdngejdjkaaLx48
namespace Go.Proofs.Ytannmdngejdjkaa.L
open Go.RowKit Go.Proofs.YtannmdngejdjkaaW.PrintWords Go.Proofs.YtannmdngejdjkaaW.PrintLast Go.Proofs.YtannmdngejdjkaaW.PrintMore Go.Proofs.YtannmdngejdjkaaW
set_option linter.unusedVariables false
theorem delP_up (l : List Pr) (key elem : ByteArray) (h : l.Pairwise pLt) : (delP l key elem).Pairwise pLt := h.sublist (delP_sub l key elem)
theorem order_true (k : Nat) (l : List Pr) (a b : ByteArray) (c d : Int) (a' b' : ByteArray) (c' d' : Int) : law08_PairOrder.j0 (k + 1) l true true a b c d a' b' c' d' = some true := by
  simp only [law08_PairOrder.j0]; rfl
theorem addP_f' {l : List Pr} (a b : ByteArray) (c d : Int) (ho : okL l) (hp : okPair ⟨a, b, ⟨c, d⟩⟩) (hl : l.length ≤ 1000) : pair_Add.f l a b c d = some (addP l ⟨a, b, ⟨c, d⟩⟩) := addP_f (p := ⟨a, b, ⟨c, d⟩⟩) ho hp hl
theorem order_j2 (k : Nat) (hk : 900 ≤ k) (hk2 : k < 1000) (l : List Pr) (a b : ByteArray) (c d : Int) (a' b' : ByteArray) (c' d' : Int) (is : Bool) (his : is = false → goneB a' b' ⟨a, b, ⟨c, d⟩⟩ = false) (ol : okL l) (hl : l.length ≤ 30) (op : okPair ⟨a, b, ⟨c, d⟩⟩) (oq : okPair ⟨a', b', ⟨c', d'⟩⟩) (ml : mayP l = true) (mp : mayP [(⟨a, b, ⟨c, d⟩⟩ : Pr)] = true) :
    law08_PairOrder.j2 (k + 1) l is a b c d a' b' c' d' = some true := by
  simp only [law08_PairOrder.j2]
  cases is with
  | true => rfl
  | false =>
    have hg := his rfl
    have l1 := addP_len l ⟨a, b, ⟨c, d⟩⟩
    have l2 := delP_len l a' b'
    have ma := addP_may ol op ml mp
    have md := delP_may (key := a') (elem := b') ml
    have l3 := delP_len (addP l ⟨a, b, ⟨c, d⟩⟩) a' b'
    have e : delP (addP l ⟨a, b, ⟨c, d⟩⟩) a' b' = addP (delP l a' b') ⟨a, b, ⟨c, d⟩⟩ := up_ext (delP_up _ _ _ (may_up ma)) (addP_up _ _) fun x => by
      rw [delP_mem ma, addP_mem ol op ml mp, addP_mem (delP_ok ol) op md mp, delP_mem ml]
      constructor
      · rintro ⟨h | h, hq⟩
        · exact .inl ⟨h, hq⟩
        · exact .inr h
      · rintro (⟨h, hq⟩ | h)
        · exact ⟨.inl h, hq⟩
        · exact ⟨.inr h, by rw [h]; exact hg⟩
    rw [if_neg (by simp), addP_f' a b c d ol op (by omega)]
    simp only [Option.bind_some]
    rw [delP_f (addP_ok ol op) (by omega)]
    simp only [Option.bind_some]
    rw [delP_f ol (by omega)]
    simp only [Option.bind_some]
    rw [addP_f' a b c d (delP_ok ol) op (by omega)]
    simp only [Option.bind_some]
    rw [sameP_f k e (by omega) (by omega)]
    rfl
theorem order_j (k : Nat) (hk : 910 ≤ k) (hk2 : k < 1000) (l : List Pr) (a b : ByteArray) (c d : Int) (a' b' : ByteArray) (c' d' : Int) (ol : okL l) (hl : l.length ≤ 30) (op : okPair ⟨a, b, ⟨c, d⟩⟩) (oq : okPair ⟨a', b', ⟨c', d'⟩⟩) (ml : mayP l = true) (mp : mayP [(⟨a, b, ⟨c, d⟩⟩ : Pr)] = true) (mq : mayP [(⟨a', b', ⟨c', d'⟩⟩ : Pr)] = true) :
    law08_PairOrder.j0 (k + 1) l true false a b c d a' b' c' d' = some true := by
  obtain ⟨p, hp⟩ : ∃ p : Pr, p = ⟨a, b, ⟨c, d⟩⟩ := ⟨_, rfl⟩
  obtain ⟨q, hq⟩ : ∃ q : Pr, q = ⟨a', b', ⟨c', d'⟩⟩ := ⟨_, rfl⟩
  have l1 := addP_len l p
  have l1' := addP_len (addP l p) p
  have l2 := addP_len l q
  have l3 := addP_len (addP l p) q
  have l4 := delP_len l a b
  have l5 := delP_len (delP l a b) a b
  have op' : okPair p := by rw [hp]; exact op
  have oq' : okPair q := by rw [hq]; exact oq
  have mp' : mayP [p] = true := by rw [hp]; exact mp
  have mq' : mayP [q] = true := by rw [hq]; exact mq
  have ma := addP_may ol op' ml mp'
  have mb := addP_may ol oq' ml mq'
  have md := delP_may (key := a) (elem := b) ml
  have e1 : addP (addP l p) p = addP l p := up_ext (addP_up _ _) (addP_up _ _) fun x => by
    rw [addP_mem (addP_ok ol op') op' ma mp', addP_mem ol op' ml mp']
    constructor
    · rintro (h | h)
      · exact h
      · exact .inr h
    · exact .inl
  have e2 : addP (addP l p) q = addP (addP l q) p := up_ext (addP_up _ _) (addP_up _ _) fun x => by
    rw [addP_mem (addP_ok ol op') oq' ma mq', addP_mem ol op' ml mp', addP_mem (addP_ok ol oq') op' mb mp', addP_mem ol oq' ml mq']
    constructor
    · rintro ((h | h) | h)
      · exact .inl (.inl h)
      · exact .inr h
      · exact .inl (.inr h)
    · rintro ((h | h) | h)
      · exact .inl (.inl h)
      · exact .inr h
      · exact .inl (.inr h)
  have e3 : delP (delP l a b) a b = delP l a b := up_ext (delP_up _ _ _ (may_up md)) (may_up md) fun x => by
    rw [delP_mem md, delP_mem ml]
    constructor
    · rintro ⟨h, _⟩; exact h
    · intro h; exact ⟨h, h.2⟩
  obtain ⟨k', rfl⟩ : ∃ k', k = k' + 1 + 1 := ⟨k - 2, by omega⟩
  simp only [law08_PairOrder.j0]
  rw [if_neg (by simp), addP_f' a b c d ol op (by omega), ← hp]
  simp only [Option.bind_some]
  rw [addP_f' a b c d (addP_ok ol op') op (by omega), ← hp]
  simp only [Option.bind_some]
  rw [sameP_f _ e1 (by omega) (by omega)]
  simp only [Option.bind_some]
  rw [addP_f' a' b' c' d' (addP_ok ol op') oq (by omega), ← hq]
  simp only [Option.bind_some]
  rw [addP_f' a' b' c' d' ol oq (by omega), ← hq]
  simp only [Option.bind_some]
  rw [addP_f' a b c d (addP_ok ol oq') op (by omega), ← hp]
  simp only [Option.bind_some]
  rw [sameP_f _ e2 (by omega) (by omega)]
  simp only [Option.bind_some]
  rw [delP_f ol (by omega)]
  simp only [Option.bind_some]
  rw [delP_f (delP_ok ol) (by omega)]
  simp only [Option.bind_some]
  rw [sameP_f _ e3 (by omega) (by omega)]
  simp only [Option.bind_some, if_true, law08_PairOrder.j1]
  rw [if_neg (by simp)]
  split
  · rename_i h1
    exact order_j2 k' (by omega) (by omega) l a b c d a' b' c' d' _ (fun h2 => by unfold goneB; simp only [Bool.and_eq_false_iff]; exact .inr h2) ol hl op oq ml mp
  · rename_i h1
    exact order_j2 k' (by omega) (by omega) l a b c d a' b' c' d' _ (fun _ => by unfold goneB; simp only [Bool.and_eq_false_iff]; exact .inl (beq_eq_false_iff_ne.2 h1)) ol hl op oq ml mp
theorem pairOrder_pure' (k : Nat) (hk : 910 ≤ k) (hk2 : k < 1000) (l : List Pr) (a b : ByteArray) (c d : Int) (a' b' : ByteArray) (c' d' : Int) (ol : okL l) (op : okPair ⟨a, b, ⟨c, d⟩⟩) (oq : okPair ⟨a', b', ⟨c', d'⟩⟩) : law08_PairOrder.f (k + 1) l a b c d a' b' c' d' = some true := by
  have ht := order_true k l a b c d a' b' c' d'
  have o1 : okL [(⟨a, b, ⟨c, d⟩⟩ : Pr)] := fun x hx => by rw [List.mem_singleton.1 hx]; exact op
  have o2 : okL [(⟨a', b', ⟨c', d'⟩⟩ : Pr)] := fun x hx => by rw [List.mem_singleton.1 hx]; exact oq
  unfold law08_PairOrder.f
  rw [awakeP_k _ (by omega), fewP_f _ l (by omega), fewP_f _ _ (by omega)]
  simp only [Option.bind_some, if_true]
  cases h1 : fewP l with
  | false => exact ht
  | true =>
    cases h2 : fewP [(⟨a, b, ⟨c, d⟩⟩ : Pr), ⟨a', b', ⟨c', d'⟩⟩] with
    | false => exact ht
    | true =>
      have ll := fewP_len h1
      rw [mayPk _ l (by omega) (by omega) ol, mayPk _ [(⟨a, b, ⟨c, d⟩⟩ : Pr)] (by simp; omega) (by simp) o1, mayPk _ [(⟨a', b', ⟨c', d'⟩⟩ : Pr)] (by simp; omega) (by simp) o2]
      simp only [Option.bind_some, if_true]
      cases h5 : mayP l with
      | false => exact ht
      | true =>
        cases h6 : mayP [(⟨a, b, ⟨c, d⟩⟩ : Pr)] with
        | false => exact ht
        | true =>
          cases h7 : mayP [(⟨a', b', ⟨c', d'⟩⟩ : Pr)] with
          | false => exact ht
          | true => exact order_j k hk hk2 l a b c d a' b' c' d' ol ll op oq h5 h6 h7
theorem pairOrder_pure (l0 : List Pr) (a b : ByteArray) (c d : Int) (a' b' : ByteArray) (c' d' : Int) (h0 : okL l0) (h1 : okPair ⟨a, b, ⟨c, d⟩⟩) (h2 : okPair ⟨a', b', ⟨c', d'⟩⟩) : ∃ k, law08_PairOrder.f k l0 a b c d a' b' c' d' = some true := ⟨910 + 1, pairOrder_pure' 910 (by omega) (by omega) l0 a b c d a' b' c' d' h0 h1 h2⟩
end Go.Proofs.Ytannmdngejdjkaa.L
