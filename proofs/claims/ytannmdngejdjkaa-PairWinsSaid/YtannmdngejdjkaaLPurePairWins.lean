/- PairWins, plain: it answers true. -/
import Derived.Test.YtannmdngejdjkaaLPPairFuel
import Derived.Test.YtannmdngejdjkaaLHRow
import Derived.Test.YtannmdngejdjkaaLx45
namespace Go.Proofs.Ytannmdngejdjkaa.L
open Go.RowKit Go.Proofs.YtannmdngejdjkaaW.PrintWords Go.Proofs.YtannmdngejdjkaaW.PrintLast Go.Proofs.YtannmdngejdjkaaW.PrintMore Go.Proofs.YtannmdngejdjkaaW
set_option linter.unusedVariables false
theorem addP_fW {l : List Pr} (a b : ByteArray) (c d : Int) (ho : okL l) (hp : okPair ⟨a, b, ⟨c, d⟩⟩) (hl : l.length ≤ 1000) : pair_Add.f l a b c d = some (addP l ⟨a, b, ⟨c, d⟩⟩) := addP_f (p := ⟨a, b, ⟨c, d⟩⟩) ho hp hl
theorem wins_true (k : Nat) (l : List Pr) (key elem : ByteArray) (a b : ByteArray) (c d : Int) : law08_PairWins.j0 (k + 1) l key elem true true a b c d = some true := by
  simp only [law08_PairWins.j0]; rfl
def eqW (x y : Pr) : Bool := (x.f0.toList == y.f0.toList) && ((x.f1.toList == y.f1.toList) && ((x.f2.f0 == y.f2.f0) && (x.f2.f1 == y.f2.f1)))
theorem eqW_iff {x y : Pr} : eqW x y = true ↔ x = y := by
  unfold eqW
  simp only [Bool.and_eq_true, beq_iff_eq]
  constructor
  · rintro ⟨h1, h2, h3, h4⟩
    obtain ⟨a, b, c, d⟩ := x
    obtain ⟨a', b', c', d'⟩ := y
    simp only at h1 h2 h3 h4
    obtain rfl := toList_inj h1
    obtain rfl := toList_inj h2
    subst h3 h4
    rfl
  · rintro rfl; exact ⟨rfl, rfl, rfl, rfl⟩
theorem neW (x y : Pr) : (!(x.f0.toList == y.f0.toList) || (!(x.f1.toList == y.f1.toList) || ((!(x.f2.f0 == y.f2.f0)) || (!(x.f2.f1 == y.f2.f1))))) = !eqW x y := by
  unfold eqW
  cases (x.f0.toList == y.f0.toList) <;> cases (x.f1.toList == y.f1.toList) <;> cases (x.f2.f0 == y.f2.f0) <;> cases (x.f2.f1 == y.f2.f1) <;> rfl
theorem wins_l1 (key elem a b : ByteArray) (c d : Int) (old : Bool) (m : List Pr) (hm : m.length ≤ 100) (om : okL m) (mm : mayP m = true) (hno : ∀ x ∈ m, x ≠ ⟨a, b, ⟨c, d⟩⟩ → goneB key elem x = false)
    (hfin : decide ((⟨a, b, ⟨c, d⟩⟩ : Pr) ∈ m) = (!old || !goneB key elem ⟨a, b, ⟨c, d⟩⟩)) : ∀ (r q n : Nat) (is : Bool), n + r = m.length → (is = decide ((⟨a, b, ⟨c, d⟩⟩ : Pr) ∈ m.take n)) → r + 200 < q →
    law08_PairWins.l1 q key elem old m is (n : Int) a b c d = some true
  | r, 0, n, is, _, _, h => by omega
  | 0, q + 1, n, is, h, hi, hq => by
    obtain ⟨q', rfl⟩ : ∃ q', q = q' := ⟨q, rfl⟩
    simp only [law08_PairWins.l1]
    rw [if_neg (by omega)]
    have e : m.take n = m := List.take_of_length_le (by omega)
    rw [e, hfin] at hi
    rw [mayPk q m (by omega) (by omega) om, mm]
    simp only [Option.bind_some, if_true]
    unfold goneB at hi
    split
    · rename_i h1
      simp only [h1, beq_self_eq_true, Bool.true_and] at hi
      cases old with
      | true => simp [hi]
      | false => simp at hi; simp [hi]
    · rename_i h1
      have h2 : (a.toList == key.toList) = false := beq_eq_false_iff_ne.2 h1
      simp only [h2, Bool.false_and] at hi
      cases old <;> simp at hi <;> simp [hi]
  | r + 1, q + 1, n, is, h, hi, hq => by
    have hn : n < m.length := by omega
    have hmem : decide ((⟨a, b, ⟨c, d⟩⟩ : Pr) ∈ m.take (n + 1)) = (is || eqW m[n] ⟨a, b, ⟨c, d⟩⟩) := by
      rw [hi, List.take_succ_eq_append_getElem hn, Bool.eq_iff_iff]
      simp only [decide_eq_true_eq, List.mem_append, List.mem_singleton, Bool.or_eq_true, eqW_iff]
      constructor
      · rintro (h | h)
        · exact .inl h
        · exact .inr h.symm
      · rintro (h | h)
        · exact .inl h
        · exact .inr h.symm
    have hx := hno m[n] (List.getElem_mem hn)
    have hne := neW m[n] ⟨a, b, ⟨c, d⟩⟩
    have hrd := rdP_at m n hn
    have hpc : ∀ is', is' = (is || eqW m[n] ⟨a, b, ⟨c, d⟩⟩) → law08_PairWins.l1 q key elem old m is' (wrap64 ((n : Int) + 1)) a b c d = some true := fun is' h' => by
      rw [wrapUp (by omega)]
      exact wins_l1 key elem a b c d old m hm om mm hno hfin r q (n + 1) is' (by omega) (by rw [h', hmem]) (by omega)
    simp only [law08_PairWins.l1]
    rw [if_pos (by omega), hrd]
    simp only at hne
    cases is with
    | true =>
      rw [if_pos rfl, if_pos (by omega), hne]
      split
      · rename_i h1
        have hg := hx (fun e => by rw [eqW_iff.2 e] at h1; cases h1)
        unfold goneB at hg
        split
        · rename_i h2
          split
          · rename_i h3
            simp [h2, h3] at hg
          · exact hpc _ (by simp)
        · exact hpc _ (by simp)
      · exact hpc _ (by simp)
    | false =>
      rw [if_neg (by simp), if_pos (by omega), hne]
      split
      · rename_i h1
        have hg := hx (fun e => by rw [eqW_iff.2 e] at h1; cases h1)
        unfold goneB at hg
        split
        · rename_i h2
          split
          · rename_i h3
            simp [h2, h3] at hg
          · exact hpc _ (by simp [eqW])
        · exact hpc _ (by simp [eqW])
      · exact hpc _ (by simp [eqW])
theorem wins_l0 (key elem a b : ByteArray) (c d : Int) (l : List Pr) (ol : okL l) (hl : l.length ≤ 30) (op : okPair ⟨a, b, ⟨c, d⟩⟩) (ml : mayP l = true) (mp : mayP [(⟨a, b, ⟨c, d⟩⟩ : Pr)] = true) : ∀ (r q n : Nat) (is : Bool), n + r = l.length → (is = decide ((⟨a, b, ⟨c, d⟩⟩ : Pr) ∈ l.take n)) → r + 400 < q →
    law08_PairWins.l0 q l key elem is (n : Int) a b c d = some true
  | r, 0, n, is, _, _, h => by omega
  | 0, q + 1, n, is, h, hi, hq => by
    have e : l.take n = l := List.take_of_length_le (by omega)
    rw [e] at hi
    simp only [law08_PairWins.l0]
    rw [if_neg (by omega)]
    have l1 := addP_len l ⟨a, b, ⟨c, d⟩⟩
    have l2 := delP_len l key elem
    have ma := addP_may ol op ml mp
    have md := delP_may (key := key) (elem := elem) ml
    have l3 := mergeP_len l (addP l ⟨a, b, ⟨c, d⟩⟩) (delP l key elem)
    rw [addP_fW a b c d ol op (by omega)]
    simp only [Option.bind_some]
    rw [delP_f ol (by omega)]
    simp only [Option.bind_some]
    rw [mergeP_f ol (addP_ok ol op) (delP_ok ol) (by omega) (by omega) (by omega)]
    simp only [Option.bind_some]
    have hmm : ∀ x, x ∈ mergeP l (addP l ⟨a, b, ⟨c, d⟩⟩) (delP l key elem) ↔ ((x ∈ l ∨ x = ⟨a, b, ⟨c, d⟩⟩) ∨ (x ∈ l ∧ goneB key elem x = false)) ∧ (((x ∈ l ∨ x = ⟨a, b, ⟨c, d⟩⟩) ∧ (x ∈ l ∧ goneB key elem x = false)) ∨ ¬ x ∈ l) := fun x => by
      rw [mergeP_mem ol (addP_ok ol op) (delP_ok ol) (by omega) (by omega) (by omega) ml ma md, addP_mem ol op ml mp, delP_mem ml]
    refine wins_l1 key elem a b c d is _ (by omega) (mergeP_ok (addP_ok ol op) (delP_ok ol)) (mergeP_may (addP_ok ol op) (delP_ok ol) ma md) ?_ ?_ _ q 0 false (by rw [Nat.zero_add]) (by simp) (by omega)
    · intro x hx hne
      rw [hmm] at hx
      obtain ⟨h1, h2⟩ := hx
      rcases h2 with ⟨_, h2⟩ | h2
      · exact h2.2
      · rcases h1 with (h1 | h1) | h1
        · exact absurd h1 h2
        · exact absurd h1 hne
        · exact absurd h1.1 h2
    · rw [hi, Bool.eq_iff_iff, decide_eq_true_eq, hmm]
      by_cases h1 : (⟨a, b, ⟨c, d⟩⟩ : Pr) ∈ l <;> cases h2 : goneB key elem (⟨a, b, ⟨c, d⟩⟩ : Pr) <;> simp [h1]
  | r + 1, q + 1, n, is, h, hi, hq => by
    have hn : n < l.length := by omega
    have hmem : decide ((⟨a, b, ⟨c, d⟩⟩ : Pr) ∈ l.take (n + 1)) = (is || eqW l[n] ⟨a, b, ⟨c, d⟩⟩) := by
      rw [hi, List.take_succ_eq_append_getElem hn, Bool.eq_iff_iff]
      simp only [decide_eq_true_eq, List.mem_append, List.mem_singleton, Bool.or_eq_true, eqW_iff]
      constructor
      · rintro (h | h)
        · exact .inl h
        · exact .inr h.symm
      · rintro (h | h)
        · exact .inl h
        · exact .inr h.symm
    have hpc : ∀ is', is' = (is || eqW l[n] ⟨a, b, ⟨c, d⟩⟩) → law08_PairWins.l0 q l key elem is' (wrap64 ((n : Int) + 1)) a b c d = some true := fun is' h' => by
      rw [wrapUp (by omega)]
      exact wins_l0 key elem a b c d l ol hl op ml mp r q (n + 1) is' (by omega) (by rw [h', hmem]) (by omega)
    simp only [law08_PairWins.l0]
    rw [if_pos (by omega), rdP_at l n hn]
    cases is with
    | true => exact hpc _ (by simp)
    | false =>
      rw [if_neg (by simp), if_pos (by omega)]
      exact hpc _ (by simp [eqW])
theorem pairWins_pure' (k : Nat) (hk : 900 ≤ k) (hk2 : k < 1000) (l : List Pr) (a b : ByteArray) (c d : Int) (key elem : ByteArray) (ol : okL l) (op : okPair ⟨a, b, ⟨c, d⟩⟩) : law08_PairWins.f (k + 1) l a b c d key elem = some true := by
  have ht := wins_true k l key elem a b c d
  have o1 : okL [(⟨a, b, ⟨c, d⟩⟩ : Pr)] := fun x hx => by rw [List.mem_singleton.1 hx]; exact op
  unfold law08_PairWins.f
  rw [awakeP_k _ (by omega), fewP_f _ l (by omega), fewP_f _ _ (by omega)]
  simp only [Option.bind_some, if_true]
  cases h1 : fewP l with
  | false => exact ht
  | true =>
    cases h2 : fewP [(⟨a, b, ⟨c, d⟩⟩ : Pr)] with
    | false => exact ht
    | true =>
      have ll := fewP_len h1
      rw [mayPk _ l (by omega) (by omega) ol, mayPk _ [(⟨a, b, ⟨c, d⟩⟩ : Pr)] (by simp; omega) (by simp) o1]
      simp only [Option.bind_some, if_true]
      cases h5 : mayP l with
      | false => exact ht
      | true =>
        cases h6 : mayP [(⟨a, b, ⟨c, d⟩⟩ : Pr)] with
        | false => exact ht
        | true =>
          simp only [if_true]
          have hj : law08_PairWins.j0 (k + 1) l key elem true false a b c d = some true := by
            simp only [law08_PairWins.j0]
            rw [if_neg (by simp)]
            exact wins_l0 key elem a b c d l ol ll op h5 h6 l.length k 0 false (by omega) (by simp) (by omega)
          split
          · exact ht
          · cases h8 : decide ((elem.size : Int) > 100) with
            | true => exact ht
            | false => exact hj
theorem pairWins_pure (l0 : List Pr) (a b : ByteArray) (c d : Int) (key elem : ByteArray) (h0 : okL l0) (h1 : okPair ⟨a, b, ⟨c, d⟩⟩) (_y2 : key.size ≤ maxLen) (_y3 : elem.size ≤ maxLen) : ∃ k, law08_PairWins.f k l0 a b c d key elem = some true := ⟨900 + 1, pairWins_pure' 900 (by omega) (by omega) l0 a b c d key elem h0 h1⟩
end Go.Proofs.Ytannmdngejdjkaa.L
