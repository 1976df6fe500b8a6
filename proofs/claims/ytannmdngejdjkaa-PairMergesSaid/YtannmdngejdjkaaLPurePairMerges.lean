/- PairMerges, plain: it answers true. -/
import Derived.Test.YtannmdngejdjkaaLPPairFuel
import Derived.Test.YtannmdngejdjkaaLHRow
import Derived.Test.YtannmdngejdjkaaLx46
namespace Go.Proofs.Ytannmdngejdjkaa.L
open Go.RowKit Go.Proofs.YtannmdngejdjkaaW.PrintWords Go.Proofs.YtannmdngejdjkaaW.PrintLast Go.Proofs.YtannmdngejdjkaaW.PrintMore Go.Proofs.YtannmdngejdjkaaW
set_option linter.unusedVariables false
theorem merges_true (k : Nat) (l a b : List Pr) : law08_PairMerges.j0 (k + 1) l a b true true = some true := by
  simp only [law08_PairMerges.j0]; rfl
def eqB (x y : Pr) : Bool := (x.f0.toList == y.f0.toList) && ((x.f1.toList == y.f1.toList) && ((x.f2.f0 == y.f2.f0) && (x.f2.f1 == y.f2.f1)))
theorem eqB_iff {x y : Pr} : eqB x y = true ↔ x = y := by
  unfold eqB
  simp only [Bool.and_eq_true, beq_iff_eq]
  constructor
  · rintro ⟨h1, h2, h3, h4⟩
    obtain ⟨a, b, c, d⟩ := x
    obtain ⟨a', b', c', d'⟩ := y
    simp only at h1 h2 h3 h4
    obtain rfl := toList_inj h1
    obtain rfl := toList_inj h2
    subst h3 h4
    rfl
  · rintro rfl; exact ⟨rfl, rfl, rfl, rfl⟩
/-- the second inner loop -/
theorem merges_l2 (k : Nat) (a b m : List Pr) (i : Nat) (hi : i < m.length) (hb : b.length ≤ 100) : ∀ (d q n : Nat) (is : Bool), n + d = b.length → (is = true ∨ ∃ j, n ≤ j ∧ ∃ h : j < b.length, b[j] = m[i]) → d < q →
    ∃ q', q = q' + d + 1 ∧ law08_PairMerges.l2 q a b m (i : Int) is (n : Int) = law08_PairMerges.l0 q' a b m (wrap64 ((i : Int) + 1))
  | d, 0, n, is, _, _, h => by omega
  | 0, q + 1, n, is, h, hx, _ => by
    refine ⟨q, by omega, ?_⟩
    simp only [law08_PairMerges.l2]
    rw [if_neg (by omega)]
    rcases hx with rfl | ⟨j, h1, h2, _⟩
    · rfl
    · omega
  | d + 1, q + 1, n, is, h, hx, hq => by
    have hnb : (n : Int) < (b.length : Int) := by omega
    simp only [law08_PairMerges.l2]
    rw [if_pos hnb, wrapUp (by omega)]
    cases is with
    | true =>
      obtain ⟨q', e1, e2⟩ := merges_l2 k a b m i hi hb d q (n + 1) true (by omega) (.inl rfl) (by omega)
      exact ⟨q', by omega, by rw [if_pos rfl]; exact e2⟩
    | false =>
      have hx' : eqB b[n] m[i] = true ∨ ∃ j, n + 1 ≤ j ∧ ∃ h : j < b.length, b[j] = m[i] := by
        rcases hx with h0 | ⟨j, h1, h2, h3⟩
        · cases h0
        · rcases Nat.eq_or_lt_of_le h1 with rfl | h1
          · exact .inl (eqB_iff.2 h3)
          · exact .inr ⟨j, h1, h2, h3⟩
      obtain ⟨q', e1, e2⟩ := merges_l2 k a b m i hi hb d q (n + 1) (eqB b[n] m[i]) (by omega) hx' (by omega)
      refine ⟨q', by omega, ?_⟩
      rw [if_neg (by simp), if_pos (by omega), if_pos (by omega), if_pos (by omega), rdP_at b n (by omega), rdP_at m i hi]
      exact e2
theorem merges_l1 (k : Nat) (a b m : List Pr) (i : Nat) (hi : i < m.length) (ha : a.length ≤ 100) (hb : b.length ≤ 100) (hm : m[i] ∈ a ∨ m[i] ∈ b) : ∀ (d q n : Nat) (is : Bool), n + d = a.length → (is = true ∨ (∃ j, n ≤ j ∧ ∃ h : j < a.length, a[j] = m[i]) ∨ m[i] ∈ b) → d + b.length + 1 < q →
    ∃ q', q = q' + d + b.length + 2 ∧ law08_PairMerges.l1 q a b m (i : Int) is (n : Int) = law08_PairMerges.l0 q' a b m (wrap64 ((i : Int) + 1))
  | d, 0, n, is, _, _, h => by omega
  | 0, q + 1, n, is, h, hx, hq => by
    have hx' : is = true ∨ ∃ j, 0 ≤ j ∧ ∃ h : j < b.length, b[j] = m[i] := by
      rcases hx with h0 | ⟨j, h1, h2, _⟩ | h0
      · exact .inl h0
      · omega
      · obtain ⟨j, hj, e⟩ := List.mem_iff_getElem.1 h0
        exact .inr ⟨j, Nat.zero_le _, hj, e⟩
    obtain ⟨q', e1, e2⟩ := merges_l2 k a b m i hi hb b.length q 0 is (by omega) hx' (by omega)
    refine ⟨q', by omega, ?_⟩
    simp only [law08_PairMerges.l1]
    rw [if_neg (by omega)]
    exact e2
  | d + 1, q + 1, n, is, h, hx, hq => by
    have hnb : (n : Int) < (a.length : Int) := by omega
    simp only [law08_PairMerges.l1]
    rw [if_pos hnb, wrapUp (by omega)]
    cases is with
    | true =>
      obtain ⟨q', e1, e2⟩ := merges_l1 k a b m i hi ha hb hm d q (n + 1) true (by omega) (.inl rfl) (by omega)
      exact ⟨q', by omega, by rw [if_pos rfl]; exact e2⟩
    | false =>
      have hx' : eqB a[n] m[i] = true ∨ (∃ j, n + 1 ≤ j ∧ ∃ h : j < a.length, a[j] = m[i]) ∨ m[i] ∈ b := by
        rcases hx with h0 | ⟨j, h1, h2, h3⟩ | h0
        · cases h0
        · rcases Nat.eq_or_lt_of_le h1 with rfl | h1
          · exact .inl (eqB_iff.2 h3)
          · exact .inr (.inl ⟨j, h1, h2, h3⟩)
        · exact .inr (.inr h0)
      obtain ⟨q', e1, e2⟩ := merges_l1 k a b m i hi ha hb hm d q (n + 1) (eqB a[n] m[i]) (by omega) hx' (by omega)
      refine ⟨q', by omega, ?_⟩
      rw [if_neg (by simp), if_pos (by omega), if_pos (by omega), if_pos (by omega), rdP_at a n (by omega), rdP_at m i hi]
      exact e2
theorem merges_l0 (a b m : List Pr) (ha : a.length ≤ 30) (hb : b.length ≤ 30) (hml : m.length ≤ 60) (hm : ∀ x ∈ m, x ∈ a ∨ x ∈ b) : ∀ (d i q : Nat), i + d = m.length → d * 70 < q → law08_PairMerges.l0 q a b m (i : Int) = some true
  | d, i, 0, _, h => by omega
  | 0, i, q + 1, h, _ => by
    simp only [law08_PairMerges.l0]
    rw [if_neg (by omega)]
  | d + 1, i, q + 1, h, hq => by
    have hi : i < m.length := by omega
    have hx := hm m[i] (List.getElem_mem hi)
    have hx' : false = true ∨ (∃ j, 0 ≤ j ∧ ∃ h : j < a.length, a[j] = m[i]) ∨ m[i] ∈ b := by
      rcases hx with h0 | h0
      · obtain ⟨j, hj, e⟩ := List.mem_iff_getElem.1 h0
        exact .inr (.inl ⟨j, Nat.zero_le _, hj, e⟩)
      · exact .inr (.inr h0)
    obtain ⟨q', e1, e2⟩ := merges_l1 0 a b m i hi (by omega) (by omega) hx a.length q 0 false (by omega) hx' (by omega)
    simp only [law08_PairMerges.l0]
    rw [if_pos (by omega)]
    refine e2.trans ?_
    rw [wrapUp (by omega)]
    exact merges_l0 a b m ha hb hml hm d (i + 1) q' (by omega) (by omega)
theorem merges_j (k : Nat) (hk : 9000 ≤ k) (hk2 : k < 10000) (l a b : List Pr) (ol : okL l) (oa : okL a) (ob : okL b) (fl : fewP l = true) (fa : fewP a = true) (fb : fewP b = true) (ml : mayP l = true) (ma : mayP a = true) (mb : mayP b = true) : law08_PairMerges.j0 (k + 1) l a b true false = some true := by
  have ll := fewP_len fl
  have la := fewP_len fa
  have lb := fewP_len fb
  have l1 := mergeP_len l a b
  have l2 := mergeP_len l l b
  have l3 := mergeP_len l a a
  have e1 : mergeP l a b = mergeP l b a := up_ext (mergeP_up _ _ _) (mergeP_up _ _ _) fun x => by
    rw [mergeP_mem ol oa ob (by omega) (by omega) (by omega) ml ma mb, mergeP_mem ol ob oa (by omega) (by omega) (by omega) ml mb ma]
    by_cases h1 : x ∈ l <;> by_cases h2 : x ∈ a <;> by_cases h3 : x ∈ b <;> simp [h1, h2, h3]
  have e2 : mergeP l l b = b := up_ext (mergeP_up _ _ _) (may_up mb) fun x => by
    rw [mergeP_mem ol ol ob (by omega) (by omega) (by omega) ml ml mb]
    by_cases h1 : x ∈ l <;> by_cases h3 : x ∈ b <;> simp [h1, h3]
  have e3 : mergeP l a a = a := up_ext (mergeP_up _ _ _) (may_up ma) fun x => by
    rw [mergeP_mem ol oa oa (by omega) (by omega) (by omega) ml ma ma]
    by_cases h1 : x ∈ l <;> by_cases h3 : x ∈ a <;> simp [h1, h3]
  have hm := mergeP_may (base := l) oa ob ma mb
  obtain ⟨k', rfl⟩ : ∃ k', k = k' + 1 := ⟨k - 1, by omega⟩
  simp only [law08_PairMerges.j0]
  rw [if_neg (by simp), mergeP_f ol oa ob (by omega) (by omega) (by omega)]
  simp only [Option.bind_some]
  rw [mergeP_f ol ob oa (by omega) (by omega) (by omega)]
  simp only [Option.bind_some]
  rw [sameP_f _ e1 (by omega) (by omega)]
  simp only [Option.bind_some]
  rw [mergeP_f ol ol ob (by omega) (by omega) (by omega)]
  simp only [Option.bind_some]
  rw [sameP_f _ e2 (by omega) (by omega)]
  simp only [Option.bind_some]
  rw [mergeP_f ol oa oa (by omega) (by omega) (by omega)]
  simp only [Option.bind_some]
  rw [sameP_f _ e3 (by omega) (by omega)]
  simp only [Option.bind_some, if_true]
  rw [mayPk _ _ (by omega) (by omega) (mergeP_ok oa ob), hm]
  simp only [Option.bind_some, law08_PairMerges.j1]
  rw [if_neg (by simp)]
  exact merges_l0 a b (mergeP l a b) la lb (by omega) (fun x hx => mergeP_sub oa ob hx) (mergeP l a b).length 0 k' (by omega) (by omega)
theorem pairMerges_pure' (k : Nat) (hk : 9000 ≤ k) (hk2 : k < 10000) (l a b : List Pr) (ol : okL l) (oa : okL a) (ob : okL b) : law08_PairMerges.f (k + 1) l a b = some true := by
  have ht := merges_true k l a b
  unfold law08_PairMerges.f
  rw [awakeP_k _ (by omega), fewP_f _ l (by omega), fewP_f _ a (by omega), fewP_f _ b (by omega)]
  simp only [Option.bind_some, if_true]
  cases h1 : fewP l with
  | false => exact ht
  | true =>
    cases h2 : fewP a with
    | false => exact ht
    | true =>
      cases h3 : fewP b with
      | false => exact ht
      | true =>
        have ll := fewP_len h1
        have la := fewP_len h2
        have lb := fewP_len h3
        rw [mayPk _ l (by omega) (by omega) ol, mayPk _ a (by omega) (by omega) oa, mayPk _ b (by omega) (by omega) ob]
        simp only [Option.bind_some, if_true]
        cases h5 : mayP l with
        | false => exact ht
        | true =>
          cases h6 : mayP a with
          | false => exact ht
          | true =>
            cases h7 : mayP b with
            | false => exact ht
            | true => exact merges_j k hk hk2 l a b ol oa ob h1 h2 h3 h5 h6 h7
theorem pairMerges_pure (l0 l1 l2 : List Pr) (h0 : okL l0) (h1 : okL l1) (h2 : okL l2) : ∃ k, law08_PairMerges.f k l0 l1 l2 = some true := ⟨9000 + 1, pairMerges_pure' 9000 (by omega) (by omega) l0 l1 l2 h0 h1 h2⟩
end Go.Proofs.Ytannmdngejdjkaa.L
