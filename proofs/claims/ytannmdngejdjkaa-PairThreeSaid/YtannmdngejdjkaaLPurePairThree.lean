/- PairThree, plain: it answers true. -/
import Derived.Test.YtannmdngejdjkaaLPPairFuel
import Derived.Test.YtannmdngejdjkaaLHRow
import Derived.Test.YtannmdngejdjkaaLx49
namespace Go.Proofs.Ytannmdngejdjkaa.L
open Go.RowKit Go.Proofs.YtannmdngejdjkaaW.PrintWords Go.Proofs.YtannmdngejdjkaaW.PrintLast Go.Proofs.YtannmdngejdjkaaW.PrintMore Go.Proofs.YtannmdngejdjkaaW
set_option linter.unusedVariables false
theorem three_true (k : Nat) (l a b c : List Pr) : law08_PairThree.j0 (k + 1) l a b c true true = some true := by
  simp only [law08_PairThree.j0]; rfl
theorem three_eq {l a b c : List Pr} (ol : okL l) (oa : okL a) (ob : okL b) (oc : okL c) (ll : l.length ≤ 30) (la : a.length ≤ 30) (lb : b.length ≤ 30) (lc : c.length ≤ 30) (ml : mayP l = true) (ma : mayP a = true) (mb : mayP b = true) (mc : mayP c = true) :
    mergeP l (mergeP l a b) c = mergeP l a (mergeP l b c) := by
  have l1 := mergeP_len l a b
  have l2 := mergeP_len l b c
  refine up_ext (mergeP_up _ _ _) (mergeP_up _ _ _) fun x => ?_
  rw [mergeP_mem ol (mergeP_ok oa ob) oc (by omega) (by omega) (by omega) ml (mergeP_may oa ob ma mb) mc, mergeP_mem ol oa ob (by omega) (by omega) (by omega) ml ma mb,
    mergeP_mem ol oa (mergeP_ok ob oc) (by omega) (by omega) (by omega) ml ma (mergeP_may ob oc mb mc), mergeP_mem ol ob oc (by omega) (by omega) (by omega) ml mb mc]
  by_cases h1 : x ∈ l <;> by_cases h2 : x ∈ a <;> by_cases h3 : x ∈ b <;> by_cases h4 : x ∈ c <;> simp [h1, h2, h3, h4]
theorem three_j (k : Nat) (hk : 900 ≤ k) (hk2 : k < 1000) (l a b c : List Pr) (ol : okL l) (oa : okL a) (ob : okL b) (oc : okL c) (fl : fewP l = true) (fa : fewP a = true) (fb : fewP b = true) (fc : fewP c = true) (ml : mayP l = true) (ma : mayP a = true) (mb : mayP b = true) (mc : mayP c = true) : law08_PairThree.j0 (k + 1) l a b c true false = some true := by
  have ll := fewP_len fl
  have la := fewP_len fa
  have lb := fewP_len fb
  have lc := fewP_len fc
  have l1 := mergeP_len l a b
  have l2 := mergeP_len l b c
  have l3 := mergeP_len l (mergeP l a b) c
  simp only [law08_PairThree.j0]
  rw [if_neg (by simp), mergeP_f ol oa ob (by omega) (by omega) (by omega)]
  simp only [Option.bind_some]
  rw [mergeP_f ol (mergeP_ok oa ob) oc (by omega) (by omega) (by omega)]
  simp only [Option.bind_some]
  rw [mergeP_f ol ob oc (by omega) (by omega) (by omega)]
  simp only [Option.bind_some]
  rw [mergeP_f ol oa (mergeP_ok ob oc) (by omega) (by omega) (by omega)]
  simp only [Option.bind_some]
  rw [sameP_f k (three_eq ol oa ob oc ll la lb lc ml ma mb mc) (by omega) (by omega)]
  rfl
theorem pairThree_pure' (k : Nat) (hk : 900 ≤ k) (hk2 : k < 1000) (l a b c : List Pr) (ol : okL l) (oa : okL a) (ob : okL b) (oc : okL c) : law08_PairThree.f (k + 1) l a b c = some true := by
  have ht := three_true k l a b c
  unfold law08_PairThree.f
  rw [awakeP_k _ (by omega), fewP_f _ l (by omega), fewP_f _ a (by omega), fewP_f _ b (by omega), fewP_f _ c (by omega)]
  simp only [Option.bind_some, if_true]
  cases h1 : fewP l with
  | false => exact ht
  | true =>
    cases h2 : fewP a with
    | false => exact ht
    | true =>
      cases h3 : fewP b with
      | false => exact ht
      | true =>
        cases h4 : fewP c with
        | false => exact ht
        | true =>
          have ll := fewP_len h1
          have la := fewP_len h2
          have lb := fewP_len h3
          have lc := fewP_len h4
          rw [mayPk _ l (by omega) (by omega) ol, mayPk _ a (by omega) (by omega) oa, mayPk _ b (by omega) (by omega) ob, mayPk _ c (by omega) (by omega) oc]
          simp only [Option.bind_some, if_true]
          cases h5 : mayP l with
          | false => exact ht
          | true =>
            cases h6 : mayP a with
            | false => exact ht
            | true =>
              cases h7 : mayP b with
              | false => exact ht
              | true =>
                cases h8 : mayP c with
                | false => exact ht
                | true => exact three_j k hk hk2 l a b c ol oa ob oc h1 h2 h3 h4 h5 h6 h7 h8
theorem pairThree_pure (l0 l1 l2 l3 : List Pr) (h0 : okL l0) (h1 : okL l1) (h2 : okL l2) (h3 : okL l3) : ∃ k, law08_PairThree.f k l0 l1 l2 l3 = some true := ⟨900 + 1, pairThree_pure' 900 (by omega) (by omega) l0 l1 l2 l3 h0 h1 h2 h3⟩
end Go.Proofs.Ytannmdngejdjkaa.L
