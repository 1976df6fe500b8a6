/- CtrBase, plain: it answers true. -/
import Derived.Test.YtannmdngejdjkaaLPCtrFuel
import Derived.Test.YtannmdngejdjkaaLHRow
import Derived.Test.YtannmdngejdjkaaLx29
namespace Go.Proofs.Ytannmdngejdjkaa.L
open Go.RowKit Go.Proofs.YtannmdngejdjkaaW.PrintWords Go.Proofs.YtannmdngejdjkaaW.PrintLast Go.Proofs.YtannmdngejdjkaaW.PrintMore Go.Proofs.YtannmdngejdjkaaW
set_option linter.unusedVariables false
theorem base_true (k : Nat) (l a b c : List Ct) : law06_CtrBase.j0 (k + 1) l a b c true true = some true := by
  simp only [law06_CtrBase.j0]; rfl
theorem base_j (k : Nat) (hk : 900 ≤ k) (l a b c : List Ct) (fl : fewC l = true) (fa : fewC a = true) (fb : fewC b = true) (fc : fewC c = true) (ml : mayC l = true) (ma : mayC a = true) (mb : mayC b = true) (mc : mayC c = true) : law06_CtrBase.j0 (k + 1) l a b c true false = some true := by
  have ll := fewC_len fl
  have la := fewC_len fa
  have lb := fewC_len fb
  have lc := fewC_len fc
  have e : mergeC l (mergeC l a b) c = mergeC l a (mergeC l b c) := same_may (may_merge ml (may_merge ml ma mb) mc) (may_merge ml ma (may_merge ml mb mc)) fun q => by
    rw [get_merge ml (may_merge ml ma mb) mc, get_merge ml ma mb, get_merge ml ma (may_merge ml mb mc), get_merge ml mb mc]
    generalize getC a q = x
    generalize getC b q = y
    generalize getC c q = z
    generalize getC l q = u
    unfold wrap64; omega
  have l1 := mergeC_len l a b
  have l2 := mergeC_len l b c
  have l3 := mergeC_len l a (mergeC l b c)
  simp only [law06_CtrBase.j0]
  rw [if_neg (by simp), mergeC_f (fewC_size fl) (fewC_size fa) (fewC_size fb) (by omega) (by omega) (by omega)]
  simp only [Option.bind_some]
  rw [mergeC_f (fewC_size fl) (mergeC_kS _ _ _) (fewC_size fc) (by omega) (by omega) (by omega)]
  simp only [Option.bind_some]
  rw [mergeC_f (fewC_size fl) (fewC_size fb) (fewC_size fc) (by omega) (by omega) (by omega)]
  simp only [Option.bind_some]
  rw [mergeC_f (fewC_size fl) (fewC_size fa) (mergeC_kS _ _ _) (by omega) (by omega) (by omega)]
  simp only [Option.bind_some]
  rw [sameC_eq k e (by omega) (by omega)]
  rfl
theorem ctrBase_pure' (k : Nat) (hk : 900 ≤ k) (l a b c : List Ct) : law06_CtrBase.f (k + 1) l a b c = some true := by
  have ht := base_true k l a b c
  unfold law06_CtrBase.f
  rw [awakeC_k _ (by omega), fewC_f _ l (by omega), fewC_f _ a (by omega), fewC_f _ b (by omega), fewC_f _ c (by omega)]
  simp only [Option.bind_some, if_true]
  cases h1 : fewC l with
  | false => exact ht
  | true =>
    cases h2 : fewC a with
    | false => exact ht
    | true =>
      cases h3 : fewC b with
      | false => exact ht
      | true =>
        cases h4 : fewC c with
        | false => exact ht
        | true =>
          have ll := fewC_len h1
          have la := fewC_len h2
          have lb := fewC_len h3
          have lc := fewC_len h4
          rw [mayCk _ l (by omega) (by omega) (fewC_size h1), mayCk _ a (by omega) (by omega) (fewC_size h2), mayCk _ b (by omega) (by omega) (fewC_size h3), mayCk _ c (by omega) (by omega) (fewC_size h4)]
          simp only [Option.bind_some, if_true]
          cases h5 : mayC l with
          | false => exact ht
          | true =>
            cases h6 : mayC a with
            | false => exact ht
            | true =>
              cases h7 : mayC b with
              | false => exact ht
              | true =>
                cases h8 : mayC c with
                | false => exact ht
                | true => exact base_j k hk l a b c h1 h2 h3 h4 h5 h6 h7 h8
theorem ctrBase_pure (l0 l1 l2 l3 : List S53) (_h0 : ∀ x ∈ l0, okCtr x) (_h1 : ∀ x ∈ l1, okCtr x) (_h2 : ∀ x ∈ l2, okCtr x) (_h3 : ∀ x ∈ l3, okCtr x) :
    ∃ k, law06_CtrBase.f k l0 l1 l2 l3 = some true := ⟨900 + 1, ctrBase_pure' 900 (Nat.le_refl _) l0 l1 l2 l3⟩
end Go.Proofs.Ytannmdngejdjkaa.L
