/- CtrMerges, plain: it answers true. -/
import Derived.Test.YtannmdngejdjkaaLPCtrFuel
import Derived.Test.YtannmdngejdjkaaLHRow
import Derived.Test.YtannmdngejdjkaaLx28
namespace Go.Proofs.Ytannmdngejdjkaa.L
open Go.RowKit Go.Proofs.YtannmdngejdjkaaW.PrintWords Go.Proofs.YtannmdngejdjkaaW.PrintLast Go.Proofs.YtannmdngejdjkaaW.PrintMore Go.Proofs.YtannmdngejdjkaaW
set_option linter.unusedVariables false
theorem mergesC_true (k : Nat) (l a b : List Ct) (key : ByteArray) (n m : Int) : law06_CtrMerges.j0 (k + 1) l a b key n m true true = some true := by
  simp only [law06_CtrMerges.j0]; rfl
theorem mergesC_j (k : Nat) (hk : 900 ≤ k) (l a b : List Ct) (key : ByteArray) (n m : Int) (big : Bool) (fl : fewC l = true) (fa : fewC a = true) (fb : fewC b = true) (ml : mayC l = true) (ma : mayC a = true) (mb : mayC b = true) (hkey : keyB key.data.toList = true) (il : inL l) (ia : inL a) (ib : inL b) : law06_CtrMerges.j0 (k + 1) l a b key n m true big = some true := by
  cases big with
  | true => exact mergesC_true k l a b key n m
  | false =>
    have ll := fewC_len fl
    have la := fewC_len fa
    have lb := fewC_len fb
    have ks := key_size hkey
    have e1 : mergeC l a b = mergeC l b a := same_may (may_merge ml ma mb) (may_merge ml mb ma) fun q => by
      rw [get_merge ml ma mb, get_merge ml mb ma]
      generalize getC a q = x
      generalize getC b q = y
      generalize getC l q = u
      unfold wrap64; omega
    have e2 : mergeC l l b = b := same_may (may_merge ml ml mb) mb fun q => by
      rw [get_merge ml ml mb]
      have h := getC_in ib q
      unfold inR at h
      generalize getC b q = y at h
      generalize getC l q = u
      unfold wrap64; omega
    have e3 : mergeC a a a = a := same_may (may_merge ma ma ma) ma fun q => by
      rw [get_merge ma ma ma]
      have h := getC_in ia q
      unfold inR at h
      generalize getC a q = y at h
      unfold wrap64; omega
    have mn := may_inc (n := n) ml hkey
    have mm := may_inc (n := m) ml hkey
    have e4 : mergeC l (incO l key n) (incO l key m) = incO (incO l key n) key m := same_may (may_merge ml mn mm) (may_inc mn hkey) fun q => by
      rw [get_merge ml mn mm, get_inc mn hkey, get_inc ml hkey, get_inc ml hkey, get_inc ml hkey, if_pos rfl]
      by_cases hq : q = key
      · rw [if_pos hq, if_pos hq, if_pos hq, hq]
        generalize getC l key = x
        unfold wrap64; omega
      · rw [if_neg hq, if_neg hq, if_neg hq]
        generalize getC l q = x
        unfold wrap64; omega
    have l1 := mergeC_len l a b
    have l2 := mergeC_len l b a
    have ln := incO_len l key n
    have lm := incO_len l key m
    have lnm := incO_len (incO l key n) key m
    simp only [law06_CtrMerges.j0]
    rw [if_neg (by simp), mergeC_f (fewC_size fl) (fewC_size fa) (fewC_size fb) (by omega) (by omega) (by omega), mergeC_f (fewC_size fl) (fewC_size fb) (fewC_size fa) (by omega) (by omega) (by omega)]
    simp only [Option.bind_some]
    rw [sameC_eq k e1 (by omega) (by omega), mergeC_f (fewC_size fl) (fewC_size fl) (fewC_size fb) (by omega) (by omega) (by omega)]
    simp only [Option.bind_some]
    rw [sameC_eq k e2 (by omega) (by omega), mergeC_f (fewC_size fa) (fewC_size fa) (fewC_size fa) (by omega) (by omega) (by omega)]
    simp only [Option.bind_some]
    rw [sameC_eq k e3 (by omega) (by omega), inc_f n (fewC_size fl) (by omega) (by omega), inc_f m (fewC_size fl) (by omega) (by omega)]
    simp only [Option.bind_some]
    rw [mergeC_f (fewC_size fl) (incO_kS _ _ _) (incO_kS _ _ _) (by omega) (by omega) (by omega)]
    simp only [Option.bind_some]
    rw [inc_f m (incO_kS _ _ _) (by omega) (by omega)]
    simp only [Option.bind_some]
    rw [sameC_eq k e4 (by omega) (by omega), mayCk k _ (by omega) (by omega) (mergeC_kS _ _ _), may_merge ml ma mb]
    rfl
theorem ctrMerges_pure' (k : Nat) (hk : 900 ≤ k) (l a b : List Ct) (key : ByteArray) (n m : Int) (il : inL l) (ia : inL a) (ib : inL b) (hs : key.size ≤ 9223372036854775807) (hkk : key.size < k) : law06_CtrMerges.f (k + 1) l a b key n m = some true := by
  have ht := mergesC_true k l a b key n m
  unfold law06_CtrMerges.f
  rw [awakeC_k _ (by omega), fewC_f _ l (by omega), fewC_f _ a (by omega), fewC_f _ b (by omega), keyD_f key _ hs (by omega)]
  simp only [Option.bind_some, if_true]
  cases h1 : fewC l with
  | false => exact ht
  | true =>
    cases h2 : fewC a with
    | false => exact ht
    | true =>
      cases h3 : fewC b with
      | false => exact ht
      | true =>
        cases h4 : keyB key.data.toList with
        | false => exact ht
        | true =>
          have ll := fewC_len h1
          have la := fewC_len h2
          have lb := fewC_len h3
          rw [mayCk _ l (by omega) (by omega) (fewC_size h1), mayCk _ a (by omega) (by omega) (fewC_size h2), mayCk _ b (by omega) (by omega) (fewC_size h3)]
          simp only [Option.bind_some, if_true]
          cases h5 : mayC l with
          | false => exact ht
          | true =>
            cases h6 : mayC a with
            | false => exact ht
            | true =>
              cases h7 : mayC b with
              | false => exact ht
              | true =>
                simp only [if_true]
                split
                · exact ht
                · split
                  · exact ht
                  · split
                    · exact ht
                    · exact mergesC_j k hk l a b key n m _ h1 h2 h3 h5 h6 h7 h4 il ia ib
theorem ctrMerges_pure (l0 l1 l2 : List S53) (a3 : ByteArray) (a4 a5 : Int) (h0 : ∀ x ∈ l0, okCtr x) (h1 : ∀ x ∈ l1, okCtr x) (h2 : ∀ x ∈ l2, okCtr x) (h3 : a3.size ≤ maxLen) (_h4 : okI a4) (_h5 : okI a5) :
    ∃ k, law06_CtrMerges.f k l0 l1 l2 a3 a4 a5 = some true :=
  ⟨(a3.size + 900) + 1, ctrMerges_pure' (a3.size + 900) (by omega) l0 l1 l2 a3 a4 a5 (fun x hx => (h0 x hx).2) (fun x hx => (h1 x hx).2) (fun x hx => (h2 x hx).2) h3 (by omega)⟩
end Go.Proofs.Ytannmdngejdjkaa.L
