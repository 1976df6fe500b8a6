/- CtrIncs, plain: it answers true. -/
import Derived.Test.YtannmdngejdjkaaLPCtrFuel
import Derived.Test.YtannmdngejdjkaaLHRow
import Derived.Test.YtannmdngejdjkaaLx27
namespace Go.Proofs.Ytannmdngejdjkaa.L
open Go.RowKit Go.Proofs.YtannmdngejdjkaaW.PrintWords Go.Proofs.YtannmdngejdjkaaW.PrintLast Go.Proofs.YtannmdngejdjkaaW.PrintMore Go.Proofs.YtannmdngejdjkaaW
set_option linter.unusedVariables false
theorem incs_true (k : Nat) (l : List Ct) (key other : ByteArray) (n : Int) : law06_CtrIncs.j0 (k + 1) l key other n true true = some true := by
  simp only [law06_CtrIncs.j0]; rfl
theorem incs_j (k : Nat) (hk : 900 ≤ k) (l : List Ct) (key other : ByteArray) (n : Int) (big : Bool) (fl : fewC l = true) (ml : mayC l = true) (hkey : keyB key.data.toList = true) (hi : inL l) : law06_CtrIncs.j0 (k + 1 + 1) l key other n true big = some true := by
  cases big with
  | true => exact incs_true (k + 1) l key other n
  | false =>
    have ll := fewC_len fl
    have ks := key_size hkey
    have mm := may_inc (n := n) ml hkey
    have l1 := incO_len l key n
    have e : incO (incO l key n) key (wrap64 (-n)) = l := same_may (may_inc mm hkey) ml fun q => by
      rw [get_inc mm hkey, get_inc ml hkey, get_inc ml hkey]
      have h1 := getC_in hi key
      have h2 := getC_in hi q
      unfold inR at h1 h2
      by_cases hq : q = key
      · rw [if_pos hq, if_pos rfl, hq]
        generalize getC l key = x at h1
        unfold wrap64; omega
      · rw [if_neg hq, if_neg hq]
        generalize getC l q = x at h2
        unfold wrap64; omega
    have j1 : law06_CtrIncs.j1 (k + 1) l key n (incO l key n) false = some true := by
      simp only [law06_CtrIncs.j1]
      rw [if_neg (by simp), inc_f _ (incO_kS _ _ _) (by omega) (by omega)]
      simp only [Option.bind_some]
      rw [sameC_eq k e (by omega) (by omega)]
      rfl
    simp only [law06_CtrIncs.j0]
    rw [if_neg (by simp), inc_f n (fewC_size fl) (by omega) (by omega)]
    simp only [Option.bind_some]
    rw [mayCk _ _ (by omega) (by omega) (incO_kS _ _ _), mm, getC_f, getC_f]
    simp only [Option.bind_some, if_true]
    rw [get_inc ml hkey, if_pos rfl, if_pos rfl]
    by_cases ho : other = key
    · rw [if_pos (by rw [ho])]
      exact j1
    · rw [if_neg (fun e => ho (toList_inj e)), getC_f, getC_f]
      simp only [Option.bind_some]
      rw [get_inc ml hkey, if_neg ho, wrap_id (getC_in hi other)]
      simp only [bne_self_eq_false]
      exact j1
theorem ctrIncs_pure' (k : Nat) (hk : 900 ≤ k) (l : List Ct) (key other : ByteArray) (n : Int) (hi : inL l) (hs : key.size ≤ 9223372036854775807) (hkk : key.size < k) : law06_CtrIncs.f (k + 1 + 1) l key other n = some true := by
  have ht := incs_true (k + 1) l key other n
  unfold law06_CtrIncs.f
  rw [awakeC_k _ (by omega), fewC_f _ l (by omega), keyD_f key _ hs (by omega)]
  simp only [Option.bind_some, if_true]
  cases h1 : fewC l with
  | false => exact ht
  | true =>
    cases h2 : keyB key.data.toList with
    | false => exact ht
    | true =>
      have ll := fewC_len h1
      rw [mayCk _ l (by omega) (by omega) (fewC_size h1)]
      simp only [Option.bind_some, if_true]
      cases h5 : mayC l with
      | false => exact ht
      | true =>
        simp only [if_true]
        split
        · exact ht
        · split
          · exact ht
          · exact incs_j k hk l key other n _ h1 h5 h2 hi
theorem ctrIncs_pure (l0 : List S53) (a1 a2 : ByteArray) (a3 : Int) (h0 : ∀ x ∈ l0, okCtr x) (h1 : a1.size ≤ maxLen) (_h2 : a2.size ≤ maxLen) (_h3 : okI a3) :
    ∃ k, law06_CtrIncs.f k l0 a1 a2 a3 = some true :=
  ⟨(a1.size + 900) + 1 + 1, ctrIncs_pure' (a1.size + 900) (by omega) l0 a1 a2 a3 (fun x hx => (h0 x hx).2) h1 (by omega)⟩
end Go.Proofs.Ytannmdngejdjkaa.L
