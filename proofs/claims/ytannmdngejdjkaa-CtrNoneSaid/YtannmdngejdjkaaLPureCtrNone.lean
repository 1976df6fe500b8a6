/- CtrNone, plain: it answers true. -/
import Derived.Test.YtannmdngejdjkaaLPCtrFuel
import Derived.Test.YtannmdngejdjkaaLHRow
import Derived.Test.YtannmdngejdjkaaLx30
namespace Go.Proofs.Ytannmdngejdjkaa.L
open Go.RowKit Go.Proofs.YtannmdngejdjkaaW.PrintWords Go.Proofs.YtannmdngejdjkaaW.PrintLast Go.Proofs.YtannmdngejdjkaaW.PrintMore Go.Proofs.YtannmdngejdjkaaW
set_option linter.unusedVariables false
theorem noneC_true (k : Nat) (l : List Ct) (key : ByteArray) : law06_CtrNone.j0 (k + 1) l key true true = some true := by
  simp only [law06_CtrNone.j0]; rfl
theorem kS_nil : kS [] := fun x hx => by cases hx
theorem may_nilC : mayC [] = true := rfl
theorem same_nil (k : Nat) (l : List Ct) (hk : 0 < k) : ref06_Same.f k [] l = some (decide (l.length = 0)) := by
  unfold ref06_Same.f
  cases l with
  | nil =>
    obtain ⟨j, rfl⟩ : ∃ j, k = j + 1 := ⟨k - 1, by omega⟩
    simp [ref06_Same.l0]
  | cons x l =>
    rw [if_neg (by simp; omega)]
    simp
theorem noneC_j (k : Nat) (hk : 900 ≤ k) (l : List Ct) (key : ByteArray) (hs : key.size ≤ 100) (fl : fewC l = true) (il : inL l) : law06_CtrNone.j0 (k + 1) l key true false = some true := by
  have ll := fewC_len fl
  simp only [law06_CtrNone.j0]
  rw [if_neg (by simp), mayCk k l (by omega) (by omega) (fewC_size fl)]
  simp only [Option.bind_some]
  cases ml : mayC l with
  | false =>
    have e1 : incO l key 1 = [] := by unfold incO; rw [ml]; rfl
    have e2 : mergeC [] l [] = [] := by unfold mergeC; rw [ml]; rfl
    have e3 : mergeC l [] [] = [] := by unfold mergeC; rw [ml]; rfl
    simp only [Bool.false_eq_true, if_false]
    rw [inc_f 1 (fewC_size fl) (by omega) (by omega), e1]
    simp only [Option.bind_some, List.length_nil]
    rw [if_pos (show ((0 : Nat) : Int) = 0 from rfl), mergeC_f kS_nil (fewC_size fl) kS_nil (by simp) (by omega) (by simp), e2]
    simp only [Option.bind_some, List.length_nil]
    rw [if_pos (show ((0 : Nat) : Int) = 0 from rfl), mergeC_f (fewC_size fl) kS_nil kS_nil (by omega) (by simp) (by simp), e3]
    rfl
  | true =>
    have e1 : mergeC [] l [] = l := same_may (may_merge may_nilC ml may_nilC) ml fun q => by
      rw [get_merge may_nilC ml may_nilC]
      have h := getC_in il q
      unfold inR at h
      show wrap64 (getC l q + 0 - 0) = _
      generalize getC l q = y at h
      unfold wrap64; omega
    have e2 : mergeC [] [] l = l := same_may (may_merge may_nilC may_nilC ml) ml fun q => by
      rw [get_merge may_nilC may_nilC ml]
      have h := getC_in il q
      unfold inR at h
      show wrap64 (0 + getC l q - 0) = _
      generalize getC l q = y at h
      unfold wrap64; omega
    simp only [if_true]
    rw [mergeC_f kS_nil (fewC_size fl) kS_nil (by simp) (by omega) (by simp)]
    simp only [Option.bind_some]
    rw [sameC_eq k e1 (by omega) (by omega), mergeC_f kS_nil kS_nil (fewC_size fl) (by simp) (by simp) (by omega)]
    simp only [Option.bind_some]
    rw [sameC_eq k e2 (by omega) (by omega), inc_f 0 (fewC_size fl) (by omega) (by omega)]
    simp only [Option.bind_some, if_true]
    cases hkey : keyB key.data.toList with
    | true =>
      have e3 : incO l key 0 = l := same_may (may_inc ml hkey) ml fun q => by
        rw [get_inc ml hkey]
        have h1 := getC_in il key
        have h2 := getC_in il q
        by_cases hq : q = key
        · rw [if_pos hq, hq, Int.add_zero, wrap_id h1]
        · rw [if_neg hq, wrap_id h2]
      rw [sameC_eq k e3 (by omega) (by omega)]
      rfl
    | false =>
      have e3 : incO l key 0 = [] := by unfold incO; rw [hkey, Bool.and_false]; rfl
      rw [e3, same_nil k l (by omega)]
      simp only [Option.bind_some]
      split <;> rfl
theorem ctrNone_pure' (k : Nat) (hk : 900 ≤ k) (l : List Ct) (key : ByteArray) (il : inL l) : law06_CtrNone.f (k + 1) l key = some true := by
  have ht := noneC_true k l key
  unfold law06_CtrNone.f
  rw [awakeC_k _ (by omega), fewC_f _ l (by omega)]
  simp only [Option.bind_some, if_true]
  cases h1 : fewC l with
  | false => exact ht
  | true =>
    simp only [if_true]
    by_cases hs : key.size ≤ 100
    · rw [show decide ((key.size : Int) > 100) = false from decide_eq_false (by omega)]
      exact noneC_j k hk l key hs h1 il
    · rw [show decide ((key.size : Int) > 100) = true from decide_eq_true (by omega)]
      exact ht
theorem ctrNone_pure (l0 : List S53) (a1 : ByteArray) (h0 : ∀ x ∈ l0, okCtr x) (_h1 : a1.size ≤ maxLen) :
    ∃ k, law06_CtrNone.f k l0 a1 = some true := ⟨900 + 1, ctrNone_pure' 900 (Nat.le_refl _) l0 a1 (fun x hx => (h0 x hx).2)⟩
end Go.Proofs.Ytannmdngejdjkaa.L
