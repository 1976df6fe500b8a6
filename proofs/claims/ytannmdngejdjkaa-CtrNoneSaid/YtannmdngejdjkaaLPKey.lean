/- The document's key, with rounds enough. Plain. -/
import Derived.Test.YtannmdngejdjkaaLHCtrMay
import Derived.Test.YtannmdngejdjkaaLx11
namespace Go.Proofs.Ytannmdngejdjkaa.L
open Go.RowKit Go.Proofs.YtannmdngejdjkaaW.PrintWords Go.Proofs.YtannmdngejdjkaaW.PrintLast Go.Proofs.YtannmdngejdjkaaW.PrintMore Go.Proofs.YtannmdngejdjkaaW
set_option linter.unusedVariables false
set_option linter.unusedSimpArgs false
theorem bt_midS {a : ByteArray} {pre suf : List UInt8} {c : UInt8} (e : a.data.toList = pre ++ c :: suf) : bt a ((pre.length : Nat) : Int) = (c.toNat : Int) := by
  have hl : a.size = pre.length + (suf.length + 1) := by
    have h := congrArg List.length e
    simpa using h
  unfold bt
  have h : (((pre.length : Nat) : Int)).toNat < a.size := by simp; omega
  rw [dif_pos h]
  have h2 : pre.length < a.data.toList.length := by rw [e]; simp
  have : a[(((pre.length : Nat) : Int)).toNat]'h = a.data.toList[pre.length]'h2 := rfl
  rw [this]
  simp [e]
theorem wrapK {n : Nat} (h : n < 9223372036854775807) : wrap64 ((n : Int) + 1) = ((n + 1 : Nat) : Int) := by unfold wrap64; omega
theorem keyD_loop (a : ByteArray) (hs : a.size ≤ 9223372036854775807) : ∀ (suf pre : List UInt8) (k : Nat), a.data.toList = pre ++ suf → suf.length < k →
    ref05_Key.l0 k a ((pre.length : Nat) : Int) = some (suf.all keyChar && (decide (1 ≤ a.data.toList.length) && decide (a.data.toList.length ≤ 8)))
  | suf, pre, 0, _, hk => by omega
  | [], pre, k + 1, e, _ => by
    have hl : a.size = pre.length := by
      have h := congrArg List.length e
      simpa using h
    simp only [ref05_Key.l0]
    have hL : a.data.toList.length = a.size := by simp
    rw [if_neg (by omega), hL]
    by_cases h1 : 1 ≤ a.size
    · rw [if_pos (by omega)]
      simp only [List.all_nil, Bool.true_and, h1, decide_true]
      congr 1
      exact decide_eq_decide.2 (by omega)
    · rw [if_neg (by omega)]; simp [h1]
  | c :: suf, pre, k + 1, e, hk => by
    have hl : a.size = pre.length + (suf.length + 1) := by
      have h := congrArg List.length e
      simpa using h
    have ih := keyD_loop a hs suf (pre ++ [c]) k (by rw [appS]; exact e) (by simp at hk; omega)
    rw [lenS] at ih
    simp only [ref05_Key.l0]
    rw [if_pos (by omega), if_pos (by omega), bt_midS e, wrapK (by omega), ih, List.all_cons]
    by_cases h1 : 97 ≤ c.toNat
    · rw [if_pos (by omega)]
      by_cases h2 : c.toNat ≤ 122
      · rw [if_pos (by omega)]
        have : keyChar c = true := by simp [keyChar, h1, h2]
        rw [this]; rfl
      · rw [if_neg (by omega)]
        have : keyChar c = false := by simp [keyChar]; omega
        rw [this]
        rw [if_pos (by omega), if_neg (by omega)]; rfl
    · rw [if_neg (by omega)]
      by_cases h3 : 48 ≤ c.toNat
      · rw [if_pos (by omega)]
        by_cases h4 : c.toNat ≤ 57
        · rw [if_pos (by omega)]
          have : keyChar c = true := by simp [keyChar, h3, h4]
          rw [this]; rfl
        · rw [if_neg (by omega)]
          have : keyChar c = false := by simp [keyChar]; omega
          rw [this]; rfl
      · rw [if_neg (by omega)]
        have : keyChar c = false := by simp [keyChar]; omega
        rw [this]; rfl
theorem keyD_f (a : ByteArray) (k : Nat) (hs : a.size ≤ 9223372036854775807) (hk : a.size < k) : ref05_Key.f k a = some (keyB a.data.toList) := by
  have h := keyD_loop a hs a.data.toList [] k rfl (by simpa using hk)
  simpa [ref05_Key.f, keyB] using h
theorem key_size {a : ByteArray} (h : keyB a.data.toList = true) : a.size ≤ 8 := by
  unfold keyB at h
  simp at h
  exact h.2.2
end Go.Proofs.Ytannmdngejdjkaa.L
