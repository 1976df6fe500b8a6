/- The next number, how long is waited, whom a number picks: plain. -/
import Derived.Test.YtameeejfkgoheaaPXs
import Derived.Test.YtameeejfkgoheaaPx1
import Derived.Laws.BitsAllLaws
namespace Go.Proofs.Ytameeejfkgoheaa.P
open Go.RowKit Go.Proofs.Ytameeejfkgoheaa Go.Proofs.YtameeejfkgoheaaW.PrintWords Go.Proofs.YtameeejfkgoheaaW.PrintLast
set_option linter.unusedVariables false
theorem xor32 (a b : Nat) (ha : a < 4294967296) (hb : b < 4294967296) : Go.bits .xor .u32 (a : Int) (b : Int) = ((a ^^^ b : Nat) : Int) := u32_xor_nat a b ha hb
theorem L_cast (n m y : Nat) (hm : m = 2 ^ n) (h : y < 4294967296) : Go.bits .xor .u32 (y : Int) (((y : Int) * (m : Int)) % 4294967296) = ((Xs.L n y : Nat) : Int) := by
  have e : ((y : Int) * (m : Int)) % 4294967296 = ((y * m % 4294967296 : Nat) : Int) := by
    rw [Int.natCast_emod, Int.natCast_mul]; rfl
  rw [e, xor32 _ _ h (Nat.mod_lt _ (by decide))]
  unfold Xs.L Xs.W
  rw [Nat.shiftLeft_eq, hm]
theorem R_cast (n m y : Nat) (hm : m = 2 ^ n) (h : y < 4294967296) : Go.bits .xor .u32 (y : Int) ((y : Int) / (m : Int)) = ((Xs.R n y : Nat) : Int) := by
  have e : (y : Int) / (m : Int) = ((y / m : Nat) : Int) := by rw [Int.natCast_ediv]
  rw [e, xor32 _ _ h (Nat.lt_of_le_of_lt (Nat.div_le_self _ _) h)]
  unfold Xs.R
  rw [Nat.shiftRight_eq_div_pow, hm]
theorem next_nat (x : Nat) (h : x < 4294967296) : peer_Next.f (x : Int) = some ((Xs.nx x : Nat) : Int) := by
  unfold peer_Next.f
  by_cases h0 : x = 0
  · subst h0
    rw [if_pos (show ((0 : Nat) : Int) = 0 from rfl)]
    have : Xs.nx 0 = 270369 := by decide +kernel
    rw [this]
    decide +kernel
  · rw [if_neg (by omega)]
    have e1 : Go.bits .xor .u32 (x : Int) (((x : Int) * 8192) % 4294967296) = ((Xs.L 13 x : Nat) : Int) := L_cast 13 8192 x (by decide) h
    have l1 : Xs.L 13 x < 4294967296 := Xs.L_lt h
    have e2 : Go.bits .xor .u32 ((Xs.L 13 x : Nat) : Int) (((Xs.L 13 x : Nat) : Int) / 131072) = ((Xs.R 17 (Xs.L 13 x) : Nat) : Int) := R_cast 17 131072 (Xs.L 13 x) (by decide) l1
    have l2 : Xs.R 17 (Xs.L 13 x) < 4294967296 := Xs.R_lt l1
    have e3 : Go.bits .xor .u32 ((Xs.R 17 (Xs.L 13 x) : Nat) : Int) ((((Xs.R 17 (Xs.L 13 x) : Nat) : Int) * 32) % 4294967296) = ((Xs.L 5 (Xs.R 17 (Xs.L 13 x)) : Nat) : Int) := L_cast 5 32 (Xs.R 17 (Xs.L 13 x)) (by decide) l2
    rw [e1, e2, e3]
    unfold Xs.nx Xs.st
    rw [if_neg h0]
theorem u32_nat {a : Int} (h : (Lit.int .u32 a).wf = true) : ∃ x : Nat, x < 4294967296 ∧ a = (x : Int) := by
  simp only [Lit.wf, Bool.and_eq_true, decide_eq_true_eq] at h
  have h1 : (0 : Int) ≤ a := by simpa [IntKind.min, IntKind.signed] using h.1
  have h2 : a ≤ 4294967295 := by simpa [IntKind.max, IntKind.signed, IntKind.bits] using h.2
  exact ⟨a.toNat, by omega, by omega⟩
theorem i64_range {a : Int} (h : (Lit.int .i64 a).wf = true) : -9223372036854775808 ≤ a ∧ a ≤ 9223372036854775807 := by
  simp only [Lit.wf, Bool.and_eq_true, decide_eq_true_eq] at h
  exact ⟨by have := h.1; simpa [IntKind.min, IntKind.signed, IntKind.bits] using this, by have := h.2; simpa [IntKind.max, IntKind.signed, IntKind.bits] using this⟩
end Go.Proofs.Ytameeejfkgoheaa.P
