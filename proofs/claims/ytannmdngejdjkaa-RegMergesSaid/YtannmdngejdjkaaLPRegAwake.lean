/- The chapter's example holds; what is newer, by any number of rounds. -/
import Derived.Test.YtannmdngejdjkaaLPRegMath
import Derived.Test.YtannmdngejdjkaaLx9
namespace Go.Proofs.Ytannmdngejdjkaa.L
open Go.RowKit Go.Proofs.YtannmdngejdjkaaW.PrintWords Go.Proofs.YtannmdngejdjkaaW.PrintLast Go.Proofs.YtannmdngejdjkaaW.PrintMore Go.Proofs.YtannmdngejdjkaaW
theorem mono_up {α : Type} {f : Nat → Option α} (hm : ∀ k, LeO (f k) (f (k + 1))) {n : Nat} {r : α} (h : f n = some r) : ∀ k, n ≤ k → f k = some r := by
  intro k hk
  obtain ⟨d, rfl⟩ := Nat.exists_eq_add_of_le hk
  clear hk
  induction d with
  | zero => exact h
  | succ d ih => exact hm _ _ ih
theorem awake_12 : law07_awake.f 12 = some true := by decide +kernel
theorem awake_k (k : Nat) (hk : 12 ≤ k) : law07_awake.f k = some true := mono_up law07_awake.mono awake_12 k hk
theorem newer_k (k : Nat) (hk : 5 ≤ k) (a b : S26) : reg_Newer.f k a.f0 a.f1 a.f2 a.f3.f0 a.f3.f1 b.f0 b.f1 b.f2 b.f3.f0 b.f3.f1 = some (newerB a b) := by
  refine mono_up (f := fun k => reg_Newer.f k a.f0 a.f1 a.f2 a.f3.f0 a.f3.f1 b.f0 b.f1 b.f2 b.f3.f0 b.f3.f1) (fun k => ?_) (newer_f a b) k hk
  apply reg_Newer.mono
theorem toList_beq {a b : ByteArray} : (a.toList == b.toList) = decide (a = b) := by
  rw [Bool.eq_iff_iff]
  simp only [beq_iff_eq, decide_eq_true_eq]
  exact ⟨toList_inj, fun h => by rw [h]⟩
end Go.Proofs.Ytannmdngejdjkaa.L
