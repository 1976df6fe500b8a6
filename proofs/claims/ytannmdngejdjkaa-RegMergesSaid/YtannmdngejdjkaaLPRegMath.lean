/- Registers: plain facts of the newer one, of putting in and of merging. No program in sight but the lists' own type. -/
import Derived.Test.YtannmdngejdjkaaLHRegPlain
import Derived.Test.YtannmdngejdjkaaLHRegGet
namespace Go.Proofs.Ytannmdngejdjkaa.L
open Go.RowKit Go.Proofs.YtannmdngejdjkaaW.PrintWords Go.Proofs.YtannmdngejdjkaaW.PrintLast Go.Proofs.YtannmdngejdjkaaW.PrintMore Go.Proofs.YtannmdngejdjkaaW
set_option linter.unusedVariables false
set_option linter.unusedSimpArgs false
/-! ### newer -/
theorem newer_irrefl (a : S26) : newerB a a = false := by
  unfold newerB; simp [less_irrefl]
theorem newer_asymm {a b : S26} (h : newerB a b = true) : newerB b a = false := by
  unfold newerB at h ⊢
  by_cases h1 : a.f2 = b.f2
  · rw [if_pos h1] at h
    rw [if_pos h1.symm]
    by_cases h2 : a.f3.f0 = b.f3.f0
    · rw [if_pos h2] at h
      rw [if_pos h2.symm]
      by_cases h3 : a.f3.f1 = b.f3.f1
      · rw [if_pos h3] at h
        rw [if_pos h3.symm]
        exact less_asymm h
      · rw [if_neg h3] at h
        rw [if_neg (fun e => h3 e.symm)]
        simp at h ⊢; omega
    · rw [if_neg h2] at h
      rw [if_neg (fun e => h2 e.symm)]
      simp at h ⊢; omega
  · rw [if_neg h1] at h
    rw [if_neg (fun e => h1 e.symm)]
    simp at h ⊢; omega
theorem newer_trans {a b c : S26} (h : newerB a b = true) (g : newerB b c = true) : newerB a c = true := by
  unfold newerB at h g ⊢
  by_cases h1 : a.f2 = b.f2 <;> by_cases g1 : b.f2 = c.f2
  · rw [if_pos h1] at h; rw [if_pos g1] at g; rw [if_pos (h1.trans g1)]
    by_cases h2 : a.f3.f0 = b.f3.f0 <;> by_cases g2 : b.f3.f0 = c.f3.f0
    · rw [if_pos h2] at h; rw [if_pos g2] at g; rw [if_pos (h2.trans g2)]
      by_cases h3 : a.f3.f1 = b.f3.f1 <;> by_cases g3 : b.f3.f1 = c.f3.f1
      · rw [if_pos h3] at h; rw [if_pos g3] at g; rw [if_pos (h3.trans g3)]
        exact less_trans g h
      · rw [if_neg g3] at g; rw [if_neg (by omega)]; simp at g ⊢; omega
      · rw [if_neg h3] at h; rw [if_neg (by omega)]; simp at h ⊢; omega
      · rw [if_neg h3] at h; rw [if_neg g3] at g; simp at h g; rw [if_neg (by omega)]; simp; omega
    · rw [if_neg g2] at g; rw [if_neg (by omega)]; simp at g ⊢; omega
    · rw [if_neg h2] at h; rw [if_neg (by omega)]; simp at h ⊢; omega
    · rw [if_neg h2] at h; rw [if_neg g2] at g; simp at h g; rw [if_neg (by omega)]; simp; omega
  · rw [if_neg g1] at g; rw [if_neg (by omega)]; simp at g ⊢; omega
  · rw [if_neg h1] at h; rw [if_neg (by omega)]; simp at h ⊢; omega
  · rw [if_neg h1] at h; rw [if_neg g1] at g; simp at h g; rw [if_neg (by omega)]; simp; omega
/-- neither is newer: all but the key is the same -/
theorem newer_same {a b : S26} (h : newerB a b = false) (g : newerB b a = false) : a.f1 = b.f1 ∧ a.f2 = b.f2 ∧ a.f3.f0 = b.f3.f0 ∧ a.f3.f1 = b.f3.f1 := by
  unfold newerB at h g
  by_cases h1 : a.f2 = b.f2
  · rw [if_pos h1] at h; rw [if_pos h1.symm] at g
    by_cases h2 : a.f3.f0 = b.f3.f0
    · rw [if_pos h2] at h; rw [if_pos h2.symm] at g
      by_cases h3 : a.f3.f1 = b.f3.f1
      · rw [if_pos h3] at h; rw [if_pos h3.symm] at g
        exact ⟨toList_inj (less_antisymm g h), h1, h2, h3⟩
      · rw [if_neg h3] at h; rw [if_neg (fun e => h3 e.symm)] at g
        simp at h g; omega
    · rw [if_neg h2] at h; rw [if_neg (fun e => h2 e.symm)] at g
      simp at h g; omega
  · rw [if_neg h1] at h; rw [if_neg (fun e => h1 e.symm)] at g
    simp at h g; omega
theorem reg_ext {a b : S26} (h0 : a.f0 = b.f0) (h1 : a.f1 = b.f1) (h2 : a.f2 = b.f2) (h3 : a.f3.f0 = b.f3.f0) (h4 : a.f3.f1 = b.f3.f1) : a = b := by
  cases a with | mk a0 a1 a2 a3 => cases b with | mk b0 b1 b2 b3 => cases a3; cases b3; simp_all
end Go.Proofs.Ytannmdngejdjkaa.L
