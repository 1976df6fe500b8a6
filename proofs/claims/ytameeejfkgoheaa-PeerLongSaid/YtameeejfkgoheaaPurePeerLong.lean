/- PeerLong: a number goes round through many others ahead of coming back: the plain law. -/
import Derived.Test.YtameeejfkgoheaaPPeerPlain
import Derived.Test.YtameeejfkgoheaaPHAwake
import Derived.Test.YtameeejfkgoheaaPx4
namespace Go.Proofs.Ytameeejfkgoheaa.Pure
open Go.RowKit Go.Proofs.Ytameeejfkgoheaa.P Go.Proofs.YtameeejfkgoheaaW.PrintWords Go.Proofs.YtameeejfkgoheaaW.PrintLast
theorem nx_st (x : Nat) (h : x ≠ 0) : Xs.nx x = Xs.st x := by unfold Xs.nx; rw [if_neg h]
theorem it_ne (x : Nat) (hx : x < Xs.W) (h0 : x ≠ 0) : ∀ i, Xs.it Xs.st i x ≠ 0
  | 0 => h0
  | i + 1 => by
    rw [Xs.it_succ]
    exact Xs.st_ne_zero _ (Xs.it_lt i x hx) (it_ne x hx h0 i)
theorem long_loop (x n : Nat) (hx : x < 4294967296) (h0 : x ≠ 0) (hn0 : 0 < n) (hn : n ≤ 1000) : ∀ (k i : Nat), i ≤ n → n - i < k → law19_PeerLong.l0 k (x : Int) (n : Int) ((Xs.it Xs.st i x : Nat) : Int) (i : Int) = some true := by
  intro k
  induction k with
  | zero => intro i _ h; omega
  | succ k ih =>
    intro i hi hk
    have hne := it_ne x hx h0 i
    have hlt := Xs.it_lt i x hx
    unfold law19_PeerLong.l0
    by_cases h : (i : Int) < (n : Int)
    · rw [if_pos h, next_nat _ hlt, nx_st _ hne, ← Xs.it_succ Xs.st i x]
      simp only [Option.bind_some]
      have := it_ne x hx h0 (i + 1)
      rw [if_neg (by omega)]
      have hw : wrap64 ((i : Int) + 1) = ((i + 1 : Nat) : Int) := by unfold wrap64; omega
      rw [hw]
      exact ih (i + 1) (by omega) (by omega)
    · rw [if_neg h]
      obtain rfl : i = n := by omega
      have := Xs.long x i hx h0 hn0 hn
      have : ¬ (((Xs.it Xs.st i x : Nat) : Int) = (x : Int)) := by omega
      simp [this]
theorem PeerLong : law19_PeerLong.Pure := by
  intro a0 a1 h0 h1
  obtain ⟨x, hx, rfl⟩ := u32_nat h0
  refine ⟨1003, ?_⟩
  unfold law19_PeerLong.f
  rw [awake_some]
  simp only [Option.bind_some, if_true]
  have hj : ∀ y : Bool, law19_PeerLong.j0 1003 (x : Int) a1 true y = if y = true then some true else law19_PeerLong.l0 1002 (x : Int) a1 (x : Int) 0 := fun y => by unfold law19_PeerLong.j0; rfl
  simp only [hj]
  split
  · rfl
  · split
    · rfl
    · by_cases hb : a1 > 1000
      · simp [hb]
      · rw [if_neg (by simp [hb])]
        obtain ⟨n, rfl⟩ : ∃ n : Nat, a1 = (n : Int) := ⟨a1.toNat, by omega⟩
        exact long_loop x n hx (by omega) (by omega) (by omega) 1002 0 (Nat.zero_le _) (by omega)
end Go.Proofs.Ytameeejfkgoheaa.Pure
