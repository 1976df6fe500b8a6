/- PeerOnly: no two numbers have the same next one, but 0 and 1, and none is 0: the plain law. -/
import Derived.Test.YtameeejfkgoheaaPPeerPlain
import Derived.Test.YtameeejfkgoheaaPHAwake
import Derived.Test.YtameeejfkgoheaaPx2
namespace Go.Proofs.Ytameeejfkgoheaa.Pure
open Go.RowKit Go.Proofs.Ytameeejfkgoheaa.P Go.Proofs.YtameeejfkgoheaaW.PrintWords Go.Proofs.YtameeejfkgoheaaW.PrintLast
theorem PeerOnly : law19_PeerOnly.Pure := by
  intro a0 a1 h0 h1
  obtain ⟨x, hx, rfl⟩ := u32_nat h0
  obtain ⟨y, hy, rfl⟩ := u32_nat h1
  have hn : Xs.nx x ≠ 0 := Xs.nx_ne_zero x hx
  have hi := Xs.nx_inj x y hx hy
  have hn' : ¬ ((Xs.nx x : Nat) : Int) = 0 := by omega
  unfold law19_PeerOnly.f
  rw [awake_some, next_nat x hx, next_nat y hy]
  simp only [Option.bind_some]
  rw [if_pos trivial, if_neg hn', if_neg hn', if_neg hn']
  by_cases hxy : x = y
  · subst hxy
    simp
  · have e0 : ¬ ((x : Int) = (y : Int)) := by omega
    rw [if_neg e0]
    by_cases h2 : (x : Int) ≤ 1
    · rw [if_pos h2]
      by_cases h3 : (y : Int) ≤ 1
      · have := hi.2 (.inr ⟨by omega, by omega⟩)
        simp [h3, this]
      · have : Xs.nx x ≠ Xs.nx y := fun e => by
          rcases hi.1 e with q | q
          · exact hxy q
          · omega
        have : ¬ (((Xs.nx x : Nat) : Int) = ((Xs.nx y : Nat) : Int)) := by omega
        simp [h3, this]
    · rw [if_neg h2]
      have : Xs.nx x ≠ Xs.nx y := fun e => by
        rcases hi.1 e with q | q
        · exact hxy q
        · omega
      have : ¬ (((Xs.nx x : Nat) : Int) = ((Xs.nx y : Nat) : Int)) := by omega
      simp [this]
end Go.Proofs.Ytameeejfkgoheaa.Pure
