/- PeerWaits: how long is waited is from 1 to 64, doubles from one to the next one, and stays there: the plain law. -/
import Derived.Test.YtameeejfkgoheaaPPeerPlain
import Derived.Test.YtameeejfkgoheaaPHAwake
import Derived.Test.YtameeejfkgoheaaPx2
namespace Go.Proofs.Ytameeejfkgoheaa.Pure
open Go.RowKit Go.Proofs.Ytameeejfkgoheaa.P Go.Proofs.YtameeejfkgoheaaW.PrintWords Go.Proofs.YtameeejfkgoheaaW.PrintLast
theorem wait_lo (a : Int) (h : a ≤ 0) : peer_Wait.f a = some 1 := by
  unfold peer_Wait.f
  have : mn (mx a 0) 6 = 0 := by unfold mn mx; repeat' split <;> omega
  rw [this]; decide +kernel
theorem wait_hi (a : Int) (h : 6 ≤ a) : peer_Wait.f a = some 64 := by
  unfold peer_Wait.f
  have : mn (mx a 0) 6 = 6 := by unfold mn mx; repeat' split <;> omega
  rw [this]; decide +kernel
theorem PeerWaits : law19_PeerWaits.Pure := by
  intro a0 h0
  obtain ⟨hl, hu⟩ := i64_range h0
  refine ⟨0 + 1, ?_⟩
  unfold law19_PeerWaits.f
  rw [awake_some]
  simp only [Option.bind_some, if_true]
  simp only [law19_PeerWaits.j0]
  by_cases hb : a0 > 1099511627776
  · simp [hb]
  · rw [if_neg (by simp [hb])]
    rcases Int.lt_or_le a0 0 with hn | hp
    · rw [wait_lo a0 (by omega)]
      simp [hn]
    · have hw : wrap64 (a0 + 1) = a0 + 1 := by unfold wrap64; omega
      have hnn : ¬ a0 < 0 := by omega
      rcases Int.lt_or_le a0 6 with h6 | h6
      · have : a0 = 0 ∨ a0 = 1 ∨ a0 = 2 ∨ a0 = 3 ∨ a0 = 4 ∨ a0 = 5 := by omega
        rcases this with rfl | rfl | rfl | rfl | rfl | rfl <;> decide +kernel
      · rw [wait_hi a0 h6, hw, wait_hi (a0 + 1) (by omega)]
        simp only [Option.bind_some]
        rw [if_neg hnn, if_pos (by decide), if_pos (by decide), if_neg (by decide +kernel), if_pos trivial, if_pos trivial]
        simp [h6]
end Go.Proofs.Ytameeejfkgoheaa.Pure
