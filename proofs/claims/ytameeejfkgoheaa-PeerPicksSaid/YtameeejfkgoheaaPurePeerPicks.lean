/- PeerPicks: whom a number picks is one that is known; each one is picked by some number: the plain law. -/
import Derived.Test.YtameeejfkgoheaaPPeerPlain
import Derived.Test.YtameeejfkgoheaaPHAwake
import Derived.Test.YtameeejfkgoheaaPx4
namespace Go.Proofs.Ytameeejfkgoheaa.Pure
open Go.RowKit Go.Proofs.Ytameeejfkgoheaa.P Go.Proofs.YtameeejfkgoheaaW.PrintWords Go.Proofs.YtameeejfkgoheaaW.PrintLast
theorem has_rd (l : List Int) (hl : l.length ≤ 20) (j : Nat) (hj : j < l.length) : ∀ (k i : Nat), i ≤ j → j - i < k → ref19_Has.l0 k l (rd l (j : Int)) (i : Int) = some true := by
  intro k
  induction k with
  | zero => intro i _ h; omega
  | succ k ih =>
    intro i hi hk
    unfold ref19_Has.l0
    rw [if_pos (by omega), if_pos (by omega)]
    split
    · rfl
    · rename_i hne
      have hlt : i < j := by
        rcases Nat.eq_or_lt_of_le hi with e | e
        · subst e; exact absurd rfl hne
        · exact e
      have hw : wrap64 ((i : Int) + 1) = ((i + 1 : Nat) : Int) := by unfold wrap64; omega
      rw [hw]
      exact ih (i + 1) (by omega) (by omega)
theorem pick_some (l : List Int) (hl : l.length ≤ 20) (h0 : 0 < l.length) (x : Nat) (hx : x < 4294967296) : peer_Pick.f l (x : Int) = some (rd l ((x % l.length : Nat) : Int), true) := by
  unfold peer_Pick.f
  have e1 : ((l.length : Int)) % 4294967296 = (l.length : Int) := by omega
  have e2 : Int.tmod (x : Int) (l.length : Int) = ((x % l.length : Nat) : Int) := by
    rw [Int.natCast_emod]; exact Int.tmod_eq_emod_of_nonneg (by omega)
  have hlt := Nat.mod_lt x h0
  have e3 : wrap64 ((x % l.length : Nat) : Int) = ((x % l.length : Nat) : Int) := by unfold wrap64; omega
  rw [if_neg (by omega), e1, if_neg (by omega), e2, e3, if_pos (by omega), if_pos (by omega)]
theorem PeerPicks : law19_PeerPicks.Pure := by
  intro l0 a1 a2 _ _ _ h1 h2
  obtain ⟨x, hx, rfl⟩ := u32_nat h1
  refine ⟨30 + 1, ?_⟩
  unfold law19_PeerPicks.f
  rw [awake_some]
  simp only [Option.bind_some, if_true]
  simp only [law19_PeerPicks.j0]
  by_cases hb : (l0.length : Int) > 20
  · simp [hb]
  · have hl : l0.length ≤ 20 := by omega
    rw [if_neg (by simp [hb])]
    rcases Nat.eq_zero_or_pos l0.length with h0 | h0
    · have hp : peer_Pick.f l0 (x : Int) = some (0, false) := by
        unfold peer_Pick.f
        rw [if_pos (by omega)]
      rw [hp]
      simp [h0]
    · rw [pick_some l0 hl h0 x hx]
      simp only [Option.bind_some]
      rw [if_neg (by omega)]
      have hlt := Nat.mod_lt x h0
      have hh : ref19_Has.f 30 l0 (rd l0 ((x % l0.length : Nat) : Int)) = some true := has_rd l0 hl _ hlt 30 0 (Nat.zero_le _) (by omega)
      rw [hh]
      simp only [Option.bind_some, if_true]
      by_cases ha : a2 < 0
      · rw [if_pos ha]
      · rw [if_neg ha]
        by_cases hc : a2 ≥ (l0.length : Int)
        · rw [if_pos hc]
        · rw [if_neg hc]
          obtain ⟨i, rfl⟩ : ∃ i : Nat, a2 = (i : Int) := ⟨a2.toNat, by omega⟩
          have e : ((i : Int)) % 4294967296 = (i : Int) := by omega
          rw [e, pick_some l0 hl h0 i (by omega)]
          simp only [Option.bind_some, if_true]
          rw [if_pos (by omega), if_pos (by omega), Nat.mod_eq_of_lt (by omega)]
          simp
end Go.Proofs.Ytameeejfkgoheaa.Pure
