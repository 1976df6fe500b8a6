/- ref04.digit. By hand. -/
import Derived.Test.YtkgjdeicjkibiaaDIRead
namespace Go.Proofs.Ytkgjdeicjkibiaa.D
open Go.RowKit Go.Proofs.YtkgjdeicjkibiaaW.PrintWords Go.Proofs.YtkgjdeicjkibiaaW.PrintLast Go.Proofs.YtkgjdeicjkibiaaW.PrintMore Go.Proofs.YtkgjdeicjkibiaaW
set_option linter.unusedVariables false
set_option linter.unusedSimpArgs false
def digR (c : UInt8) : Int := if 48 ≤ c.toNat ∧ c.toNat ≤ 57 then (c.toNat : Int) - 48 else if 97 ≤ c.toNat ∧ c.toNat ≤ 102 then (c.toNat : Int) - 97 + 10 else -1
set_option maxRecDepth 100000 in
theorem digR_eq (c : UInt8) : digR c = digV c := by
  have : ∀ n : Fin 256, digR (UInt8.ofNat n.val) = digV (UInt8.ofNat n.val) := by decide
  have e := this ⟨c.toNat, c.toNat_lt⟩
  simp only [UInt8.ofNat_toNat] at e
  exact e
set_option maxHeartbeats 1000000 in
set_option maxRecDepth 100000 in
theorem digit_calls (c : UInt8) (w : World) :
    Calls Try.prog 30 #[.int .u8 (c.toNat : Int)] w fun e w' => e = .returned (.int .i64 (digV c)) ∧ w' = w := by
  rw [← digR_eq]
  generalize hR : digR c = R
  have HR := Aside0.mk hR
  clear hR
  have hcl := c.toNat_lt
  have hc0 : (0 : Int) ≤ (c.toNat : Int) := Int.natCast_nonneg _
  have hc1 : (c.toNat : Int) < 256 := by omega
  by_cases h1 : 48 ≤ c.toNat ∧ c.toNat ≤ 57
  · have e : R = (c.toNat : Int) - 48 := by rw [← HR.out]; unfold digR; rw [if_pos h1]
    obtain ⟨h2, h3⟩ := h1
    have h2' : (48 : Int) ≤ (c.toNat : Int) := by omega
    have h3' : (c.toNat : Int) ≤ 57 := by omega
    have HE := Aside0.mk e
    clear e
    go_enter Try.func30, Try.ntmps30
    go_wp2
    go_ret
    exact ⟨by rw [HE.out]; first | rfl | (congr 2; omega), rfl⟩
  · by_cases h4 : 97 ≤ c.toNat ∧ c.toNat ≤ 102
    · have e : R = (c.toNat : Int) - 97 + 10 := by rw [← HR.out]; unfold digR; rw [if_neg h1, if_pos h4]
      obtain ⟨h2, h3⟩ := h4
      have h2' : (97 : Int) ≤ (c.toNat : Int) := by omega
      have h3' : (c.toNat : Int) ≤ 102 := by omega
      have h5 : (48 : Int) ≤ (c.toNat : Int) := by omega
      have h6 : ¬ (c.toNat : Int) ≤ 57 := by omega
      have HE := Aside0.mk e
      clear e h1
      go_enter Try.func30, Try.ntmps30
      go_wp2
      go_ret
      exact ⟨by rw [HE.out]; first | rfl | (congr 2; omega), rfl⟩
    · have e : R = -1 := by rw [← HR.out]; unfold digR; rw [if_neg h1, if_neg h4]
      have HE := Aside0.mk e
      clear e
      by_cases h5 : (48 : Int) ≤ (c.toNat : Int)
      · have h6 : ¬ (c.toNat : Int) ≤ 57 := by omega
        by_cases h7 : (97 : Int) ≤ (c.toNat : Int)
        · have h8 : ¬ (c.toNat : Int) ≤ 102 := by omega
          clear h1 h4
          go_enter Try.func30, Try.ntmps30
          go_wp2
          go_ret
          exact ⟨by rw [HE.out]; rfl, rfl⟩
        · clear h1 h4
          go_enter Try.func30, Try.ntmps30
          go_wp2
          go_ret
          exact ⟨by rw [HE.out]; rfl, rfl⟩
      · have h7 : ¬ (97 : Int) ≤ (c.toNat : Int) := by omega
        clear h1 h4
        go_enter Try.func30, Try.ntmps30
        go_wp2
        go_ret
        exact ⟨by rw [HE.out]; rfl, rfl⟩
end Go.Proofs.Ytkgjdeicjkibiaa.D
