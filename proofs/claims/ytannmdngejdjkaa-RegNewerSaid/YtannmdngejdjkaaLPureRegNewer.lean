/- RegNewer, plain: it answers true. -/
import Derived.Test.YtannmdngejdjkaaLPRegAwake
import Derived.Test.YtannmdngejdjkaaLHRow
import Derived.Test.YtannmdngejdjkaaLx17
namespace Go.Proofs.Ytannmdngejdjkaa.L
open Go.RowKit Go.Proofs.YtannmdngejdjkaaW.PrintWords Go.Proofs.YtannmdngejdjkaaW.PrintLast Go.Proofs.YtannmdngejdjkaaW.PrintMore Go.Proofs.YtannmdngejdjkaaW
theorem regNewer_pure (a0_0 a0_1 : ByteArray) (a0_2 a0_3 a0_4 : Int) (a1_0 a1_1 : ByteArray) (a1_2 a1_3 a1_4 : Int) (a2_0 a2_1 : ByteArray) (a2_2 a2_3 a2_4 : Int) (_h0 : okReg ⟨a0_0, a0_1, a0_2, ⟨a0_3, a0_4⟩⟩) (_h1 : okReg ⟨a1_0, a1_1, a1_2, ⟨a1_3, a1_4⟩⟩) (_h2 : okReg ⟨a2_0, a2_1, a2_2, ⟨a2_3, a2_4⟩⟩) :
    ∃ k, law07_RegNewer.f k a0_0 a0_1 a0_2 a0_3 a0_4 a1_0 a1_1 a1_2 a1_3 a1_4 a2_0 a2_1 a2_2 a2_3 a2_4 = some true := by
  refine ⟨20, ?_⟩
  have hn := fun k hk (a b : S26) => newer_k k hk a b
  have e01 := newer_k 20 (by omega) ⟨a0_0, a0_1, a0_2, ⟨a0_3, a0_4⟩⟩ ⟨a0_0, a1_1, a1_2, ⟨a1_3, a1_4⟩⟩
  have e10 := newer_k 20 (by omega) ⟨a0_0, a1_1, a1_2, ⟨a1_3, a1_4⟩⟩ ⟨a0_0, a0_1, a0_2, ⟨a0_3, a0_4⟩⟩
  have e12 := newer_k 19 (by omega) ⟨a0_0, a1_1, a1_2, ⟨a1_3, a1_4⟩⟩ ⟨a0_0, a2_1, a2_2, ⟨a2_3, a2_4⟩⟩
  have e02 := newer_k 19 (by omega) ⟨a0_0, a0_1, a0_2, ⟨a0_3, a0_4⟩⟩ ⟨a0_0, a2_1, a2_2, ⟨a2_3, a2_4⟩⟩
  have tr := @newer_trans ⟨a0_0, a0_1, a0_2, ⟨a0_3, a0_4⟩⟩ ⟨a0_0, a1_1, a1_2, ⟨a1_3, a1_4⟩⟩ ⟨a0_0, a2_1, a2_2, ⟨a2_3, a2_4⟩⟩
  have asy := @newer_asymm ⟨a0_0, a0_1, a0_2, ⟨a0_3, a0_4⟩⟩ ⟨a0_0, a1_1, a1_2, ⟨a1_3, a1_4⟩⟩
  have sm := @newer_same ⟨a0_0, a0_1, a0_2, ⟨a0_3, a0_4⟩⟩ ⟨a0_0, a1_1, a1_2, ⟨a1_3, a1_4⟩⟩
  have ir := newer_irrefl ⟨a0_0, a0_1, a0_2, ⟨a0_3, a0_4⟩⟩
  simp only at e01 e10 e12 e02 sm
  have hne : newerB ⟨a0_0, a0_1, a0_2, ⟨a0_3, a0_4⟩⟩ ⟨a0_0, a1_1, a1_2, ⟨a1_3, a1_4⟩⟩ = true ∨ newerB ⟨a0_0, a1_1, a1_2, ⟨a1_3, a1_4⟩⟩ ⟨a0_0, a0_1, a0_2, ⟨a0_3, a0_4⟩⟩ = true → (a0_1.toList == a1_1.toList && (a0_2 == a1_2 && (a0_3 == a1_3 && a0_4 == a1_4))) = false := by
    intro h
    rw [Bool.eq_false_iff]
    intro e
    simp only [Bool.and_eq_true, beq_iff_eq] at e
    obtain ⟨e1, rfl, rfl, rfl⟩ := e
    obtain rfl := toList_inj e1
    rw [ir] at h
    simp at h
  unfold law07_RegNewer.f
  rw [awake_k 20 (by omega), e01, e10]
  simp only [Option.bind_some, if_true]
  cases q1 : newerB ⟨a0_0, a0_1, a0_2, ⟨a0_3, a0_4⟩⟩ ⟨a0_0, a1_1, a1_2, ⟨a1_3, a1_4⟩⟩ with
  | true =>
    rw [asy q1, hne (.inl q1)]
    simp only [if_true, Bool.false_eq_true, if_false, law07_RegNewer.j0, e12, e02, Option.bind_some, beq_self_eq_true]
    cases q2 : newerB ⟨a0_0, a1_1, a1_2, ⟨a1_3, a1_4⟩⟩ ⟨a0_0, a2_1, a2_2, ⟨a2_3, a2_4⟩⟩ with
    | true => rw [tr q1 q2]; rfl
    | false => rfl
  | false =>
    cases q2 : newerB ⟨a0_0, a1_1, a1_2, ⟨a1_3, a1_4⟩⟩ ⟨a0_0, a0_1, a0_2, ⟨a0_3, a0_4⟩⟩ with
    | true => rw [hne (.inr q2)]; rfl
    | false =>
      obtain ⟨h1, h2, h3, h4⟩ := sm q1 q2
      subst h1 h2 h3 h4
      simp [law07_RegNewer.j0]
end Go.Proofs.Ytannmdngejdjkaa.L
