/- RegPuts, plain: it answers true. -/
import Derived.Test.YtannmdngejdjkaaLPRegFuel
import Derived.Test.YtannmdngejdjkaaLx18
namespace Go.Proofs.Ytannmdngejdjkaa.L
open Go.RowKit Go.Proofs.YtannmdngejdjkaaW.PrintWords Go.Proofs.YtannmdngejdjkaaW.PrintLast Go.Proofs.YtannmdngejdjkaaW.PrintMore Go.Proofs.YtannmdngejdjkaaW
set_option linter.unusedVariables false
theorem may_one {r : Rg} (h : mayB [r] = true) : oneB r = true := ((mayB_iff [r]).1 h).1 r List.mem_cons_self
theorem few_one {r : Rg} (h : fewB [r] = true) : okTT r := okTT_of (few_size h r List.mem_cons_self)
theorem few_all {l : List Rg} (h : fewB l = true) : ∀ x ∈ l, okTT x := fun x hx => okTT_of (few_size h x hx)
theorem putL_len (l : List Rg) (r : Rg) : (putL l r).length ≤ l.length + 1 := putL_length l r
theorem putL_ok {l : List Rg} {r : Rg} (h : ∀ x ∈ l, okTT x) (hr : okTT r) : ∀ x ∈ putL l r, okTT x := fun x hx => by
  rcases putL_mem hx with rfl | hx
  · exact hr
  · exact h x hx
theorem puts_j (l : List Rg) (r : Rg) (key : ByteArray) (b : Bool) (hf : fewB l = true) (hr : fewB [r] = true) (hm : mayB l = true) (h1 : mayB [r] = true) : law07_RegPuts.j0 200 l key true b r.f0 r.f1 r.f2 r.f3.f0 r.f3.f1 = some true := by
  have hp := ((mayB_iff l).1 hm).2
  have ho := few_all hf
  have hro := few_one hr
  have hl := few_len hf
  have hone := may_one h1
  have hput : putO l r = putL l r := by simp [putO, hm, hone]
  have hmp := may_put hm hone
  simp only [law07_RegPuts.j0]
  cases b with
  | true => rfl
  | false =>
    rw [if_neg (by simp), put_f 199 l r (by omega) (by omega) ho hro, Option.bind_some, hput, get_f, get_f, get_f, get_f]
    simp only [Option.bind_some]
    have hgp : ∀ k, getR (putL l r) k = joinO (getR l k) (getR [r] k) := fun k => getR_put l r k hp
    have hr1 : getR [r] r.f0 = some r := by rw [getR_cons, if_pos rfl]
    have hr2 : ∀ k, k ≠ r.f0 → getR [r] k = none := fun k hk => by rw [getR_cons, if_neg (fun e => hk e.symm), getR_nil]
    have hx : ∃ x, getR (putL l r) r.f0 = some x := by
      rw [hgp, hr1]
      cases getR l r.f0 <;> exact ⟨_, rfl⟩
    obtain ⟨x, hx⟩ := hx
    have hxv := hx
    rw [hgp, hr1] at hxv
    have hlen := putL_length l r
    rw [hx, may_f 199 (putL l r) (by omega) (by omega) (putL_ok ho hro), hmp]
    simp only [getA, if_true, Option.bind_some]
    have last : law07_RegPuts.j1 199 (getA (getR l r.f0)).2.2.2.2.2 false r.f0 r.f1 r.f2 r.f3.f0 r.f3.f1 x.f0 x.f1 x.f2 x.f3.f0 x.f3.f1 (getA (getR l r.f0)).1 (getA (getR l r.f0)).2.1 (getA (getR l r.f0)).2.2.1 (getA (getR l r.f0)).2.2.2.1 (getA (getR l r.f0)).2.2.2.2.1 = some true := by
      simp only [law07_RegPuts.j1]
      rw [if_neg (by simp)]
      cases hy : getR l r.f0 with
      | none =>
        rw [hy] at hxv
        simp only [joinO, Option.some.injEq] at hxv
        subst hxv
        simp [getA]
      | some y =>
        rw [hy] at hxv
        simp only [joinO, Option.some.injEq, joinR] at hxv
        simp only [getA, if_true]
        rw [newer_k 198 (by omega), Option.bind_some]
        cases hn : newerB r y with
        | true =>
          rw [hn] at hxv
          simp only [if_true] at hxv
          subst hxv
          simp
        | false =>
          rw [hn] at hxv
          simp only [Bool.false_eq_true, if_false] at hxv
          subst hxv
          simp
    by_cases hk : key = r.f0
    · rw [if_pos (by rw [hk])]
      exact last
    · rw [if_neg (fun e => hk (toList_inj e)), hgp key, hr2 key hk, joinO_none_right]
      simp only [beq_self_eq_true, Bool.not_true, Bool.or_self, Bool.false_eq_true, if_false, bne_self_eq_false]
      exact last
theorem puts_true (k : Nat) (l : List Rg) (r : Rg) (key : ByteArray) : law07_RegPuts.j0 (k + 1) l key true true r.f0 r.f1 r.f2 r.f3.f0 r.f3.f1 = some true := by
  simp only [law07_RegPuts.j0]; rfl
theorem regPuts_pure' (l : List Rg) (r : Rg) (key : ByteArray) : law07_RegPuts.f 200 l r.f0 r.f1 r.f2 r.f3.f0 r.f3.f1 key = some true := by
  have ht := puts_true 199 l r key
  unfold law07_RegPuts.f
  rw [awake_k 200 (by omega), few_f 200 l (by omega), show ([⟨r.f0, r.f1, r.f2, ⟨r.f3.f0, r.f3.f1⟩⟩] : List Rg) = [r] from rfl, few_f 200 [r] (by omega)]
  simp only [Option.bind_some, if_true]
  cases h1 : fewB l with
  | false => exact ht
  | true =>
    cases h2 : fewB [r] with
    | false => exact ht
    | true =>
      have hl := few_len h1
      rw [may_f 200 l (by omega) (by omega) (few_all h1), may_f 200 [r] (by simp) (by simp) (few_all h2)]
      simp only [Option.bind_some, if_true]
      cases h3 : mayB l with
      | false => exact ht
      | true =>
        cases h4 : mayB [r] with
        | false => exact ht
        | true => exact puts_j l r key _ h1 h2 h3 h4
theorem regPuts_pure (l0 : List S26) (a1_0 a1_1 : ByteArray) (a1_2 a1_3 a1_4 : Int) (a2 : ByteArray) (_h0 : ∀ x ∈ l0, okReg x) (_h1 : okReg ⟨a1_0, a1_1, a1_2, ⟨a1_3, a1_4⟩⟩) (_h2 : a2.size ≤ maxLen) :
    ∃ k, law07_RegPuts.f k l0 a1_0 a1_1 a1_2 a1_3 a1_4 a2 = some true := ⟨200, regPuts_pure' l0 ⟨a1_0, a1_1, a1_2, ⟨a1_3, a1_4⟩⟩ a2⟩
end Go.Proofs.Ytannmdngejdjkaa.L
