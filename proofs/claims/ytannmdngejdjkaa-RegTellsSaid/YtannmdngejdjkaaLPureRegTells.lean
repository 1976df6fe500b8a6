/- RegTells, plain: it answers true. -/
import Derived.Test.YtannmdngejdjkaaLPRegRef
import Derived.Test.YtannmdngejdjkaaLx15
namespace Go.Proofs.Ytannmdngejdjkaa.L
open Go.RowKit Go.Proofs.YtannmdngejdjkaaW.PrintWords Go.Proofs.YtannmdngejdjkaaW.PrintLast Go.Proofs.YtannmdngejdjkaaW.PrintMore Go.Proofs.YtannmdngejdjkaaW
set_option linter.unusedVariables false
theorem tells_loop (r : Rg) (b : Bool) (x : ByteArray × ByteArray × Int × Int × Int × Bool) (hx : True) : ∀ (suf pre : List Rg) (k : Nat), 2 * (pre ++ suf).length + suf.length + 10 < k → (pre ++ suf).length < 1000 → (∀ y ∈ pre ++ suf, okTT y) → b = mayB (pre ++ suf) →
    law07_RegTells.l0 k (pre ++ suf) b true true x.2.2.2.2.2 x.2.2.2.2.2 ((pre.length : Nat) : Int) r.f0 r.f1 r.f2 r.f3.f0 r.f3.f1 x.1 x.2.1 x.2.2.1 x.2.2.2.1 x.2.2.2.2.1 x.1 x.2.1 x.2.2.1 x.2.2.2.1 x.2.2.2.2.1 = some true
  | suf, pre, 0, hk, _, _, _ => by omega
  | [], pre, k + 1, hk, hl, ho, hb => by
    simp only [law07_RegTells.l0]
    rw [if_neg (by simp), may_f k (pre ++ []) (by omega) (by omega) ho, Option.bind_some, hb]
    simp
  | y :: suf, pre, k + 1, hk, hl, ho, hb => by
    have hlt : ((pre.length : Nat) : Int) < (((pre ++ y :: suf).length : Nat) : Int) := by simp; omega
    have hpl : pre.length < 4611686018427387904 := by simp at hl; omega
    have ih := tells_loop r b x hx suf (pre ++ [y]) k (by rw [app_snoc]; simp only [List.length_cons] at hk; omega) (by rw [app_snoc]; exact hl) (by rw [app_snoc]; exact ho) (by rw [app_snoc]; exact hb)
    rw [app_snoc, len_snoc] at ih
    simp only [law07_RegTells.l0]
    rw [if_pos hlt, if_pos (by omega), rd_mid, newerRef_f, Option.bind_some, newer_k k (by omega), Option.bind_some, wrap_succ hpl, ih]
    simp
theorem tells_j (k : Nat) (hk : 900 ≤ k) (a b : List Rg) (r : Rg) (key : ByteArray) (big : Bool) (ha : fewB a = true) (hb : fewB b = true) (hr : fewB [r] = true) : law07_RegTells.j0 (k + 1) a b key true big r.f0 r.f1 r.f2 r.f3.f0 r.f3.f1 = some true := by
  have sa := few_all ha
  have sb := few_all hb
  have sr := few_one hr
  have la := few_len ha
  have lb := few_len hb
  have lp := putO_len a r
  have lm := mergeO_len a b
  simp only [law07_RegTells.j0]
  cases big with
  | true => rfl
  | false =>
    rw [if_neg (by simp), mayRef_f k a (by omega) (by omega) sa, put_f k a r (by omega) (by omega) (ok_all sa) (okTT_of sr), putRef_f k a r (by omega) (by omega) sa sr]
    simp only [Option.bind_some]
    rw [sameRef_f k (putO a r) (by omega) (by omega), merge_f k a b (by omega) (by omega) (by omega) (by omega) (ok_all sa) (ok_all sb), mergeRef_f k a b (by omega) (by omega) sa sb]
    simp only [Option.bind_some]
    rw [sameRef_f k (mergeO a b) (by omega) (by omega), get_f, getRef_f k a key (by omega) (by omega)]
    simp only [Option.bind_some]
    have := tells_loop r (mayB a) (getA (getR a key)) trivial a [] k (by simp; omega) (by simp; omega) (ok_all sa) rfl
    simpa using this
theorem tells_true (k : Nat) (a b : List Rg) (r : Rg) (key : ByteArray) : law07_RegTells.j0 (k + 1) a b key true true r.f0 r.f1 r.f2 r.f3.f0 r.f3.f1 = some true := by
  simp only [law07_RegTells.j0]; rfl
theorem regTells_pure' (k : Nat) (hk : 900 ≤ k) (a b : List Rg) (r : Rg) (key : ByteArray) : law07_RegTells.f (k + 1) a b r.f0 r.f1 r.f2 r.f3.f0 r.f3.f1 key = some true := by
  have ht := tells_true k a b r key
  unfold law07_RegTells.f
  rw [awake_k (k + 1) (by omega), few_f (k + 1) a (by omega), few_f (k + 1) b (by omega), show ([⟨r.f0, r.f1, r.f2, ⟨r.f3.f0, r.f3.f1⟩⟩] : List Rg) = [r] from rfl, few_f (k + 1) [r] (by omega)]
  simp only [Option.bind_some, if_true]
  cases h1 : fewB a with
  | false => exact ht
  | true =>
    cases h2 : fewB b with
    | false => exact ht
    | true =>
      cases h3 : fewB [r] with
      | false => exact ht
      | true => exact tells_j k hk a b r key _ h1 h2 h3
theorem regTells_pure (l0 l1 : List S26) (a2_0 a2_1 : ByteArray) (a2_2 a2_3 a2_4 : Int) (a3 : ByteArray) (_h0 : ∀ x ∈ l0, okReg x) (_h1 : ∀ x ∈ l1, okReg x) (_h2 : okReg ⟨a2_0, a2_1, a2_2, ⟨a2_3, a2_4⟩⟩) (_h3 : a3.size ≤ maxLen) :
    ∃ k, law07_RegTells.f k l0 l1 a2_0 a2_1 a2_2 a2_3 a2_4 a3 = some true := ⟨900 + 1, regTells_pure' 900 (Nat.le_refl _) l0 l1 ⟨a2_0, a2_1, a2_2, ⟨a2_3, a2_4⟩⟩ a3⟩
end Go.Proofs.Ytannmdngejdjkaa.L
