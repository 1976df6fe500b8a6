/- RegOld, plain: it answers true. -/
import Derived.Test.YtannmdngejdjkaaLPRegRef
import Derived.Test.YtannmdngejdjkaaLx19
namespace Go.Proofs.Ytannmdngejdjkaa.L
open Go.RowKit Go.Proofs.YtannmdngejdjkaaW.PrintWords Go.Proofs.YtannmdngejdjkaaW.PrintLast Go.Proofs.YtannmdngejdjkaaW.PrintMore Go.Proofs.YtannmdngejdjkaaW
set_option linter.unusedVariables false
theorem old_true (k : Nat) (l : List Rg) (r s : Rg) : law07_RegOld.j0 (k + 1) l true true r.f0 r.f1 r.f2 r.f3.f0 r.f3.f1 s.f0 s.f1 s.f2 s.f3.f0 s.f3.f1 = some true := by
  simp only [law07_RegOld.j0]; rfl
theorem fold_up {a b : List Rg} (h : mayB a = true) (hb : mayB b = true) : mayB (mergeO a b) = true := by
  unfold mergeO
  rw [h, hb]
  exact may_fold h ((mayB_iff b).1 hb).1
theorem getR_mergeO {a b : List Rg} (h : mayB a = true) (hb : mayB b = true) (k : ByteArray) : getR (mergeO a b) k = joinO (getR a k) (getR b k) := by
  unfold mergeO
  rw [h, hb]
  exact getR_fold b a k ((mayB_iff a).1 h).2 ((mayB_iff b).1 hb).2
theorem getR_putO {a : List Rg} {r : Rg} (h : mayB a = true) (hr : oneB r = true) (k : ByteArray) : getR (putO a r) k = joinO (getR a k) (getR [r] k) := by
  unfold putO
  rw [h, hr]
  exact getR_put a r k ((mayB_iff a).1 h).2
theorem may_putO {a : List Rg} {r : Rg} (h : mayB a = true) (hr : oneB r = true) : mayB (putO a r) = true := by
  unfold putO
  rw [h, hr]
  exact may_put h hr
theorem same_of {a b : List Rg} (h : mayB a = true) (hb : mayB b = true) (e : ∀ k, getR a k = getR b k) : a = b := reg_same a b ((mayB_iff a).1 h).2 ((mayB_iff b).1 hb).2 e
theorem old_j (k : Nat) (hk : 900 ≤ k) (l : List Rg) (r s : Rg) (hl : fewB l = true) (hrs : fewB [r, s] = true) (ml : mayB l = true) (mr : mayB [r] = true) (ms : mayB [s] = true) : law07_RegOld.j0 (k + 1) l true false r.f0 r.f1 r.f2 r.f3.f0 r.f3.f1 s.f0 s.f1 s.f2 s.f3.f0 s.f3.f1 = some true := by
  have sl := few_all hl
  have sr : smallR r := few_size hrs r (by simp)
  have ss : smallR s := few_size hrs s (by simp)
  have ll := few_len hl
  have orr := may_one mr
  have os := may_one ms
  have la := putO_len l r
  have lb := putO_len l s
  have sa := putO_small sl sr
  have sb := putO_small sl ss
  have ma := may_putO ml orr
  have mb := may_putO ml os
  have kl := fun q => getR_keyed l q
  have kr := fun q => getR_keyed [r] q
  have ks := fun q => getR_keyed [s] q
  have e1 : mergeO (putO l r) l = putO l r := same_of (fold_up ma ml) ma fun q => by
    rw [getR_mergeO ma ml, getR_putO ml orr, joinO_comm (joinO_keyed (kl q) (kr q)) (kl q), ← joinO_assoc (kl q) (kl q), joinO_idem]
  have e2 : mergeO l (putO l r) = putO l r := same_of (fold_up ml ma) ma fun q => by
    rw [getR_mergeO ml ma, getR_putO ml orr, ← joinO_assoc (kl q) (kl q), joinO_idem]
  have e3 : mergeO (putO l r) (putO l s) = putO (putO l r) s := same_of (fold_up ma mb) (may_putO ma os) fun q => by
    rw [getR_mergeO ma mb, getR_putO ma os, getR_putO ml orr, getR_putO ml os, ← joinO_assoc (joinO_keyed (kl q) (kr q)) (kl q), joinO_comm (joinO_keyed (kl q) (kr q)) (kl q), ← joinO_assoc (kl q) (kl q), joinO_idem]
  have e4 : mergeO (putO l r) (putO l s) = putO (putO l s) r := same_of (fold_up ma mb) (may_putO mb orr) fun q => by
    rw [getR_mergeO ma mb, getR_putO mb orr, getR_putO ml orr, getR_putO ml os, joinO_comm (joinO_keyed (kl q) (kr q)) (joinO_keyed (kl q) (ks q)), ← joinO_assoc (joinO_keyed (kl q) (ks q)) (kl q), joinO_comm (joinO_keyed (kl q) (ks q)) (kl q), ← joinO_assoc (kl q) (kl q), joinO_idem]
  simp only [law07_RegOld.j0]
  rw [if_neg (by simp), put_f k l r (by omega) (by omega) (ok_all sl) (okTT_of sr), put_f k l s (by omega) (by omega) (ok_all sl) (okTT_of ss)]
  simp only [Option.bind_some]
  rw [merge_f k (putO l r) l (by omega) (by omega) (by omega) (by omega) (ok_all sa) (ok_all sl), e1]
  simp only [Option.bind_some]
  rw [sameRef_f k (putO l r) (by omega) (by omega), merge_f k l (putO l r) (by omega) (by omega) (by omega) (by omega) (ok_all sl) (ok_all sa), e2]
  simp only [Option.bind_some]
  have l3 := putO_len (putO l r) s
  have l4 := putO_len (putO l s) r
  rw [sameRef_f k (putO l r) (by omega) (by omega), merge_f k (putO l r) (putO l s) (by omega) (by omega) (by omega) (by omega) (ok_all sa) (ok_all sb), put_f k (putO l r) s (by omega) (by omega) (ok_all sa) (okTT_of ss), put_f k (putO l s) r (by omega) (by omega) (ok_all sb) (okTT_of sr)]
  simp only [Option.bind_some]
  have q3 : ref07_Same.f k (mergeO (putO l r) (putO l s)) (putO (putO l r) s) = some true := by rw [e3]; exact sameRef_f k _ (by omega) (by omega)
  have q4 : ref07_Same.f k (mergeO (putO l r) (putO l s)) (putO (putO l s) r) = some true := by rw [e4]; exact sameRef_f k _ (by omega) (by omega)
  rw [q3, q4]
  rfl
theorem regOld_pure' (k : Nat) (hk : 900 ≤ k) (l : List Rg) (r s : Rg) : law07_RegOld.f (k + 1) l r.f0 r.f1 r.f2 r.f3.f0 r.f3.f1 s.f0 s.f1 s.f2 s.f3.f0 s.f3.f1 = some true := by
  have ht := old_true k l r s
  unfold law07_RegOld.f
  rw [awake_k (k + 1) (by omega), few_f (k + 1) l (by omega), show ([⟨r.f0, r.f1, r.f2, ⟨r.f3.f0, r.f3.f1⟩⟩, ⟨s.f0, s.f1, s.f2, ⟨s.f3.f0, s.f3.f1⟩⟩] : List Rg) = [r, s] from rfl, few_f (k + 1) [r, s] (by omega), show ([⟨r.f0, r.f1, r.f2, ⟨r.f3.f0, r.f3.f1⟩⟩] : List Rg) = [r] from rfl, show ([⟨s.f0, s.f1, s.f2, ⟨s.f3.f0, s.f3.f1⟩⟩] : List Rg) = [s] from rfl]
  simp only [Option.bind_some, if_true]
  cases h1 : fewB l with
  | false => exact ht
  | true =>
    cases h2 : fewB [r, s] with
    | false => exact ht
    | true =>
      have hl := few_len h1
      have sr : smallR r := few_size h2 r (by simp)
      have ss : smallR s := few_size h2 s (by simp)
      rw [may_f (k + 1) l (by omega) (by omega) (ok_all (few_all h1)), may_f (k + 1) [r] (by simp; omega) (by simp) (fun x hx => by simp at hx; subst hx; exact okTT_of sr), may_f (k + 1) [s] (by simp; omega) (by simp) (fun x hx => by simp at hx; subst hx; exact okTT_of ss)]
      simp only [Option.bind_some, if_true]
      cases h3 : mayB l with
      | false => exact ht
      | true =>
        cases h4 : mayB [r] with
        | false => exact ht
        | true =>
          cases h5 : mayB [s] with
          | false => exact ht
          | true => exact old_j k hk l r s h1 h2 h3 h4 h5
theorem regOld_pure (l0 : List S26) (a1_0 a1_1 : ByteArray) (a1_2 a1_3 a1_4 : Int) (a2_0 a2_1 : ByteArray) (a2_2 a2_3 a2_4 : Int) (_h0 : ∀ x ∈ l0, okReg x) (_h1 : okReg ⟨a1_0, a1_1, a1_2, ⟨a1_3, a1_4⟩⟩) (_h2 : okReg ⟨a2_0, a2_1, a2_2, ⟨a2_3, a2_4⟩⟩) :
    ∃ k, law07_RegOld.f k l0 a1_0 a1_1 a1_2 a1_3 a1_4 a2_0 a2_1 a2_2 a2_3 a2_4 = some true := ⟨900 + 1, regOld_pure' 900 (Nat.le_refl _) l0 ⟨a1_0, a1_1, a1_2, ⟨a1_3, a1_4⟩⟩ ⟨a2_0, a2_1, a2_2, ⟨a2_3, a2_4⟩⟩⟩
end Go.Proofs.Ytannmdngejdjkaa.L
