/- RegMerges, plain: it answers true. -/
import Derived.Test.YtannmdngejdjkaaLPRegRef
import Derived.Test.YtannmdngejdjkaaLx16
namespace Go.Proofs.Ytannmdngejdjkaa.L
open Go.RowKit Go.Proofs.YtannmdngejdjkaaW.PrintWords Go.Proofs.YtannmdngejdjkaaW.PrintLast Go.Proofs.YtannmdngejdjkaaW.PrintMore Go.Proofs.YtannmdngejdjkaaW
set_option linter.unusedVariables false
set_option linter.unusedSimpArgs false
theorem fold_up {a b : List Rg} (h : mayB a = true) (hb : mayB b = true) : mayB (mergeO a b) = true := by
  unfold mergeO
  rw [h, hb]
  exact may_fold h ((mayB_iff b).1 hb).1
theorem getR_mergeO {a b : List Rg} (h : mayB a = true) (hb : mayB b = true) (k : ByteArray) : getR (mergeO a b) k = joinO (getR a k) (getR b k) := by
  unfold mergeO
  rw [h, hb]
  exact getR_fold b a k ((mayB_iff a).1 h).2 ((mayB_iff b).1 hb).2
theorem same_of {a b : List Rg} (h : mayB a = true) (hb : mayB b = true) (e : ∀ k, getR a k = getR b k) : a = b := reg_same a b ((mayB_iff a).1 h).2 ((mayB_iff b).1 hb).2 e
theorem merges_true (k : Nat) (a b c : List Rg) (key : ByteArray) : law07_RegMerges.j0 (k + 1) a b c key true true = some true := by
  simp only [law07_RegMerges.j0]; rfl
theorem eq_test (x y : Rg) : (x.f0.toList == y.f0.toList && (x.f1.toList == y.f1.toList && (x.f2 == y.f2 && ((x.f3.f0 == y.f3.f0 && (x.f3.f1 == y.f3.f1)))))) = true ↔ x = y := by
  simp only [Bool.and_eq_true, beq_iff_eq]
  constructor
  · rintro ⟨h0, h1, h2, h3, h4⟩
    exact reg_ext (toList_inj h0) (toList_inj h1) h2 h3 h4
  · rintro rfl
    exact ⟨rfl, rfl, rfl, rfl, rfl⟩
theorem mj00 (k : Nat) (p q : Bool) (a0 a1 : ByteArray) (a2 a3 a4 : Int) (b0 b1 : ByteArray) (b2 b3 b4 : Int) (c0 c1 : ByteArray) (c2 c3 c4 : Int) : law07_RegMerges.j1 (k + 1) false p q false a0 a1 a2 a3 a4 b0 b1 b2 b3 b4 c0 c1 c2 c3 c4 = some true := by
  simp only [law07_RegMerges.j1]; rfl
theorem mj01 (k : Nat) (hk : 5 ≤ k) (z : Rg) (b0 b1 : ByteArray) (b2 b3 b4 : Int) : law07_RegMerges.j1 (k + 1) true false true false z.f0 z.f1 z.f2 z.f3.f0 z.f3.f1 b0 b1 b2 b3 b4 z.f0 z.f1 z.f2 z.f3.f0 z.f3.f1 = some true := by
  simp only [law07_RegMerges.j1]
  rw [if_neg (by simp), if_pos trivial, if_neg (by simp), if_pos trivial, if_pos ((eq_test z z).2 rfl), newer_k k hk, newer_irrefl]; rfl
theorem mj10 (k : Nat) (hk : 5 ≤ k) (y : Rg) (c0 c1 : ByteArray) (c2 c3 c4 : Int) : law07_RegMerges.j1 (k + 1) true true false false y.f0 y.f1 y.f2 y.f3.f0 y.f3.f1 y.f0 y.f1 y.f2 y.f3.f0 y.f3.f1 c0 c1 c2 c3 c4 = some true := by
  simp only [law07_RegMerges.j1]
  rw [if_neg (by simp), if_pos trivial, if_pos trivial, if_pos ((eq_test y y).2 rfl), newer_k k hk, newer_irrefl]; rfl
theorem mj11 (k : Nat) (hk : 5 ≤ k) (x y z : Rg) (hx : x = joinR y z) : law07_RegMerges.j1 (k + 1) true true true false x.f0 x.f1 x.f2 x.f3.f0 x.f3.f1 y.f0 y.f1 y.f2 y.f3.f0 y.f3.f1 z.f0 z.f1 z.f2 z.f3.f0 z.f3.f1 = some true := by
  simp only [law07_RegMerges.j1]
  rw [if_neg (by simp), if_pos trivial, if_pos trivial, newer_k k hk, newer_k k hk]
  cases hzy : newerB z y with
  | true =>
    have e : x = z := by rw [hx]; simp [joinR, hzy]
    have hne : x ≠ y := fun h => by rw [e] at h; rw [h, newer_irrefl] at hzy; cases hzy
    rw [if_neg (fun h => hne ((eq_test x y).1 h)), if_pos trivial, if_pos ((eq_test x z).2 e), e, newer_asymm hzy, newer_irrefl]
    rfl
  | false =>
    have e : x = y := by rw [hx]; simp [joinR, hzy]
    rw [if_pos ((eq_test x y).2 e), e, newer_irrefl, hzy]
    rfl
theorem merges_j1 (k : Nat) (hk : 5 ≤ k) (p q : Option Rg) :
    law07_RegMerges.j1 (k + 1) (getA (joinO p q)).2.2.2.2.2 (getA p).2.2.2.2.2 (getA q).2.2.2.2.2 false (getA (joinO p q)).1 (getA (joinO p q)).2.1 (getA (joinO p q)).2.2.1 (getA (joinO p q)).2.2.2.1 (getA (joinO p q)).2.2.2.2.1 (getA p).1 (getA p).2.1 (getA p).2.2.1 (getA p).2.2.2.1 (getA p).2.2.2.2.1 (getA q).1 (getA q).2.1 (getA q).2.2.1 (getA q).2.2.2.1 (getA q).2.2.2.2.1 = some true := by
  match p, q with
  | none, none => exact mj00 k _ _ _ _ _ _ _ _ _ _ _ _ _ _ _ _ _
  | none, some z => exact mj01 k hk z _ _ _ _ _
  | some y, none => exact mj10 k hk y _ _ _ _ _
  | some y, some z => exact mj11 k hk (joinR y z) y z rfl
theorem merges_j (k : Nat) (hk : 900 ≤ k) (a b c : List Rg) (key : ByteArray) (big : Bool) (ha : fewB a = true) (hb : fewB b = true) (hc : fewB c = true) (ma : mayB a = true) (mb : mayB b = true) (mc : mayB c = true) : law07_RegMerges.j0 (k + 1 + 1) a b c key true big = some true := by
  cases big with
  | true => exact merges_true (k + 1) a b c key
  | false =>
    have la := few_len ha
    have lb := few_len hb
    have lc := few_len hc
    have sa := few_all ha
    have sb := few_all hb
    have sc := few_all hc
    have lm := mergeO_len a b
    have lbc := mergeO_len b c
    have lmc := mergeO_len (mergeO a b) c
    have sm := mergeO_small sa sb
    have sbc := mergeO_small sb sc
    have mm := fold_up ma mb
    have mbc := fold_up mb mc
    have ka := fun q => getR_keyed a q
    have kb := fun q => getR_keyed b q
    have kc := fun q => getR_keyed c q
    have e1 : mergeO b a = mergeO a b := same_of (fold_up mb ma) mm fun q => by
      rw [getR_mergeO mb ma, getR_mergeO ma mb, joinO_comm (kb q) (ka q)]
    have e2 : mergeO (mergeO a b) b = mergeO a b := same_of (fold_up mm mb) mm fun q => by
      rw [getR_mergeO mm mb, getR_mergeO ma mb, joinO_assoc (ka q) (kb q), joinO_idem]
    have e3 : mergeO a (mergeO b c) = mergeO (mergeO a b) c := same_of (fold_up ma mbc) (fold_up mm mc) fun q => by
      rw [getR_mergeO ma mbc, getR_mergeO mb mc, getR_mergeO mm mc, getR_mergeO ma mb, joinO_assoc (ka q) (kb q)]
    have e4 : mergeO a a = a := same_of (fold_up ma ma) ma fun q => by
      rw [getR_mergeO ma ma, joinO_idem]
    have f1 := merge_f (k + 1) a b (by omega) (by omega) (by omega) (by omega) (ok_all sa) (ok_all sb)
    have f2 := merge_f (k + 1) b a (by omega) (by omega) (by omega) (by omega) (ok_all sb) (ok_all sa)
    have f3 := merge_f (k + 1) (mergeO a b) b (by omega) (by omega) (by omega) (by omega) (ok_all sm) (ok_all sb)
    have f4 := merge_f (k + 1) (mergeO a b) c (by omega) (by omega) (by omega) (by omega) (ok_all sm) (ok_all sc)
    have f5 := merge_f (k + 1) b c (by omega) (by omega) (by omega) (by omega) (ok_all sb) (ok_all sc)
    have f6 := merge_f (k + 1) a (mergeO b c) (by omega) (by omega) (by omega) (by omega) (ok_all sa) (ok_all sbc)
    have f7 := merge_f (k + 1) a a (by omega) (by omega) (by omega) (by omega) (ok_all sa) (ok_all sa)
    rw [e1] at f2
    rw [e2] at f3
    rw [e3] at f6
    rw [e4] at f7
    have hgm : getR (mergeO a b) key = joinO (getR a key) (getR b key) := getR_mergeO ma mb key
    have j1 := merges_j1 k (by omega) (getR a key) (getR b key)
    simp only [law07_RegMerges.j0]
    rw [if_neg (by simp), f1]
    simp only [Option.bind_some]
    rw [f2]
    simp only [Option.bind_some]
    rw [sameRef_f (k + 1) _ (by omega) (by omega), f3]
    simp only [Option.bind_some]
    rw [sameRef_f (k + 1) _ (by omega) (by omega), f4]
    simp only [Option.bind_some]
    rw [f5]
    simp only [Option.bind_some]
    rw [f6]
    simp only [Option.bind_some]
    rw [sameRef_f (k + 1) _ (by omega) (by omega), f7]
    simp only [Option.bind_some]
    rw [sameRef_f (k + 1) a (by omega) (by omega), get_f, get_f, get_f, may_f (k + 1) (mergeO a b) (by omega) (by omega) (ok_all sm), mm, hgm]
    simp only [Option.bind_some, if_true]
    have hp : (getA (getR a key)).2.2.2.2.2 = true → ((getA (joinO (getR a key) (getR b key))).2.2.2.2.2 != true) = false := by
      cases getR a key with
      | none => intro h; cases h
      | some y => cases getR b key <;> (intro; rfl)
    have hq : ¬ (getA (getR a key)).2.2.2.2.2 = true → ((getA (joinO (getR a key) (getR b key))).2.2.2.2.2 != (getA (getR b key)).2.2.2.2.2) = false := by
      cases getR a key with
      | none => intro _; cases getR b key <;> rfl
      | some y => intro h; exact absurd rfl h
    split
    · rename_i h; rw [hp h]; exact j1
    · rename_i h; rw [hq h]; exact j1
theorem regMerges_pure' (k : Nat) (hk : 900 ≤ k) (a b c : List Rg) (key : ByteArray) : law07_RegMerges.f (k + 1 + 1) a b c key = some true := by
  have ht := merges_true (k + 1) a b c key
  unfold law07_RegMerges.f
  rw [awake_k _ (by omega), few_f _ a (by omega), few_f _ b (by omega), few_f _ c (by omega)]
  simp only [Option.bind_some, if_true]
  cases h1 : fewB a with
  | false => exact ht
  | true =>
    cases h2 : fewB b with
    | false => exact ht
    | true =>
      cases h3 : fewB c with
      | false => exact ht
      | true =>
        have la := few_len h1
        have lb := few_len h2
        have lc := few_len h3
        rw [may_f _ a (by omega) (by omega) (ok_all (few_all h1)), may_f _ b (by omega) (by omega) (ok_all (few_all h2)), may_f _ c (by omega) (by omega) (ok_all (few_all h3))]
        simp only [Option.bind_some, if_true]
        cases h4 : mayB a with
        | false => exact ht
        | true =>
          cases h5 : mayB b with
          | false => exact ht
          | true =>
            cases h6 : mayB c with
            | false => exact ht
            | true => exact merges_j k hk a b c key _ h1 h2 h3 h4 h5 h6
theorem regMerges_pure (l0 l1 l2 : List S26) (a3 : ByteArray) (_h0 : ∀ x ∈ l0, okReg x) (_h1 : ∀ x ∈ l1, okReg x) (_h2 : ∀ x ∈ l2, okReg x) (_h3 : a3.size ≤ maxLen) :
    ∃ k, law07_RegMerges.f k l0 l1 l2 a3 = some true := ⟨900 + 1 + 1, regMerges_pure' 900 (Nat.le_refl _) l0 l1 l2 a3⟩
end Go.Proofs.Ytannmdngejdjkaa.L
