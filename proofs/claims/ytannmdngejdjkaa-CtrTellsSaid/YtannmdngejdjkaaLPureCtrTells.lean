/- CtrTells, plain: it answers true. -/
import Derived.Test.YtannmdngejdjkaaLPCtrRef
import Derived.Test.YtannmdngejdjkaaLHRow
import Derived.Test.YtannmdngejdjkaaLx26
namespace Go.Proofs.Ytannmdngejdjkaa.L
open Go.RowKit Go.Proofs.YtannmdngejdjkaaW.PrintWords Go.Proofs.YtannmdngejdjkaaW.PrintLast Go.Proofs.YtannmdngejdjkaaW.PrintMore Go.Proofs.YtannmdngejdjkaaW
set_option linter.unusedVariables false
theorem tellsC_true (k : Nat) (l a b : List Ct) (key : ByteArray) (n : Int) : law06_CtrTells.j0 (k + 1) l a b key n true true = some true := by
  simp only [law06_CtrTells.j0]; rfl
/-- the document's Inc is the program's -/
theorem incD_f (k : Nat) (l : List Ct) (key : ByteArray) (n : Int) (hk : 300 < k) (hl : l.length ≤ 30) (hs : kS l) (hkey : key.size ≤ 100) (il : inL l) : ref06_Inc.f k l key n = some (incO l key n) := by
  unfold ref06_Inc.f
  rw [mayD_f k l (by omega) (by omega) hs, keyD_f key k (by omega) (by omega)]
  simp only [Option.bind_some]
  obtain ⟨j, rfl⟩ : ∃ j, k = j + 1 := ⟨k - 1, by omega⟩
  cases h1 : mayC l with
  | false =>
    have e : incO l key n = [] := by unfold incO; rw [h1]; rfl
    rw [e]
    simp [ref06_Inc.j0]
  | true =>
    cases h2 : keyB key.data.toList with
    | false =>
      have e : incO l key n = [] := by unfold incO; rw [h2, Bool.and_false]; rfl
      rw [e]
      simp [ref06_Inc.j0]
    | true =>
      simp only [if_true, ref06_Inc.j0, Bool.not_true, Bool.false_eq_true, if_false]
      rw [getD_f j l key (by omega) (by omega), Option.bind_some, putD_f j l key _ (by omega) (by omega) (may_up h1), Option.bind_some]
      congr 1
      refine same_may (may_putC _ h1 h2) (may_inc h1 h2) fun q => ?_
      rw [getC_put l key q _ (may_up h1), get_inc h1 h2]
      by_cases hq : q = key
      · rw [if_pos hq, if_pos hq]
      · rw [if_neg hq, if_neg hq, wrap_id (getC_in il q)]
def valD (base a b : List Ct) (q : ByteArray) : Int := wrap64 (wrap64 (getC a q + getC b q) - getC base q)
theorem mergeD_loop (base a b : List Ct) : ∀ (suf pre out : List Ct) (k : Nat), 3 * suf.length + 2 * out.length + base.length + a.length + b.length + 20 < k → (pre ++ suf).length < 4611686018427387904 → out.length + suf.length < 900 → mayC out = true → (∀ x ∈ suf, keyB x.f0.data.toList = true) →
    base.length < 1000 → a.length < 1000 → b.length < 1000 →
    ref06_Merge.l0 k base a b (pre ++ suf) out ((pre.length : Nat) : Int) = some (suf.foldl (fun o x => putC o x.f0 (valD base a b x.f0)) out)
  | suf, pre, out, 0, hk, _, _, _, _, _, _, _ => by omega
  | [], pre, out, k + 1, _, _, _, _, _, _, _, _ => by
    simp only [ref06_Merge.l0]
    rw [if_neg (by simp)]
    rfl
  | x :: suf, pre, out, k + 1, hk, hl, ho, hm, hs, l1, l2, l3 => by
    have hlt : ((pre.length : Nat) : Int) < (((pre ++ x :: suf).length : Nat) : Int) := by simp; omega
    have hpl : pre.length < 4611686018427387904 := by simp at hl; omega
    simp only [List.length_cons] at hk ho
    have hlen := putC_len out x.f0 (valD base a b x.f0)
    have ih := mergeD_loop base a b suf (pre ++ [x]) (putC out x.f0 (valD base a b x.f0)) k (by omega) (by simpa using hl) (by omega) (may_putC _ hm (hs x List.mem_cons_self)) (fun y hy => hs y (List.mem_cons_of_mem _ hy)) l1 l2 l3
    rw [appS, lenS] at ih
    simp only [ref06_Merge.l0]
    rw [if_pos hlt, if_pos (by omega), rdC_mid, getD_f k a _ (by omega) (by omega), getD_f k b _ (by omega) (by omega), getD_f k base _ (by omega) (by omega)]
    simp only [Option.bind_some]
    rw [show wrap64 (wrap64 (getC a x.f0 + getC b x.f0) - getC base x.f0) = valD base a b x.f0 from rfl, putD_f k out _ _ (by omega) (by omega) (may_up hm), Option.bind_some, wrapS hpl]
    exact ih
theorem foldD_may (base a b : List Ct) : ∀ (suf out : List Ct), mayC out = true → (∀ x ∈ suf, keyB x.f0.data.toList = true) → mayC (suf.foldl (fun o x => putC o x.f0 (valD base a b x.f0)) out) = true
  | [], out, h, _ => h
  | x :: suf, out, h, hs => foldD_may base a b suf _ (may_putC _ h (hs x List.mem_cons_self)) (fun y hy => hs y (List.mem_cons_of_mem _ hy))
theorem foldD_get (base a b : List Ct) (q : ByteArray) : ∀ (suf out : List Ct), mayC out = true → (∀ x ∈ suf, keyB x.f0.data.toList = true) → (getC out q = valD base a b q ∨ (∃ x ∈ suf, x.f0 = q) ∨ (getC out q = 0 ∧ valD base a b q = 0)) → getC (suf.foldl (fun o x => putC o x.f0 (valD base a b x.f0)) out) q = valD base a b q
  | [], out, h, _, hc => by
    rcases hc with h1 | ⟨x, hx, _⟩ | ⟨h1, h2⟩
    · exact h1
    · cases hx
    · show getC out q = _
      rw [h1, h2]
  | x :: suf, out, h, hs, hc => by
    refine foldD_get base a b q suf _ (may_putC _ h (hs x List.mem_cons_self)) (fun y hy => hs y (List.mem_cons_of_mem _ hy)) ?_
    rw [getC_put out x.f0 q _ (may_up h)]
    by_cases hq : q = x.f0
    · rw [if_pos hq, hq]; exact .inl rfl
    · rw [if_neg hq]
      rcases hc with h1 | ⟨y, hy, hyq⟩ | h1
      · exact .inl h1
      · rcases List.mem_cons.1 hy with rfl | hy
        · exact absurd hyq.symm hq
        · exact .inr (.inl ⟨y, hy, hyq⟩)
      · exact .inr (.inr h1)
theorem mergeD_f (k : Nat) (base a b : List Ct) (hk : 800 < k) (l0 : base.length ≤ 30) (l1 : a.length ≤ 30) (l2 : b.length ≤ 30) (s0 : kS base) (s1 : kS a) (s2 : kS b) : ref06_Merge.f k base a b = some (mergeC base a b) := by
  unfold ref06_Merge.f
  rw [mayD_f k base (by omega) (by omega) s0, mayD_f k a (by omega) (by omega) s1, mayD_f k b (by omega) (by omega) s2]
  simp only [Option.bind_some]
  obtain ⟨j, rfl⟩ : ∃ j, k = j + 1 := ⟨k - 1, by omega⟩
  cases h0 : mayC base with
  | false =>
    have e : mergeC base a b = [] := by unfold mergeC; rw [h0]; rfl
    rw [e]; simp [ref06_Merge.j0]
  | true =>
    cases h1 : mayC a with
    | false =>
      have e : mergeC base a b = [] := by unfold mergeC; rw [h1, Bool.false_and, Bool.and_false]; rfl
      rw [e]; simp [ref06_Merge.j0]
    | true =>
      cases h2 : mayC b with
      | false =>
        have e : mergeC base a b = [] := by unfold mergeC; rw [h2, Bool.and_false, Bool.and_false]; rfl
        rw [e]; simp [ref06_Merge.j0]
      | true =>
        simp only [if_true, ref06_Merge.j0, Bool.not_true, Bool.false_eq_true, if_false, List.nil_append, List.length_nil, Nat.zero_add]
        rw [if_pos (by omega), Option.bind_some, if_pos (by omega), Option.bind_some, if_pos (by rw [List.length_append]; omega)]
        have hk3 : ∀ x ∈ base ++ a ++ b, keyB x.f0.data.toList = true := fun x hx => by
          rcases List.mem_append.1 hx with hx | hx
          · rcases List.mem_append.1 hx with hx | hx
            · exact may_keys h0 x hx
            · exact may_keys h1 x hx
          · exact may_keys h2 x hx
        have hl3 : (base ++ a ++ b).length = base.length + a.length + b.length := by simp [Nat.add_assoc]
        have := mergeD_loop base a b (base ++ a ++ b) [] [] j (by rw [hl3]; simp; omega) (by simp; omega) (by rw [hl3]; simp; omega) rfl hk3 (by omega) (by omega) (by omega)
        simp only [List.nil_append, List.length_nil] at this
        rw [show ((0 : Nat) : Int) = 0 from rfl] at this
        rw [this]
        congr 1
        refine same_may (foldD_may base a b _ [] rfl hk3) (may_merge h0 h1 h2) fun q => ?_
        rw [get_merge h0 h1 h2, foldD_get base a b q (base ++ a ++ b) [] rfl hk3, valD, wrap_sl]
        by_cases hq : ∃ x ∈ base ++ a ++ b, x.f0 = q
        · exact .inr (.inl hq)
        · have hn : ∀ l : List Ct, (∀ x ∈ l, x ∈ base ++ a ++ b) → getC l q = 0 := fun l hl => getC_none fun x hx e => hq ⟨x, hl x hx, e⟩
          refine .inr (.inr ⟨rfl, ?_⟩)
          unfold valD
          rw [hn a (fun x hx => by simp [hx]), hn b (fun x hx => by simp [hx]), hn base (fun x hx => by simp [hx])]
          unfold wrap64; omega
theorem tellsC_j (k : Nat) (hk : 900 ≤ k) (l a b : List Ct) (key : ByteArray) (n : Int) (hs : key.size ≤ 100) (fl : fewC l = true) (fa : fewC a = true) (fb : fewC b = true) (ia : inL a) : law06_CtrTells.j0 (k + 1) l a b key n true false = some true := by
  have ll := fewC_len fl
  have la := fewC_len fa
  have lb := fewC_len fb
  have l1 := incO_len a key n
  have l2 := mergeC_len l a b
  simp only [law06_CtrTells.j0]
  rw [if_neg (by simp), mayD_f k a (by omega) (by omega) (fewC_size fa), inc_f n (fewC_size fa) (by omega) (by omega), incD_f k a key n (by omega) la (fewC_size fa) hs ia]
  simp only [Option.bind_some]
  rw [sameC_f k _ (by omega) (by omega), mergeC_f (fewC_size fl) (fewC_size fa) (fewC_size fb) (by omega) (by omega) (by omega), mergeD_f k l a b (by omega) ll la lb (fewC_size fl) (fewC_size fa) (fewC_size fb)]
  simp only [Option.bind_some]
  rw [sameC_f k _ (by omega) (by omega), mayCk k a (by omega) (by omega) (fewC_size fa), getC_f, getD_f k a key (by omega) (by omega)]
  simp
theorem ctrTells_pure' (k : Nat) (hk : 900 ≤ k) (l a b : List Ct) (key : ByteArray) (n : Int) (ia : inL a) : law06_CtrTells.f (k + 1) l a b key n = some true := by
  have ht := tellsC_true k l a b key n
  unfold law06_CtrTells.f
  rw [awakeC_k _ (by omega), fewC_f _ l (by omega), fewC_f _ a (by omega), fewC_f _ b (by omega)]
  simp only [Option.bind_some, if_true]
  cases h1 : fewC l with
  | false => exact ht
  | true =>
    cases h2 : fewC a with
    | false => exact ht
    | true =>
      cases h3 : fewC b with
      | false => exact ht
      | true =>
        simp only [if_true]
        by_cases hs : key.size ≤ 100
        · rw [show decide ((key.size : Int) > 100) = false from decide_eq_false (by omega)]
          exact tellsC_j k hk l a b key n hs h1 h2 h3 ia
        · rw [show decide ((key.size : Int) > 100) = true from decide_eq_true (by omega)]
          exact ht
theorem ctrTells_pure (l0 l1 l2 : List S53) (a3 : ByteArray) (a4 : Int) (_h0 : ∀ x ∈ l0, okCtr x) (h1 : ∀ x ∈ l1, okCtr x) (_h2 : ∀ x ∈ l2, okCtr x) (_h3 : a3.size ≤ maxLen) (_h4 : okI a4) :
    ∃ k, law06_CtrTells.f k l0 l1 l2 a3 a4 = some true := ⟨900 + 1, ctrTells_pure' 900 (Nat.le_refl _) l0 l1 l2 a3 a4 (fun x hx => (h1 x hx).2)⟩
end Go.Proofs.Ytannmdngejdjkaa.L
