/- Counts: what the printed functions come to, with rounds enough. Plain. -/
import Derived.Test.YtannmdngejdjkaaLPCtrLaws
import Derived.Test.YtannmdngejdjkaaLPKey
import Derived.Test.YtannmdngejdjkaaLx22
import Derived.Test.YtannmdngejdjkaaLx23
import Derived.Test.YtannmdngejdjkaaLx20
namespace Go.Proofs.Ytannmdngejdjkaa.L
open Go.RowKit Go.Proofs.YtannmdngejdjkaaW.PrintWords Go.Proofs.YtannmdngejdjkaaW.PrintLast Go.Proofs.YtannmdngejdjkaaW.PrintMore Go.Proofs.YtannmdngejdjkaaW
set_option linter.unusedVariables false
set_option linter.unusedSimpArgs false
theorem monoC_up {α : Type} {f : Nat → Option α} (hm : ∀ k, LeO (f k) (f (k + 1))) {n : Nat} {r : α} (h : f n = some r) : ∀ k, n ≤ k → f k = some r := by
  intro k hk
  obtain ⟨d, rfl⟩ := Nat.exists_eq_add_of_le hk
  clear hk
  induction d with
  | zero => exact h
  | succ d ih => exact hm _ _ ih
theorem awakeC_12 : law06_awake.f 12 = some true := by decide +kernel
theorem awakeC_k (k : Nat) (hk : 12 ≤ k) : law06_awake.f k = some true := monoC_up law06_awake.mono awakeC_12 k hk
def fewC (l : List Ct) : Bool := decide (l.length ≤ 30) && l.all (fun x => decide (x.f0.size ≤ 100))
theorem fewC_loop : ∀ (suf pre : List Ct) (k : Nat), suf.length < k → (pre ++ suf).length < 4611686018427387904 →
    law06_Few.l0 k (pre ++ suf) ((pre.length : Nat) : Int) = some (suf.all (fun x => decide (x.f0.size ≤ 100)))
  | suf, pre, 0, hk, _ => by omega
  | [], pre, k + 1, _, _ => by
    simp only [law06_Few.l0]
    rw [if_neg (by simp)]
    rfl
  | x :: suf, pre, k + 1, hk, hl => by
    have hlt : ((pre.length : Nat) : Int) < (((pre ++ x :: suf).length : Nat) : Int) := by simp; omega
    have hpl : pre.length < 4611686018427387904 := by simp at hl; omega
    have ih := fewC_loop suf (pre ++ [x]) k (by simp at hk; omega) (by simpa using hl)
    rw [appS, lenS] at ih
    simp only [law06_Few.l0]
    rw [if_pos hlt, if_pos (by omega), rdC_mid, wrapS hpl, ih, List.all_cons]
    by_cases h1 : x.f0.size ≤ 100
    · rw [if_neg (by omega)]; simp [h1]
    · rw [if_pos (by omega)]; simp [h1]
theorem fewC_f (k : Nat) (l : List Ct) (hk : 31 < k) : law06_Few.f k l = some (fewC l) := by
  unfold law06_Few.f fewC
  by_cases h : l.length ≤ 30
  · rw [if_neg (by omega)]
    have := fewC_loop l [] k (by omega) (by simp; omega)
    simp only [List.nil_append, List.length_nil] at this
    rw [show ((0 : Nat) : Int) = 0 from rfl] at this
    rw [this]; simp [h]
  · rw [if_pos (by omega)]; simp [h]
theorem fewC_len {l : List Ct} (h : fewC l = true) : l.length ≤ 30 := by
  unfold fewC at h; simp at h; exact h.1
def kS (l : List Ct) : Prop := ∀ x ∈ l, x.f0.size ≤ 100
theorem fewC_size {l : List Ct} (h : fewC l = true) : kS l := by
  unfold fewC at h; simp at h
  intro x hx
  exact h.2 x hx
theorem kS_small {l : List Ct} (h : kS l) : ∀ x ∈ l, kSmall x.f0 = true := fun x hx => by
  have := h x hx
  unfold kSmall; simp; omega
theorem smallC_of {l : List Ct} (h : kS l) (hl : l.length ≤ 1000) : smallC l = true := by
  unfold smallC
  simp only [Bool.and_eq_true, decide_eq_true_eq, List.all_eq_true]
  exact ⟨by omega, kS_small h⟩
theorem may_kS {l : List Ct} (h : mayC l = true) : kS l := fun x hx => by have := key_size (may_keys h x hx); omega
theorem inc_f {l : List Ct} {k : ByteArray} (n : Int) (h : kS l) (hl : l.length ≤ 1000) (hk : k.size ≤ 140737488351232) : ctr_Inc.f l k n = some (incO l k n) := by
  unfold ctr_Inc.f
  rw [if_pos ⟨smallC_of h hl, by unfold kSmall; simpa using hk⟩]
theorem mergeC_f {a b c : List Ct} (ha : kS a) (hb : kS b) (hc : kS c) (la : a.length ≤ 1000) (lb : b.length ≤ 1000) (lc : c.length ≤ 1000) : ctr_Merge.f a b c = some (mergeC a b c) := by
  unfold ctr_Merge.f
  rw [if_pos ⟨smallC_of ha la, smallC_of hb lb, smallC_of hc lc⟩]
theorem incO_len (l : List Ct) (k : ByteArray) (n : Int) : (incO l k n).length ≤ l.length + 1 := by
  unfold incO
  split
  · have h1 : (outM (incM (addM 1 [] l) k n)).length ≤ (incM (addM 1 [] l) k n).length := List.length_filterMap_le _ _
    have h2 := setM_len (addM 1 [] l) k (wrap64 (getM (addM 1 [] l) k + n))
    have h3 := addM_len 1 l []
    unfold incM at h1 ⊢
    simp only [List.length_nil] at h3
    omega
  · simp
theorem mergeC_len (a b c : List Ct) : (mergeC a b c).length ≤ a.length + b.length + c.length := by
  unfold mergeC
  split
  · have h0 : (outM (addM (-1) (addM 1 (addM 1 [] b) c) a)).length ≤ (addM (-1) (addM 1 (addM 1 [] b) c) a).length := List.length_filterMap_le _ _
    have h1 := addM_len 1 b []
    have h2 := addM_len 1 c (addM 1 [] b)
    have h3 := addM_len (-1) a (addM 1 (addM 1 [] b) c)
    simp only [List.length_nil] at h1
    omega
  · simp
theorem incO_kS (l : List Ct) (k : ByteArray) (n : Int) : kS (incO l k n) := by
  cases h : mayC l && keyB k.data.toList with
  | false =>
    have : incO l k n = [] := by unfold incO; rw [h]; rfl
    rw [this]; intro x hx; cases hx
  | true =>
    simp only [Bool.and_eq_true] at h
    exact may_kS (may_inc h.1 h.2)
theorem mergeC_kS (a b c : List Ct) : kS (mergeC a b c) := by
  cases h : mayC a && (mayC b && mayC c) with
  | false =>
    have : mergeC a b c = [] := by unfold mergeC; rw [h]; rfl
    rw [this]; intro x hx; cases hx
  | true =>
    simp only [Bool.and_eq_true] at h
    exact may_kS (may_merge h.1 h.2.1 h.2.2)
theorem sameC_loop : ∀ (suf pre : List Ct) (k : Nat), suf.length < k → (pre ++ suf).length < 4611686018427387904 → ref06_Same.l0 k (pre ++ suf) (pre ++ suf) ((pre.length : Nat) : Int) = some true
  | suf, pre, 0, hk, _ => by omega
  | [], pre, k + 1, _, _ => by
    simp only [ref06_Same.l0]
    rw [if_neg (by simp)]
  | x :: suf, pre, k + 1, hk, hl => by
    have hlt : ((pre.length : Nat) : Int) < (((pre ++ x :: suf).length : Nat) : Int) := by simp; omega
    have hpl : pre.length < 4611686018427387904 := by simp at hl; omega
    have ih := sameC_loop suf (pre ++ [x]) k (by simp at hk; omega) (by simpa using hl)
    rw [appS, lenS] at ih
    simp only [ref06_Same.l0]
    rw [if_pos hlt, if_pos (by omega), if_pos hlt, wrapS hpl, ih]
    simp
theorem sameC_f (k : Nat) (l : List Ct) (hk : l.length < k) (hl : l.length < 1000000) : ref06_Same.f k l l = some true := by
  have := sameC_loop l [] k hk (by simp; omega)
  simpa [ref06_Same.f] using this
theorem sameC_eq (k : Nat) {l m : List Ct} (e : l = m) (hk : m.length < k) (hl : m.length < 1000000) : ref06_Same.f k l m = some true := by
  rw [e]; exact sameC_f k m hk hl
theorem mayCk (k : Nat) (l : List Ct) (hk : l.length < k) (hl : l.length ≤ 1000) (h : kS l) : ctr_May.f k l = some (mayC l) := mayC_f k l hk (by omega) (kS_small h)
def inL (l : List Ct) : Prop := ∀ x ∈ l, inR x.f1
theorem getC_in {l : List Ct} (h : inL l) (k : ByteArray) : inR (getC l k) := by
  induction l with
  | nil => unfold getC inR; omega
  | cons x l ih =>
    rw [getC_cons]
    split
    · exact h x List.mem_cons_self
    · exact ih fun y hy => h y (List.mem_cons_of_mem _ hy)
end Go.Proofs.Ytannmdngejdjkaa.L
