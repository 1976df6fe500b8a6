/- Several of the walk's texts in one: SPC, Sx15, Sx21, SPR. -/
import Derived.Test.YtmcddoolniaehaaGreatMK03
import Derived.Test.YtmcddoolniaehaaGreatMK04
import Derived.Test.YtmcddoolniaehaaGreatMK10
import Derived.Test.YtmcddoolniaehaaGreatMK12
import Derived.Test.YtmcddoolniaehaaGreatMK13
import Derived.Test.YtmcddoolniaehaaGreatMK16
section
namespace Go.Proofs.YtmcddoolniaehaaGreat.S
open Go.RowKit Go.Proofs.YtmcddoolniaehaaGreatW.PrintWords Go.Proofs.YtmcddoolniaehaaGreatW.PrintLast Go.Proofs.YtmcddoolniaehaaGreatW.PrintMore Go.Proofs.YtmcddoolniaehaaGreatW
set_option linter.unusedVariables false
set_option linter.unusedSimpArgs false
theorem key_size {a : ByteArray} (h : keyB a.data.toList = true) : a.size ≤ 8 := by
  unfold keyB at h
  simp at h
  exact h.2.2
def getC : List Ct → ByteArray → Int
  | [], _ => 0
  | x :: l, k => if x.f0 = k then x.f1 else getC l k
theorem getC_cons (x : Ct) (l : List Ct) (k : ByteArray) : getC (x :: l) k = if x.f0 = k then x.f1 else getC l k := rfl
theorem ctrKey_iff {key : ByteArray} {x : Ct} : ctrKey key x = true ↔ x.f0 = key := by
  unfold ctrKey; rw [beq_iff_eq]
  exact ⟨toList_inj, fun h => by rw [h]⟩
theorem getC_f : ∀ (l : List Ct) (key : ByteArray), ctr_Get.f l key = some (getC l key)
  | [], key => rfl
  | x :: l, key => by
    have ih := getC_f l key
    unfold ctr_Get.f at ih ⊢
    rw [List.find?_cons]
    unfold getC
    by_cases h : x.f0 = key
    · rw [if_pos h, ctrKey_iff.2 h]
    · rw [if_neg h, show ctrKey key x = false from Bool.eq_false_iff.2 fun e => h (ctrKey_iff.1 e)]
      exact ih
def inR (n : Int) : Prop := -9223372036854775808 ≤ n ∧ n ≤ 9223372036854775807
theorem wrap_in (n : Int) : inR (wrap64 n) := by unfold inR wrap64; omega
theorem wrap_id {n : Int} (h : inR n) : wrap64 n = n := by unfold inR at h; unfold wrap64; omega
theorem wrap_l (a b : Int) : wrap64 (wrap64 a + b) = wrap64 (a + b) := by unfold wrap64; omega
theorem wrap_r (a b : Int) : wrap64 (a + wrap64 b) = wrap64 (a + b) := by unfold wrap64; omega
theorem wrap_sl (a b : Int) : wrap64 (wrap64 a - b) = wrap64 (a - b) := by unfold wrap64; omega
theorem wrap_n (a : Int) : wrap64 (-wrap64 a) = wrap64 (-a) := by unfold wrap64; omega
theorem cLt_ne {x y : Ct} (h : cLt x y) : x.f0 ≠ y.f0 := by
  intro e
  unfold cLt at h
  rw [e, less_irrefl] at h; cases h
theorem getC_none {l : List Ct} {k : ByteArray} (h : ∀ x ∈ l, x.f0 ≠ k) : getC l k = 0 := by
  induction l with
  | nil => rfl
  | cons x l ih =>
    unfold getC
    rw [if_neg (h x List.mem_cons_self)]
    exact ih fun y hy => h y (List.mem_cons_of_mem _ hy)
theorem getC_mem {l : List Ct} {k : ByteArray} (h : getC l k ≠ 0) : ∃ x ∈ l, x.f0 = k ∧ x.f1 = getC l k := by
  induction l with
  | nil => exact absurd rfl h
  | cons x l ih =>
    unfold getC at h ⊢
    by_cases e : x.f0 = k
    · rw [if_pos e]; exact ⟨x, List.mem_cons_self, e, rfl⟩
    · rw [if_neg e] at h ⊢
      obtain ⟨y, hy, h1, h2⟩ := ih h
      exact ⟨y, List.mem_cons_of_mem _ hy, h1, h2⟩
theorem getC_head (x : Ct) (l : List Ct) : getC (x :: l) x.f0 = x.f1 := by unfold getC; rw [if_pos rfl]
theorem ctr_same : ∀ (l m : List Ct), l.Pairwise cLt → m.Pairwise cLt → (∀ x ∈ l, x.f1 ≠ 0) → (∀ x ∈ m, x.f1 ≠ 0) → (∀ k, getC l k = getC m k) → l = m
  | [], [], _, _, _, _, _ => rfl
  | [], y :: m, _, _, _, hz, h => by have := h y.f0; rw [getC_head] at this; exact absurd this.symm (hz y List.mem_cons_self)
  | x :: l, [], _, _, hz, _, h => by have := h x.f0; rw [getC_head] at this; exact absurd this (hz x List.mem_cons_self)
  | x :: l, y :: m, hl, hm, zl, zm, h => by
    rw [List.pairwise_cons] at hl hm
    have hxy : x = y := by
      have h1 := h x.f0
      rw [getC_head] at h1
      have z1 := zl x List.mem_cons_self
      obtain ⟨a, ha, a1, a2⟩ := getC_mem (l := y :: m) (k := x.f0) (by rw [← h1]; exact z1)
      have h2 := h y.f0
      rw [getC_head] at h2
      have z2 := zm y List.mem_cons_self
      obtain ⟨b, hb, b1, b2⟩ := getC_mem (l := x :: l) (k := y.f0) (by rw [h2]; exact z2)
      have hk : x.f0 = y.f0 := by
        rcases List.mem_cons.1 ha with rfl | ha
        · exact a1.symm
        · rcases List.mem_cons.1 hb with rfl | hb
          · exact b1
          · have c1 := hm.1 a ha
            have c2 := hl.1 b hb
            unfold cLt at c1 c2
            rw [a1] at c1; rw [b1] at c2
            rw [less_asymm c1] at c2; cases c2
      have hv : x.f1 = y.f1 := by rw [h1, hk, getC_head]
      cases x; cases y; simp_all
    subst hxy
    congr 1
    refine ctr_same l m hl.2 hm.2 (fun z hz => zl z (List.mem_cons_of_mem _ hz)) (fun z hz => zm z (List.mem_cons_of_mem _ hz)) fun k => ?_
    by_cases hk : x.f0 = k
    · rw [getC_none fun y hy e => cLt_ne (hl.1 y hy) (hk.trans e.symm), getC_none fun y hy e => cLt_ne (hm.1 y hy) (hk.trans e.symm)]
    · have := h k
      unfold getC at this
      rwa [if_neg hk, if_neg hk] at this
theorem getM_none {es : MapL} {k : ByteArray} (h : ∀ p ∈ es, p.1 ≠ k) : getM es k = 0 := by
  induction es with
  | nil => rfl
  | cons p l ih =>
    unfold getM
    rw [if_neg (h p List.mem_cons_self)]
    exact ih fun y hy => h y (List.mem_cons_of_mem _ hy)
theorem out_mem {es : MapL} {x : Ct} (h : x ∈ outM es) : (x.f0, x.f1) ∈ es ∧ x.f1 ≠ 0 := by
  unfold outM at h
  obtain ⟨p, hp, e⟩ := List.mem_filterMap.1 h
  by_cases hz : p.2 = 0
  · rw [if_pos hz] at e; cases e
  · rw [if_neg hz] at e
    cases e
    exact ⟨hp, hz⟩
theorem out_up : ∀ {es : MapL}, es.Pairwise mLt → (outM es).Pairwise cLt
  | [], _ => List.Pairwise.nil
  | p :: l, h => by
    rw [List.pairwise_cons] at h
    have ih := out_up h.2
    unfold outM at ih ⊢
    rw [List.filterMap_cons]
    by_cases hz : p.2 = 0
    · rw [if_pos hz]; exact ih
    · rw [if_neg hz]
      simp only [List.pairwise_cons]
      refine ⟨fun x hx => ?_, ih⟩
      have := (out_mem (es := l) hx).1
      exact h.1 _ this
theorem getC_out : ∀ (es : MapL) (k : ByteArray), es.Pairwise mLt → getC (outM es) k = getM es k
  | [], k, _ => rfl
  | p :: l, k, h => by
    rw [List.pairwise_cons] at h
    have ih := getC_out l k h.2
    have e : outM (p :: l) = if p.2 = 0 then outM l else ⟨p.1, p.2⟩ :: outM l := by
      unfold outM
      rw [List.filterMap_cons]
      by_cases hz : p.2 = 0 <;> simp [hz]
    rw [e]
    unfold getM
    by_cases hz : p.2 = 0
    · rw [if_pos hz, ih]
      by_cases hk : p.1 = k
      · rw [if_pos hk, hz, getM_none]
        intro q hq e2
        have := h.1 q hq
        unfold mLt at this
        rw [e2, ← hk, less_irrefl] at this; cases this
      · rw [if_neg hk]
    · rw [if_neg hz]
      unfold getC
      by_cases hk : p.1 = k
      · rw [if_pos hk, if_pos hk]
      · rw [if_neg hk, if_neg hk, ih]
theorem getM_inc (es : MapL) (k j : ByteArray) (n : Int) : getM (incM es k n) j = if j = k then wrap64 (getM es k + n) else getM es j := getM_set es k j _
theorem getM_in_inc {es : MapL} (h : ∀ k, inR (getM es k)) (k : ByteArray) (n : Int) : ∀ j, inR (getM (incM es k n) j) := fun j => by
  rw [getM_inc]
  split
  · exact wrap_in _
  · exact h j
theorem getM_in_add (t : Int) : ∀ (l : List Ct) (es : MapL), (∀ k, inR (getM es k)) → ∀ k, inR (getM (addM t es l) k)
  | [], es, h, k => h k
  | c :: l, es, h, k => getM_in_add t l _ (getM_in_inc h _ _) k
theorem getM_add (t : Int) : ∀ (l : List Ct) (es : MapL) (k : ByteArray), l.Pairwise cLt → (∀ k, inR (getM es k)) → getM (addM t es l) k = wrap64 (getM es k + t * getC l k)
  | [], es, k, _, h => by
    show getM es k = _
    unfold getC
    rw [Int.mul_zero, Int.add_zero, wrap_id (h k)]
  | c :: l, es, k, hp, h => by
    rw [List.pairwise_cons] at hp
    show getM (addM t (incM es c.f0 (wrap64 (t * c.f1))) l) k = _
    rw [getM_add t l _ k hp.2 (getM_in_inc h _ _), getM_inc, getC_cons]
    by_cases hk : k = c.f0
    · rw [if_pos hk, if_pos hk.symm, getC_none fun y hy e => cLt_ne (hp.1 y hy) (hk.symm.trans e.symm), hk]
      rw [Int.mul_zero, Int.add_zero, wrap_id (wrap_in _), wrap_r]
    · rw [if_neg hk, if_neg fun e => hk e.symm]
def KeysM (es : MapL) : Prop := ∀ p ∈ es, keyB p.1.data.toList = true
theorem keys_inc {es : MapL} (h : KeysM es) {k : ByteArray} (hk : keyB k.data.toList = true) (n : Int) : KeysM (incM es k n) := fun p hp => by
  rcases setM_mem hp with rfl | hp
  · exact hk
  · exact h p hp
theorem keys_add (t : Int) : ∀ (l : List Ct) {es : MapL}, KeysM es → (∀ x ∈ l, keyB x.f0.data.toList = true) → KeysM (addM t es l)
  | [], es, h, _ => h
  | c :: l, es, h, hl => keys_add t l (keys_inc h (hl c List.mem_cons_self) _) fun x hx => hl x (List.mem_cons_of_mem _ hx)
theorem may_out {es : MapL} (hu : es.Pairwise mLt) (hk : KeysM es) : mayC (outM es) = true := by
  rw [mayC_iff]
  refine ⟨fun x hx => ?_, out_up hu⟩
  obtain ⟨h1, h2⟩ := out_mem hx
  unfold oneC
  rw [hk _ h1]
  simp [h2]
theorem one_key {c : Ct} (h : oneC c = true) : keyB c.f0.data.toList = true := by unfold oneC at h; simp at h; exact h.1
theorem one_nz {c : Ct} (h : oneC c = true) : c.f1 ≠ 0 := by unfold oneC at h; simp at h; exact h.2
theorem may_keys {l : List Ct} (h : mayC l = true) : ∀ x ∈ l, keyB x.f0.data.toList = true := fun x hx => one_key (((mayC_iff l).1 h).1 x hx)
theorem may_nz {l : List Ct} (h : mayC l = true) : ∀ x ∈ l, x.f1 ≠ 0 := fun x hx => one_nz (((mayC_iff l).1 h).1 x hx)
theorem may_up {l : List Ct} (h : mayC l = true) : l.Pairwise cLt := ((mayC_iff l).1 h).2
theorem same_may {l m : List Ct} (h : mayC l = true) (g : mayC m = true) (e : ∀ k, getC l k = getC m k) : l = m := ctr_same l m (may_up h) (may_up g) (may_nz h) (may_nz g) e
theorem nil_in : ∀ k, inR (getM [] k) := fun k => by unfold getM inR; omega
theorem may_inc {l : List Ct} {k : ByteArray} {n : Int} (h : mayC l = true) (hk : keyB k.data.toList = true) : mayC (incO l k n) = true := by
  unfold incO
  rw [h, hk]
  exact may_out (incM_up _ _ (addM_up 1 l [] List.Pairwise.nil)) (keys_inc (keys_add 1 l (fun p hp => by cases hp) (may_keys h)) hk n)
theorem get_inc {l : List Ct} {k : ByteArray} {n : Int} (h : mayC l = true) (hk : keyB k.data.toList = true) (j : ByteArray) : getC (incO l k n) j = if j = k then wrap64 (getC l k + n) else wrap64 (getC l j) := by
  unfold incO
  rw [h, hk]
  simp only [Bool.and_self, if_true]
  rw [getC_out _ _ (incM_up _ _ (addM_up 1 l [] List.Pairwise.nil)), getM_inc]
  have e : ∀ i, getM (addM 1 [] l) i = wrap64 (getC l i) := fun i => by
    rw [getM_add 1 l [] i (may_up h) nil_in]
    unfold getM
    rw [Int.one_mul, Int.zero_add]
  rw [e, e, wrap_l]
theorem may_merge {base a b : List Ct} (h0 : mayC base = true) (h1 : mayC a = true) (h2 : mayC b = true) : mayC (mergeC base a b) = true := by
  unfold mergeC
  rw [h0, h1, h2]
  exact may_out (addM_up _ _ _ (addM_up _ _ _ (addM_up _ _ _ List.Pairwise.nil))) (keys_add _ _ (keys_add _ _ (keys_add _ _ (fun p hp => by cases hp) (may_keys h1)) (may_keys h2)) (may_keys h0))
theorem get_merge {base a b : List Ct} (h0 : mayC base = true) (h1 : mayC a = true) (h2 : mayC b = true) (k : ByteArray) : getC (mergeC base a b) k = wrap64 (getC a k + getC b k - getC base k) := by
  unfold mergeC
  rw [h0, h1, h2]
  simp only [Bool.and_self, if_true]
  have i1 := getM_in_add 1 a [] nil_in
  have i2 := getM_in_add 1 b _ i1
  rw [getC_out _ _ (addM_up _ _ _ (addM_up _ _ _ (addM_up _ _ _ List.Pairwise.nil))), getM_add (-1) base _ k (may_up h0) i2, getM_add 1 b _ k (may_up h2) i1, getM_add 1 a [] k (may_up h1) nil_in]
  unfold getM
  generalize getC a k = x
  generalize getC b k = y
  generalize getC base k = z
  unfold wrap64; omega
theorem monoC_up {α : Type} {f : Nat → Option α} (hm : ∀ k, LeO (f k) (f (k + 1))) {n : Nat} {r : α} (h : f n = some r) : ∀ k, n ≤ k → f k = some r := by
  intro k hk
  obtain ⟨d, rfl⟩ := Nat.exists_eq_add_of_le hk
  clear hk
  induction d with
  | zero => exact h
  | succ d ih => exact hm _ _ ih
def fewC (l : List Ct) : Bool := decide (l.length ≤ 30) && l.all (fun x => decide (x.f0.size ≤ 100))
theorem fewC_loop : ∀ (suf pre : List Ct) (k : Nat), suf.length < k → (pre ++ suf).length < 4611686018427387904 →
    law06_Few.l0 k (pre ++ suf) ((pre.length : Nat) : Int) = some (suf.all (fun x => decide (x.f0.size ≤ 100)))
  | suf, pre, 0, hk, _ => by omega
  | [], pre, k + 1, _, _ => by
    simp only [law06_Few.l0]
    rw [if_neg (by simp)]
    rfl
  | x :: suf, pre, k + 1, hk, hl => by
    have hlt : ((pre.length : Nat) : Int) < (((pre ++ x :: suf).length : Nat) : Int) := by simp; omega
    have hpl : pre.length < 4611686018427387904 := by simp at hl; omega
    have ih := fewC_loop suf (pre ++ [x]) k (by simp at hk; omega) (by simpa using hl)
    rw [appS, lenS] at ih
    simp only [law06_Few.l0]
    rw [if_pos hlt, if_pos (by omega), rdC_mid, wrapS hpl, ih, List.all_cons]
    by_cases h1 : x.f0.size ≤ 100
    · rw [if_neg (by omega)]; simp [h1]
    · rw [if_pos (by omega)]; simp [h1]
theorem fewC_f (k : Nat) (l : List Ct) (hk : 31 < k) : law06_Few.f k l = some (fewC l) := by
  unfold law06_Few.f fewC
  by_cases h : l.length ≤ 30
  · rw [if_neg (by omega)]
    have := fewC_loop l [] k (by omega) (by simp; omega)
    simp only [List.nil_append, List.length_nil] at this
    rw [show ((0 : Nat) : Int) = 0 from rfl] at this
    rw [this]; simp [h]
  · rw [if_pos (by omega)]; simp [h]
theorem fewC_len {l : List Ct} (h : fewC l = true) : l.length ≤ 30 := by
  unfold fewC at h; simp at h; exact h.1
def kS (l : List Ct) : Prop := ∀ x ∈ l, x.f0.size ≤ 100
theorem fewC_size {l : List Ct} (h : fewC l = true) : kS l := by
  unfold fewC at h; simp at h
  intro x hx
  exact h.2 x hx
theorem kS_small {l : List Ct} (h : kS l) : ∀ x ∈ l, kSmall x.f0 = true := fun x hx => by
  have := h x hx
  unfold kSmall; simp; omega
theorem smallC_of {l : List Ct} (h : kS l) (hl : l.length ≤ 1000) : smallC l = true := by
  unfold smallC
  simp only [Bool.and_eq_true, decide_eq_true_eq, List.all_eq_true]
  exact ⟨by omega, kS_small h⟩
theorem may_kS {l : List Ct} (h : mayC l = true) : kS l := fun x hx => by have := key_size (may_keys h x hx); omega
theorem inc_f {l : List Ct} {k : ByteArray} (n : Int) (h : kS l) (hl : l.length ≤ 1000) (hk : k.size ≤ 140737488351232) : ctr_Inc.f l k n = some (incO l k n) := by
  unfold ctr_Inc.f
  rw [if_pos ⟨smallC_of h hl, by unfold kSmall; simpa using hk⟩]
theorem mergeC_f {a b c : List Ct} (ha : kS a) (hb : kS b) (hc : kS c) (la : a.length ≤ 1000) (lb : b.length ≤ 1000) (lc : c.length ≤ 1000) : ctr_Merge.f a b c = some (mergeC a b c) := by
  unfold ctr_Merge.f
  rw [if_pos ⟨smallC_of ha la, smallC_of hb lb, smallC_of hc lc⟩]
theorem incO_len (l : List Ct) (k : ByteArray) (n : Int) : (incO l k n).length ≤ l.length + 1 := by
  unfold incO
  split
  · have h1 : (outM (incM (addM 1 [] l) k n)).length ≤ (incM (addM 1 [] l) k n).length := List.length_filterMap_le _ _
    have h2 := setM_len (addM 1 [] l) k (wrap64 (getM (addM 1 [] l) k + n))
    have h3 := addM_len 1 l []
    unfold incM at h1 ⊢
    simp only [List.length_nil] at h3
    omega
  · simp
theorem mergeC_len (a b c : List Ct) : (mergeC a b c).length ≤ a.length + b.length + c.length := by
  unfold mergeC
  split
  · have h0 : (outM (addM (-1) (addM 1 (addM 1 [] b) c) a)).length ≤ (addM (-1) (addM 1 (addM 1 [] b) c) a).length := List.length_filterMap_le _ _
    have h1 := addM_len 1 b []
    have h2 := addM_len 1 c (addM 1 [] b)
    have h3 := addM_len (-1) a (addM 1 (addM 1 [] b) c)
    simp only [List.length_nil] at h1
    omega
  · simp
theorem incO_kS (l : List Ct) (k : ByteArray) (n : Int) : kS (incO l k n) := by
  cases h : mayC l && keyB k.data.toList with
  | false =>
    have : incO l k n = [] := by unfold incO; rw [h]; rfl
    rw [this]; intro x hx; cases hx
  | true =>
    simp only [Bool.and_eq_true] at h
    exact may_kS (may_inc h.1 h.2)
theorem mergeC_kS (a b c : List Ct) : kS (mergeC a b c) := by
  cases h : mayC a && (mayC b && mayC c) with
  | false =>
    have : mergeC a b c = [] := by unfold mergeC; rw [h]; rfl
    rw [this]; intro x hx; cases hx
  | true =>
    simp only [Bool.and_eq_true] at h
    exact may_kS (may_merge h.1 h.2.1 h.2.2)
theorem mayCk (k : Nat) (l : List Ct) (hk : l.length < k) (hl : l.length ≤ 1000) (h : kS l) : ctr_May.f k l = some (mayC l) := mayC_f k l hk (by omega) (kS_small h)
def inL (l : List Ct) : Prop := ∀ x ∈ l, inR x.f1
theorem getC_in {l : List Ct} (h : inL l) (k : ByteArray) : inR (getC l k) := by
  induction l with
  | nil => unfold getC inR; omega
  | cons x l ih =>
    rw [getC_cons]
    split
    · exact h x List.mem_cons_self
    · exact ih fun y hy => h y (List.mem_cons_of_mem _ hy)
end Go.Proofs.YtmcddoolniaehaaGreat.S
end
section
namespace Go.Proofs.YtmcddoolniaehaaGreat.S
open Go.RowKit Go.Proofs.YtmcddoolniaehaaGreatW.PrintWords Go.Proofs.YtmcddoolniaehaaGreatW.PrintLast Go.Proofs.YtmcddoolniaehaaGreatW.PrintMore
attribute [local go_sem] max2_int min2_int max_two min_two max_three min_three max_four min_four   -- for this text's walks alone
set_option linter.unusedVariables false
set_option linter.unusedSimpArgs false

def reg_Merge.f (k : Nat) (l0 : List (S47)) (l1 : List (S47)) : Option ((List (S47))) := (reg_May.f k l0).bind fun t160 => (if t160 = true then ((reg_May.f k l1).bind fun t161 => (if t161 = true then ((reg_with.f l0 l1).bind fun t162 => (some t162)) else (some ([] : List (S47))))) else (some ([] : List (S47))))
theorem reg_Merge.mono : ∀ a0 a1 k, LeO (reg_Merge.f k a0 a1) (reg_Merge.f (k + 1) a0 a1) := by
 intro a0 a1 k
 unfold reg_Merge.f
 repeat' first
   | (with_reducible exact reg_May.mono _ _)
   | (with_reducible exact LeO.refl _)
   | (with_reducible exact LeO.none _)
   | (with_reducible refine LeO.ite ?_ ?_)
   | (with_reducible refine LeO.bind ?_ (fun _ => ?_))
   | exact reg_May.mono _ _
   | exact LeO.none _
   | refine LeO.ite ?_ ?_
   | refine LeO.bind ?_ (fun _ => ?_)
set_option maxHeartbeats 8000000 in
set_option maxRecDepth 100000 in
theorem reg_Merge.calls (k : Nat) (A0 : Option Addr) (c0 : Nat) (l0 : List (S47)) (A1 : Option Addr) (c1 : Nat) (l1 : List (S47)) (r : List (S47)) (w : World) (hr0 : Kd.C k47 w A0 l0.length l0) (hc0 : l0.length ≤ c0) (hr1 : Kd.C k47 w A1 l1.length l1) (hc1 : l1.length ≤ c1) (h : reg_Merge.f k l0 l1 = some r) :
  Calls Tryz.prog 62 #[.slice A0 l0.length c0, .slice A1 l1.length c1] w fun e w' => ∃ v0_ : Value, e = .returned (v0_) ∧ Kd.R k47 47 w' w.heap.size (fun _ => True) v0_ r ∧ Below w.heap.size w w' := by
 have HR0 := Aside0.mk hr0
 have HC0 := Aside0.mk hc0
 clear hr0 hc0
 have HR1 := Aside0.mk hr1
 have HC1 := Aside0.mk hc1
 clear hr1 hc1
 have HB := Aside0.mk (Below.refl w.heap.size w)
 have H : ((reg_May.f k l0).bind fun t160 => (if t160 = true then ((reg_May.f k l1).bind fun t161 => (if t161 = true then ((reg_with.f l0 l1).bind fun t162 => (some t162)) else (some ([] : List (S47))))) else (some ([] : List (S47))))) = some r := h
 clear h
 replace H := Option.bind_eq_some_iff.mp H
 obtain ⟨t160, A30, H⟩ := H
 replace H : (if t160 = true then ((reg_May.f k l1).bind fun t161 => (if t161 = true then ((reg_with.f l0 l1).bind fun t162 => (some t162)) else (some ([] : List (S47))))) else (some ([] : List (S47)))) = some r := H
 have A3 := Aside0.mk A30
 clear A30
 by_cases c4 : t160 = true
 ·subst c4
  have H1 : ((reg_May.f k l1).bind fun t161 => (if t161 = true then ((reg_with.f l0 l1).bind fun t162 => (some t162)) else (some ([] : List (S47))))) = some r := by rw [if_pos rfl] at H; exact H
  clear H
  have H := H1
  clear H1
  replace H := Option.bind_eq_some_iff.mp H
  obtain ⟨t161, A50, H⟩ := H
  replace H : (if t161 = true then ((reg_with.f l0 l1).bind fun t162 => (some t162)) else (some ([] : List (S47)))) = some r := H
  have A5 := Aside0.mk A50
  clear A50
  by_cases c6 : t161 = true
  ·subst c6
   have H1 : ((reg_with.f l0 l1).bind fun t162 => (some t162)) = some r := by rw [if_pos rfl] at H; exact H
   clear H
   have H := H1
   clear H1
   replace H := Option.bind_eq_some_iff.mp H
   obtain ⟨t162, A70, H⟩ := H
   replace H : (some t162) = some r := H
   have A7 := Aside0.mk A70
   clear A70
   obtain rfl := Option.some.inj H
   go_enter Tryz.func62, Tryz.ntmps62
   go_wp2_with (first | ((with_reducible refine gate_callee (f := 51) rfl ?_); refine goesL_ (some 6) rfl rfl Tryz.func51 (by kernel_rfl) rfl #[.slice A0 l0.length c0] rfl (by (try simp only [List.map_toArray, List.map_cons, List.map_nil]); first | done | rfl | (simp only [List.length_drop, List.length_take]; rfl)) ?_; (with_reducible refine (reg_May.calls k _ _ l0 true _ ?side1 ?side2 A3.out).mono ?_); (case side1 => repeat (first | exact HR0.out | (with_reducible refine Kd.C_alloc ?_ _) | (with_reducible refine Kd.C_drewN ?_ _) | (with_reducible refine Kd.C_drew ?_))); (case side2 => exact HC0.out); rintro e w8 ⟨rfl, hb⟩; refine ⟨_, rfl, ?_⟩; have n0_ := Aside0.mk (below_step (by repeat (first | (with_reducible first | exact HB.out | apply below_alloc | apply pw_below_drewN | apply below_drew1) | exact HB.out)) hb); clear HB; have HB := n0_; clear n0_; (try clear hb); (try clear hb2); (try clear hk); (try clear hi)) | (go_at_call 51; (with_reducible refine (reg_May.calls k _ _ l1 true _ ?side1 ?side2 A5.out).mono ?_); (case side1 => repeat (first | exact (Kd.C_below HR1.out HB.out) | (with_reducible refine Kd.C_alloc ?_ _) | (with_reducible refine Kd.C_drewN ?_ _) | (with_reducible refine Kd.C_drew ?_))); (case side2 => exact HC1.out); rintro e w9 ⟨rfl, hb⟩; have n0_ := Aside0.mk (below_step (by repeat (first | (with_reducible first | exact HB.out | apply below_alloc | apply pw_below_drewN | apply below_drew1) | exact HB.out)) hb); clear HB; have HB := n0_; clear n0_; (try clear hb); (try clear hb2); (try clear hk); (try clear hi)) | ((with_reducible refine gate_callee (f := 83) rfl ?_); refine goesL_ (some 15) rfl rfl Tryz.func83 (by kernel_rfl) rfl #[.slice A0 l0.length c0, .slice A1 l1.length c1] rfl (by (try simp only [List.map_toArray, List.map_cons, List.map_nil]); first | done | rfl | (simp only [List.length_drop, List.length_take]; rfl)) ?_; (with_reducible refine (reg_with.calls _ _ l0 _ _ l1 t162 _ ?side1 ?side2 ?side3 ?side4 A7.out).mono ?_); (case side1 => repeat (first | exact (Kd.C_below HR0.out HB.out) | (with_reducible refine Kd.C_alloc ?_ _) | (with_reducible refine Kd.C_drewN ?_ _) | (with_reducible refine Kd.C_drew ?_))); (case side2 => exact HC0.out); (case side3 => repeat (first | exact (Kd.C_below HR1.out HB.out) | (with_reducible refine Kd.C_alloc ?_ _) | (with_reducible refine Kd.C_drewN ?_ _) | (with_reducible refine Kd.C_drew ?_))); (case side4 => exact HC1.out); rintro e w10 ⟨v163, rfl, ho0, hb⟩; refine ⟨_, rfl, ?_⟩; have n0_ := Aside0.mk (Kd.R_lower ho0 (below_size (by repeat (first | (with_reducible first | exact HB.out | apply below_alloc | apply pw_below_drewN | apply below_drew1) | exact HB.out)))); have n1_ := Aside0.mk (below_step (by repeat (first | (with_reducible first | exact HB.out | apply below_alloc | apply pw_below_drewN | apply below_drew1) | exact HB.out)) hb); clear HB; have HO164 := n0_; have HB := n1_; clear n0_ n1_; (try clear hb); (try clear hb2); (try clear hk); (try clear hi); (try clear ho0)))
   go_ret
   exact ⟨_, by first | rfl | (simp [errW_none, errW_some] <;> rfl) | (simp [*, errW_none, errW_some] <;> rfl), by (with_reducible repeat (first | apply Kd.R_alloc | apply Kd.R_drewN | apply Kd.R_drew)); exact HO164.out, by repeat (first | (with_reducible first | exact HB.out | apply below_alloc | apply pw_below_drewN | apply below_drew1) | exact HB.out)⟩
  ·replace c6 := Bool.eq_false_iff.mpr c6
   subst c6
   have H1 : (some ([] : List (S47))) = some r := by rw [if_neg (show ¬ (false = true) by decide)] at H; exact H
   clear H
   have H := H1
   clear H1
   obtain rfl := Option.some.inj H
   go_enter Tryz.func62, Tryz.ntmps62
   go_wp2_with (first | ((with_reducible refine gate_callee (f := 51) rfl ?_); refine goesL_ (some 6) rfl rfl Tryz.func51 (by kernel_rfl) rfl #[.slice A0 l0.length c0] rfl (by (try simp only [List.map_toArray, List.map_cons, List.map_nil]); first | done | rfl | (simp only [List.length_drop, List.length_take]; rfl)) ?_; (with_reducible refine (reg_May.calls k _ _ l0 true _ ?side1 ?side2 A3.out).mono ?_); (case side1 => repeat (first | exact HR0.out | (with_reducible refine Kd.C_alloc ?_ _) | (with_reducible refine Kd.C_drewN ?_ _) | (with_reducible refine Kd.C_drew ?_))); (case side2 => exact HC0.out); rintro e w11 ⟨rfl, hb⟩; refine ⟨_, rfl, ?_⟩; have n0_ := Aside0.mk (below_step (by repeat (first | (with_reducible first | exact HB.out | apply below_alloc | apply pw_below_drewN | apply below_drew1) | exact HB.out)) hb); clear HB; have HB := n0_; clear n0_; (try clear hb); (try clear hb2); (try clear hk); (try clear hi)) | (go_at_call 51; (with_reducible refine (reg_May.calls k _ _ l1 false _ ?side1 ?side2 A5.out).mono ?_); (case side1 => repeat (first | exact (Kd.C_below HR1.out HB.out) | (with_reducible refine Kd.C_alloc ?_ _) | (with_reducible refine Kd.C_drewN ?_ _) | (with_reducible refine Kd.C_drew ?_))); (case side2 => exact HC1.out); rintro e w12 ⟨rfl, hb⟩; have n0_ := Aside0.mk (below_step (by repeat (first | (with_reducible first | exact HB.out | apply below_alloc | apply pw_below_drewN | apply below_drew1) | exact HB.out)) hb); clear HB; have HB := n0_; clear n0_; (try clear hb); (try clear hb2); (try clear hk); (try clear hi)))
   go_ret
   exact ⟨_, by first | rfl | (simp [errW_none, errW_some] <;> rfl) | (simp [*, errW_none, errW_some] <;> rfl), by first | exact Kd.R_nil _ _ _ _ _ | exact Kd.N_nil _ _ _ _ _ | exact Kd.V_nil _ _ _ _ _ | exact Kd.Q_nil _ _ _ _ _ | exact Kd.S_nil _ _ _ _ _, by repeat (first | (with_reducible first | exact HB.out | apply below_alloc | apply pw_below_drewN | apply below_drew1) | exact HB.out)⟩
 ·replace c4 := Bool.eq_false_iff.mpr c4
  subst c4
  have H1 : (some ([] : List (S47))) = some r := by rw [if_neg (show ¬ (false = true) by decide)] at H; exact H
  clear H
  have H := H1
  clear H1
  obtain rfl := Option.some.inj H
  go_enter Tryz.func62, Tryz.ntmps62
  go_wp2_with (first | ((with_reducible refine gate_callee (f := 51) rfl ?_); refine goesL_ (some 6) rfl rfl Tryz.func51 (by kernel_rfl) rfl #[.slice A0 l0.length c0] rfl (by (try simp only [List.map_toArray, List.map_cons, List.map_nil]); first | done | rfl | (simp only [List.length_drop, List.length_take]; rfl)) ?_; (with_reducible refine (reg_May.calls k _ _ l0 false _ ?side1 ?side2 A3.out).mono ?_); (case side1 => repeat (first | exact HR0.out | (with_reducible refine Kd.C_alloc ?_ _) | (with_reducible refine Kd.C_drewN ?_ _) | (with_reducible refine Kd.C_drew ?_))); (case side2 => exact HC0.out); rintro e w13 ⟨rfl, hb⟩; refine ⟨_, rfl, ?_⟩; have n0_ := Aside0.mk (below_step (by repeat (first | (with_reducible first | exact HB.out | apply below_alloc | apply pw_below_drewN | apply below_drew1) | exact HB.out)) hb); clear HB; have HB := n0_; clear n0_; (try clear hb); (try clear hb2); (try clear hk); (try clear hi)))
  go_ret
  exact ⟨_, by first | rfl | (simp [errW_none, errW_some] <;> rfl) | (simp [*, errW_none, errW_some] <;> rfl), by first | exact Kd.R_nil _ _ _ _ _ | exact Kd.N_nil _ _ _ _ _ | exact Kd.V_nil _ _ _ _ _ | exact Kd.Q_nil _ _ _ _ _ | exact Kd.S_nil _ _ _ _ _, by repeat (first | (with_reducible first | exact HB.out | apply below_alloc | apply pw_below_drewN | apply below_drew1) | exact HB.out)⟩

end Go.Proofs.YtmcddoolniaehaaGreat.S
end
section
namespace Go.Proofs.YtmcddoolniaehaaGreat.S
open Go.RowKit Go.Proofs.YtmcddoolniaehaaGreatW.PrintWords Go.Proofs.YtmcddoolniaehaaGreatW.PrintLast Go.Proofs.YtmcddoolniaehaaGreatW.PrintMore
attribute [local go_sem] max2_int min2_int max_two min_two max_three min_three max_four min_four   -- for this text's walks alone
set_option linter.unusedVariables false
set_option linter.unusedSimpArgs false

def law07_Few.l0 : Nat → List (S47) → Int → Option (Bool)
 | 0, _, _ => none
 | k + 1, x0, x3 => if x3 < (x0.length : Int) then (if 0 ≤ x3 then (if (((rd_T47 x0 x3).f0).size : Int) > 100 then (some false) else (if (((rd_T47 x0 x3).f1).size : Int) > 100 then (some false) else (law07_Few.l0 k x0 (wrap64 (x3 + 1))))) else (none)) else (some true)
def law07_Few.f (k : Nat) (l0 : List (S47)) : Option (Bool) := if (l0.length : Int) > 30 then (some false) else (law07_Few.l0 k l0 0)
theorem law07_Few.mono_l : ∀ k, (∀ y0 y1, LeO (law07_Few.l0 k y0 y1) (law07_Few.l0 (k + 1) y0 y1))
 | 0 => fun _ _ r h => by simp [law07_Few.l0] at h
 | k + 1 => by
  have ih0 := law07_Few.mono_l k
  ·intro y0 y1
   unfold law07_Few.l0
   repeat' first
   | (with_reducible exact ih0 _ _)
   | (with_reducible exact LeO.refl _)
   | (with_reducible exact LeO.none _)
   | (with_reducible refine LeO.ite ?_ ?_)
   | (with_reducible refine LeO.bind ?_ (fun _ => ?_))
   | exact ih0 _ _
   | exact LeO.none _
   | refine LeO.ite ?_ ?_
   | refine LeO.bind ?_ (fun _ => ?_)
theorem law07_Few.mono : ∀ a0 k, LeO (law07_Few.f k a0) (law07_Few.f (k + 1) a0) := by
 intro a0 k
 have ih0 := law07_Few.mono_l k
 unfold law07_Few.f
 repeat' first
   | (with_reducible exact ih0 _ _)
   | (with_reducible exact LeO.refl _)
   | (with_reducible exact LeO.none _)
   | (with_reducible refine LeO.ite ?_ ?_)
   | (with_reducible refine LeO.bind ?_ (fun _ => ?_))
   | exact ih0 _ _
   | exact LeO.none _
   | refine LeO.ite ?_ ?_
   | refine LeO.bind ?_ (fun _ => ?_)
set_option maxHeartbeats 8000000 in
set_option maxRecDepth 100000 in
theorem law07_Few.calls (k : Nat) (A0 : Option Addr) (c0 : Nat) (l0 : List (S47)) (r : Bool) (w : World) (hr0 : Kd.C k47 w A0 l0.length l0) (hc0 : l0.length ≤ c0) (h : law07_Few.f k l0 = some r) :
  Calls Tryz.prog 25 #[.slice A0 l0.length c0] w fun e w' => e = .returned (.bool r) ∧ Drawn0 w w' := by
 have HR0 := Aside0.mk hr0
 have HC0 := Aside0.mk hc0
 clear hr0 hc0
 have H : (if (l0.length : Int) > 30 then (some false) else (law07_Few.l0 k l0 0)) = some r := h
 clear h
 by_cases c2 : (l0.length : Int) > 30
 ·rw [if_pos c2] at H
  have c2b0 : decide (30 < (l0.length : Int)) = true := decide_eq_true c2
  have c2b1 : decide (30 < l0.length) = true := decide_eq_true (by omega)
  clear c2
  obtain rfl := Option.some.inj H
  go_enter Tryz.func25, Tryz.ntmps25
  go_wp2
  go_ret
  exact ⟨by first | rfl | (simp; done) | (simp [*]; done), by repeat (first | exact Drawn0.refl _ | apply Drawn0.step)⟩
 ·rw [if_neg c2] at H
  have c2b0 : decide (30 < (l0.length : Int)) = false := decide_eq_false c2
  have c2b1 : decide (30 < l0.length) = false := decide_eq_false (by omega)
  clear c2
  have H' := Aside0.mk H
  clear H
  go_enter Tryz.func25, Tryz.ntmps25
  go_wp2
  go_loopg [3] k (fun kq v3 w' => ∃ (x3_1 : Int), v3 = .int .i64 x3_1 ∧ Aside0 (law07_Few.l0 kq l0 x3_1 = some r) ∧ Aside0 (kq ≤ k) ∧ Drawn0 w w')
  case atStart => exact ⟨(0), (by first | rfl | (simp; done) | (simp [*]; done)), H', ⟨Nat.le_refl _⟩, by repeat (first | exact Drawn0.refl _ | apply Drawn0.step)⟩
  case round =>
   clear H'
   try clear c2
   try clear c2b0
   try clear c2b1
   try clear p2
   obtain ⟨x3_1, rfl, HA, HK1, ⟨m1, rfl⟩⟩ := hrel
   cases gk with
   | zero => exact absurd HA.out (by simp [law07_Few.l0])
   | succ k1 =>
    have H := HA.out
    clear HA
    simp only [law07_Few.l0] at H
    by_cases c3 : x3_1 < (l0.length : Int)
    ·rw [if_pos c3] at H
     have c3b0 : decide (x3_1 < (l0.length : Int)) = true := decide_eq_true c3
     clear c3
     by_cases c4 : 0 ≤ x3_1
     ·rw [if_pos c4] at H
      have c4b0 : decide (0 ≤ x3_1) = true := decide_eq_true c4
      clear c4
      by_cases c5 : (((rd_T47 l0 x3_1).f0).size : Int) > 100
      ·rw [if_pos c5] at H
       have c5b0 : decide (100 < (((rd_T47 l0 x3_1).f0).size : Int)) = true := decide_eq_true c5
       have c5b1 : decide (100 < ((rd_T47 l0 x3_1).f0).size) = true := decide_eq_true (by omega)
       clear c5
       obtain rfl := Option.some.inj H
       have p221 : 0 ≤ (x3_1 : Int) := of_decide_eq_true (by first | (with_reducible assumption) | assumption)
       have q221 : x3_1 < (l0.length : Int) := of_decide_eq_true (by first | (with_reducible assumption) | assumption)
       obtain ⟨ad221, e221, hx221_0, hx221_1, hx221_2, hx221_3, hx221_4⟩ := at_T47 HR0.out x3_1 p221 q221
       cases e221
       replace p221 := eq_true p221
       replace q221 := eq_true q221
       go_wp2
       go_ret
       exact ⟨by first | rfl | (simp; done) | (simp [*]; done), by repeat (first | exact Drawn0.refl _ | apply Drawn0.step)⟩
      ·rw [if_neg c5] at H
       have c5b0 : decide (100 < (((rd_T47 l0 x3_1).f0).size : Int)) = false := decide_eq_false c5
       have c5b1 : decide (100 < ((rd_T47 l0 x3_1).f0).size) = false := decide_eq_false (by omega)
       clear c5
       by_cases c6 : (((rd_T47 l0 x3_1).f1).size : Int) > 100
       ·rw [if_pos c6] at H
        have c6b0 : decide (100 < (((rd_T47 l0 x3_1).f1).size : Int)) = true := decide_eq_true c6
        have c6b1 : decide (100 < ((rd_T47 l0 x3_1).f1).size) = true := decide_eq_true (by omega)
        clear c6
        obtain rfl := Option.some.inj H
        have p221 : 0 ≤ (x3_1 : Int) := of_decide_eq_true (by first | (with_reducible assumption) | assumption)
        have q221 : x3_1 < (l0.length : Int) := of_decide_eq_true (by first | (with_reducible assumption) | assumption)
        obtain ⟨ad221, e221, hx221_0, hx221_1, hx221_2, hx221_3, hx221_4⟩ := at_T47 HR0.out x3_1 p221 q221
        cases e221
        replace p221 := eq_true p221
        replace q221 := eq_true q221
        have p222 : 0 ≤ (x3_1 : Int) := of_decide_eq_true (by first | (with_reducible assumption) | assumption)
        have q222 : x3_1 < (l0.length : Int) := of_decide_eq_true (by first | (with_reducible assumption) | assumption)
        obtain ⟨ad222, e222, hx222_0, hx222_1, hx222_2, hx222_3, hx222_4⟩ := at_T47 HR0.out x3_1 p222 q222
        obtain rfl : ad221 = ad222 := (by injection e222)
        replace p222 := eq_true p222
        replace q222 := eq_true q222
        go_wp2
        go_ret
        exact ⟨by first | rfl | (simp; done) | (simp [*]; done), by repeat (first | exact Drawn0.refl _ | apply Drawn0.step)⟩
       ·rw [if_neg c6] at H
        have c6b0 : decide (100 < (((rd_T47 l0 x3_1).f1).size : Int)) = false := decide_eq_false c6
        have c6b1 : decide (100 < ((rd_T47 l0 x3_1).f1).size) = false := decide_eq_false (by omega)
        clear c6
        have H' := Aside0.mk H
        clear H
        have p221 : 0 ≤ (x3_1 : Int) := of_decide_eq_true (by first | (with_reducible assumption) | assumption)
        have q221 : x3_1 < (l0.length : Int) := of_decide_eq_true (by first | (with_reducible assumption) | assumption)
        obtain ⟨ad221, e221, hx221_0, hx221_1, hx221_2, hx221_3, hx221_4⟩ := at_T47 HR0.out x3_1 p221 q221
        cases e221
        replace p221 := eq_true p221
        replace q221 := eq_true q221
        have p222 : 0 ≤ (x3_1 : Int) := of_decide_eq_true (by first | (with_reducible assumption) | assumption)
        have q222 : x3_1 < (l0.length : Int) := of_decide_eq_true (by first | (with_reducible assumption) | assumption)
        obtain ⟨ad222, e222, hx222_0, hx222_1, hx222_2, hx222_3, hx222_4⟩ := at_T47 HR0.out x3_1 p222 q222
        obtain rfl : ad221 = ad222 := (by injection e222)
        replace p222 := eq_true p222
        replace q222 := eq_true q222
        go_wp2
        go_roundg k1
        case measure => have := HK1.out; omega
        case rel => exact ⟨(wrap64 (x3_1 + 1)), (by first | rfl | (simp; done) | (simp [*]; done)), H', ⟨by have := HK1.out; omega⟩, by repeat (first | exact Drawn0.refl _ | apply Drawn0.step)⟩
     ·rw [if_neg c4] at H
      exact absurd H (by simp)
    ·rw [if_neg c3] at H
     have c3b0 : decide (x3_1 < (l0.length : Int)) = false := decide_eq_false c3
     clear c3
     obtain rfl := Option.some.inj H
     go_wp2
     go_ret
     exact ⟨by first | rfl | (simp; done) | (simp [*]; done), by repeat (first | exact Drawn0.refl _ | apply Drawn0.step)⟩

end Go.Proofs.YtmcddoolniaehaaGreat.S
end
section
namespace Go.Proofs.YtmcddoolniaehaaGreat.S
open Go.RowKit Go.Proofs.YtmcddoolniaehaaGreatW.PrintWords Go.Proofs.YtmcddoolniaehaaGreatW.PrintLast Go.Proofs.YtmcddoolniaehaaGreatW.PrintMore Go.Proofs.YtmcddoolniaehaaGreatW
set_option linter.unusedVariables false
set_option linter.unusedSimpArgs false
theorem newer_irrefl (a : S47) : newerB a a = false := by
  unfold newerB; simp [less_irrefl]
theorem newer_asymm {a b : S47} (h : newerB a b = true) : newerB b a = false := by
  unfold newerB at h ⊢
  by_cases h1 : a.f2 = b.f2
  · rw [if_pos h1] at h
    rw [if_pos h1.symm]
    by_cases h2 : a.f3.f0 = b.f3.f0
    · rw [if_pos h2] at h
      rw [if_pos h2.symm]
      by_cases h3 : a.f3.f1 = b.f3.f1
      · rw [if_pos h3] at h
        rw [if_pos h3.symm]
        exact less_asymm h
      · rw [if_neg h3] at h
        rw [if_neg (fun e => h3 e.symm)]
        simp at h ⊢; omega
    · rw [if_neg h2] at h
      rw [if_neg (fun e => h2 e.symm)]
      simp at h ⊢; omega
  · rw [if_neg h1] at h
    rw [if_neg (fun e => h1 e.symm)]
    simp at h ⊢; omega
theorem newer_trans {a b c : S47} (h : newerB a b = true) (g : newerB b c = true) : newerB a c = true := by
  unfold newerB at h g ⊢
  by_cases h1 : a.f2 = b.f2 <;> by_cases g1 : b.f2 = c.f2
  · rw [if_pos h1] at h; rw [if_pos g1] at g; rw [if_pos (h1.trans g1)]
    by_cases h2 : a.f3.f0 = b.f3.f0 <;> by_cases g2 : b.f3.f0 = c.f3.f0
    · rw [if_pos h2] at h; rw [if_pos g2] at g; rw [if_pos (h2.trans g2)]
      by_cases h3 : a.f3.f1 = b.f3.f1 <;> by_cases g3 : b.f3.f1 = c.f3.f1
      · rw [if_pos h3] at h; rw [if_pos g3] at g; rw [if_pos (h3.trans g3)]
        exact less_trans g h
      · rw [if_neg g3] at g; rw [if_neg (by omega)]; simp at g ⊢; omega
      · rw [if_neg h3] at h; rw [if_neg (by omega)]; simp at h ⊢; omega
      · rw [if_neg h3] at h; rw [if_neg g3] at g; simp at h g; rw [if_neg (by omega)]; simp; omega
    · rw [if_neg g2] at g; rw [if_neg (by omega)]; simp at g ⊢; omega
    · rw [if_neg h2] at h; rw [if_neg (by omega)]; simp at h ⊢; omega
    · rw [if_neg h2] at h; rw [if_neg g2] at g; simp at h g; rw [if_neg (by omega)]; simp; omega
  · rw [if_neg g1] at g; rw [if_neg (by omega)]; simp at g ⊢; omega
  · rw [if_neg h1] at h; rw [if_neg (by omega)]; simp at h ⊢; omega
  · rw [if_neg h1] at h; rw [if_neg g1] at g; simp at h g; rw [if_neg (by omega)]; simp; omega
theorem newer_same {a b : S47} (h : newerB a b = false) (g : newerB b a = false) : a.f1 = b.f1 ∧ a.f2 = b.f2 ∧ a.f3.f0 = b.f3.f0 ∧ a.f3.f1 = b.f3.f1 := by
  unfold newerB at h g
  by_cases h1 : a.f2 = b.f2
  · rw [if_pos h1] at h; rw [if_pos h1.symm] at g
    by_cases h2 : a.f3.f0 = b.f3.f0
    · rw [if_pos h2] at h; rw [if_pos h2.symm] at g
      by_cases h3 : a.f3.f1 = b.f3.f1
      · rw [if_pos h3] at h; rw [if_pos h3.symm] at g
        exact ⟨toList_inj (less_antisymm g h), h1, h2, h3⟩
      · rw [if_neg h3] at h; rw [if_neg (fun e => h3 e.symm)] at g
        simp at h g; omega
    · rw [if_neg h2] at h; rw [if_neg (fun e => h2 e.symm)] at g
      simp at h g; omega
  · rw [if_neg h1] at h; rw [if_neg (fun e => h1 e.symm)] at g
    simp at h g; omega
theorem reg_ext {a b : S47} (h0 : a.f0 = b.f0) (h1 : a.f1 = b.f1) (h2 : a.f2 = b.f2) (h3 : a.f3.f0 = b.f3.f0) (h4 : a.f3.f1 = b.f3.f1) : a = b := by
  cases a with | mk a0 a1 a2 a3 => cases b with | mk b0 b1 b2 b3 => cases a3; cases b3; simp_all
abbrev Rg := S47
def getR (l : List Rg) (key : ByteArray) : Option Rg := l.find? (regKey key)
theorem regKey_iff {key : ByteArray} {x : Rg} : regKey key x = true ↔ x.f0 = key := by
  unfold regKey; rw [beq_iff_eq]
  exact ⟨toList_inj, fun h => by rw [h]⟩
theorem getR_nil (key : ByteArray) : getR [] key = none := rfl
theorem getR_cons (x : Rg) (l : List Rg) (key : ByteArray) : getR (x :: l) key = if x.f0 = key then some x else getR l key := by
  unfold getR
  rw [List.find?_cons]
  by_cases h : x.f0 = key
  · rw [if_pos h, regKey_iff.2 h]
  · rw [if_neg h, show regKey key x = false from Bool.eq_false_iff.2 fun e => h (regKey_iff.1 e)]
def Keyed (k : ByteArray) (o : Option Rg) : Prop := ∀ x, o = some x → x.f0 = k
theorem getR_keyed : ∀ (l : List Rg) (k : ByteArray), Keyed k (getR l k)
  | [], _, x, h => by simp [getR] at h
  | y :: l, k, x, h => by
    rw [getR_cons] at h
    split at h
    · cases h; assumption
    · exact getR_keyed l k x h
theorem getR_none_of {l : List Rg} {k : ByteArray} (h : ∀ x ∈ l, x.f0 ≠ k) : getR l k = none := by
  unfold getR
  rw [List.find?_eq_none]
  intro x hx e
  exact h x hx (regKey_iff.1 e)
theorem getR_mem {l : List Rg} {k : ByteArray} {x : Rg} (h : getR l k = some x) : x ∈ l := List.mem_of_find?_eq_some h
theorem lt_ne {x y : Rg} (h : kLt x y) : x.f0 ≠ y.f0 := by
  intro e
  unfold kLt at h
  rw [e, less_irrefl] at h
  cases h
def putR : List Rg → Rg → List Rg
  | [], r => [r]
  | x :: l, r => if Op.bytesLess x.f0.toList r.f0.toList then x :: putR l r else if x.f0 = r.f0 then (if newerB r x then r :: l else x :: l) else r :: x :: l
theorem putL_eq : ∀ (l : List Rg) (r : Rg), putL l r = putR l r
  | [], r => by simp [putL, regIs, regPos, putR]
  | x :: l, r => by
    have ih := putL_eq l r
    unfold putR
    cases hx : Op.bytesLess x.f0.toList r.f0.toList with
    | true =>
      rw [if_pos rfl, ← ih]
      have hp : regPos r.f0 (x :: l) = regPos r.f0 l + 1 := by simp [regPos, hx]
      have hi : regIs r.f0 (x :: l) = regIs r.f0 l := by
        unfold regIs
        rw [hp, rd_cons_succ]
        simp
      unfold putL
      rw [hi, hp, rd_cons_succ]
      cases regIs r.f0 l with
      | true =>
        simp only [if_true]
        split <;> simp
      | false => simp
    | false =>
      simp only [Bool.false_eq_true, if_false]
      have hp : regPos r.f0 (x :: l) = 0 := by simp [regPos, hx]
      by_cases he : x.f0 = r.f0
      · have hi : regIs r.f0 (x :: l) = true := by
          unfold regIs
          rw [hp, rd_cons_zero]
          simp [cmpS_zero, he]
        unfold putL
        rw [hi, hp, rd_cons_zero, if_pos he]
        simp
      · have hi : regIs r.f0 (x :: l) = false := by
          unfold regIs
          rw [hp, rd_cons_zero]
          simp [cmpS_zero, he]
        unfold putL
        rw [hi, hp, if_neg he]
        simp
theorem putL_mem {l : List Rg} {r x : Rg} (h : x ∈ putL l r) : x = r ∨ x ∈ l := by
  rw [putL_eq] at h
  induction l with
  | nil => simpa [putR] using h
  | cons y l ih =>
    unfold putR at h
    split at h
    · rcases List.mem_cons.1 h with rfl | h
      · exact .inr List.mem_cons_self
      · rcases ih h with h | h
        · exact .inl h
        · exact .inr (List.mem_cons_of_mem _ h)
    · split at h
      · split at h
        · rcases List.mem_cons.1 h with rfl | h
          · exact .inl rfl
          · exact .inr (List.mem_cons_of_mem _ h)
        · exact .inr h
      · rcases List.mem_cons.1 h with rfl | h
        · exact .inl rfl
        · exact .inr h
theorem foldl_mem : ∀ (m l : List Rg) {x : Rg}, x ∈ m.foldl putL l → x ∈ m ∨ x ∈ l
  | [], l, x, h => .inr h
  | r :: m, l, x, h => by
    rcases foldl_mem m (putL l r) h with h | h
    · exact .inl (List.mem_cons_of_mem _ h)
    · rcases putL_mem h with rfl | h
      · exact .inl List.mem_cons_self
      · exact .inr h
def joinR (x y : Rg) : Rg := if newerB y x then y else x
def joinO : Option Rg → Option Rg → Option Rg
  | none, y => y
  | some x, none => some x
  | some x, some y => some (joinR x y)
theorem joinO_none_right (x : Option Rg) : joinO x none = x := by cases x <;> rfl
theorem joinR_key {x y : Rg} {k : ByteArray} (hx : x.f0 = k) (hy : y.f0 = k) : (joinR x y).f0 = k := by unfold joinR; split <;> assumption
theorem joinO_keyed {k : ByteArray} {a b : Option Rg} (ha : Keyed k a) (hb : Keyed k b) : Keyed k (joinO a b) := by
  intro x h
  match a, b with
  | none, b => exact hb x h
  | some a, none => exact ha x h
  | some a, some b => simp only [joinO, Option.some.injEq] at h; subst h; exact joinR_key (ha a rfl) (hb b rfl)
theorem joinR_comm {x y : Rg} (h : x.f0 = y.f0) : joinR x y = joinR y x := by
  unfold joinR
  cases h1 : newerB y x with
  | true => rw [newer_asymm h1]; rfl
  | false =>
    cases h2 : newerB x y with
    | true => rfl
    | false =>
      obtain ⟨e1, e2, e3, e4⟩ := newer_same h2 h1
      exact reg_ext h e1 e2 e3 e4
theorem joinR_idem (x : Rg) : joinR x x = x := by unfold joinR; rw [newer_irrefl]; rfl
theorem joinR_assoc {x y z : Rg} (h : x.f0 = y.f0) : joinR (joinR x y) z = joinR x (joinR y z) := by
  cases yx : newerB y x with
  | true =>
    have e : joinR x y = y := by simp [joinR, yx]
    rw [e]
    cases zy : newerB z y with
    | true =>
      have e2 : joinR y z = z := by simp [joinR, zy]
      rw [e2]
      simp [joinR, newer_trans zy yx]
    | false =>
      have e2 : joinR y z = y := by simp [joinR, zy]
      rw [e2, e]
  | false =>
    have e : joinR x y = x := by simp [joinR, yx]
    rw [e]
    cases zy : newerB z y with
    | true =>
      have e2 : joinR y z = z := by simp [joinR, zy]
      rw [e2]
    | false =>
      have e2 : joinR y z = y := by simp [joinR, zy]
      rw [e2, e]
      have zx : newerB z x = false := by
        cases q : newerB z x with
        | false => rfl
        | true =>
          exfalso
          cases xy : newerB x y with
          | true => rw [newer_trans q xy] at zy; cases zy
          | false =>
            obtain ⟨e1, e2, e3, e4⟩ := newer_same xy yx
            rw [reg_ext h e1 e2 e3 e4] at q
            rw [q] at zy; cases zy
      simp [joinR, zx]
theorem joinO_comm {k : ByteArray} {a b : Option Rg} (ha : Keyed k a) (hb : Keyed k b) : joinO a b = joinO b a := by
  match a, b with
  | none, none => rfl
  | none, some b => rfl
  | some a, none => rfl
  | some a, some b => simp only [joinO]; rw [joinR_comm ((ha a rfl).trans (hb b rfl).symm)]
theorem joinO_assoc {k : ByteArray} {a b c : Option Rg} (ha : Keyed k a) (hb : Keyed k b) : joinO (joinO a b) c = joinO a (joinO b c) := by
  match a, b, c with
  | none, b, c => rfl
  | some a, none, c => rfl
  | some a, some b, none => rfl
  | some a, some b, some c => simp only [joinO]; rw [joinR_assoc ((ha a rfl).trans (hb b rfl).symm)]
theorem joinO_idem (a : Option Rg) : joinO a a = a := by
  match a with
  | none => rfl
  | some a => simp only [joinO]; rw [joinR_idem]
theorem getR_put : ∀ (l : List Rg) (r : Rg) (k : ByteArray), l.Pairwise kLt → getR (putL l r) k = joinO (getR l k) (getR [r] k)
  | [], r, k, _ => by simp [putL_eq, putR, getR_nil, joinO]
  | x :: l, r, k, hp => by
    rw [List.pairwise_cons] at hp
    have ih := getR_put l r k hp.2
    rw [putL_eq] at ih ⊢
    unfold putR
    cases hx : Op.bytesLess x.f0.toList r.f0.toList with
    | true =>
      rw [if_pos rfl, getR_cons, getR_cons x l]
      by_cases hk : x.f0 = k
      · rw [if_pos hk, if_pos hk]
        have hr : r.f0 ≠ k := by
          intro e
          rw [hk, e, less_irrefl] at hx; cases hx
        rw [getR_cons, if_neg hr, getR_nil, joinO_none_right]
      · rw [if_neg hk, if_neg hk, ih]
    | false =>
      simp only [Bool.false_eq_true, if_false]
      by_cases he : x.f0 = r.f0
      · rw [if_pos he]
        by_cases hk : r.f0 = k
        · have hxk := he.trans hk
          rw [getR_cons x l, if_pos hxk, getR_cons r [], if_pos hk]
          show _ = some (joinR x r)
          unfold joinR
          split
          · rw [getR_cons, if_pos hk]
          · rw [getR_cons, if_pos hxk]
        · have hxk : x.f0 ≠ k := fun e => hk (he.symm.trans e)
          rw [getR_cons x l, if_neg hxk, getR_cons r [], if_neg hk, getR_nil, joinO_none_right]
          split
          · rw [getR_cons, if_neg hk]
          · rw [getR_cons, if_neg hxk]
      · rw [if_neg he, getR_cons]
        by_cases hk : r.f0 = k
        · rw [if_pos hk, getR_cons r [], if_pos hk]
          have hrx : Op.bytesLess r.f0.toList x.f0.toList = true := by
            cases q : Op.bytesLess r.f0.toList x.f0.toList with
            | true => rfl
            | false => exact absurd (toList_inj (less_antisymm hx q)) he
          have hn : getR (x :: l) k = none := by
            refine getR_none_of fun y hy e => ?_
            rcases List.mem_cons.1 hy with rfl | hy
            · exact he (e.trans hk.symm)
            · have h2 := less_trans hrx (hp.1 y hy)
              rw [e, ← hk, less_irrefl] at h2
              cases h2
          rw [hn]; rfl
        · rw [if_neg hk, getR_cons r [], if_neg hk, getR_nil, joinO_none_right]
theorem getR_fold : ∀ (m l : List Rg) (k : ByteArray), l.Pairwise kLt → m.Pairwise kLt → getR (m.foldl putL l) k = joinO (getR l k) (getR m k)
  | [], l, k, _, _ => by rw [getR_nil, joinO_none_right]; rfl
  | r :: m, l, k, hl, hm => by
    rw [List.pairwise_cons] at hm
    show getR (m.foldl putL (putL l r)) k = _
    rw [getR_fold m _ k (putL_up r hl) hm.2, getR_put l r k hl, joinO_assoc (k := k) (getR_keyed _ _) (getR_keyed _ _)]
    congr 1
    rw [getR_cons r [], getR_cons r m]
    by_cases hk : r.f0 = k
    · rw [if_pos hk, if_pos hk]
      have hn : getR m k = none := getR_none_of fun y hy e => lt_ne (hm.1 y hy) (hk.trans e.symm)
      rw [hn]; rfl
    · rw [if_neg hk, if_neg hk]; rfl
theorem reg_same : ∀ (l m : List Rg), l.Pairwise kLt → m.Pairwise kLt → (∀ k, getR l k = getR m k) → l = m
  | [], [], _, _, _ => rfl
  | [], y :: m, _, _, h => by have := h y.f0; rw [getR_nil, getR_cons, if_pos rfl] at this; cases this
  | x :: l, [], _, _, h => by have := h x.f0; rw [getR_nil, getR_cons, if_pos rfl] at this; cases this
  | x :: l, y :: m, hl, hm, h => by
    rw [List.pairwise_cons] at hl hm
    have hxy : x = y := by
      have h1 := h x.f0
      rw [getR_cons, if_pos rfl] at h1
      have m1 := getR_mem h1.symm
      have h2 := h y.f0
      rw [getR_cons y, if_pos rfl] at h2
      have m2 := getR_mem h2
      rcases List.mem_cons.1 m1 with e | m1
      · exact e
      · rcases List.mem_cons.1 m2 with e | m2
        · exact e.symm
        · have a1 := hm.1 x m1
          have a2 := hl.1 y m2
          unfold kLt at a1 a2
          rw [less_asymm a1] at a2; cases a2
    subst hxy
    congr 1
    refine reg_same l m hl.2 hm.2 fun k => ?_
    by_cases hk : x.f0 = k
    · rw [getR_none_of fun y hy e => lt_ne (hl.1 y hy) (hk.trans e.symm), getR_none_of fun y hy e => lt_ne (hm.1 y hy) (hk.trans e.symm)]
    · have := h k
      rwa [getR_cons, if_neg hk, getR_cons, if_neg hk] at this
theorem wrap_succ {n : Nat} (h : n < 4611686018427387904) : wrap64 ((n : Int) + 1) = ((n + 1 : Nat) : Int) := by unfold wrap64; omega
theorem wrap_pred {n : Nat} (h : n < 4611686018427387904) : wrap64 (((n + 1 : Nat) : Int) - 1) = (n : Int) := by unfold wrap64; omega
theorem rd_mid (pre suf : List Rg) (x : Rg) : rd_T47 (pre ++ x :: suf) ((pre.length : Nat) : Int) = x := by
  simp [rd_T47, List.getD_eq_getElem?_getD]
theorem len_snoc {α : Type} (pre : List α) (x : α) : (pre ++ [x]).length = pre.length + 1 := by simp
theorem app_snoc {α : Type} (pre suf : List α) (x : α) : (pre ++ [x]) ++ suf = pre ++ x :: suf := by simp
def okTT (x : Rg) : Prop := okT x.f0 ∧ okT x.f1
def oneB (r : Rg) : Bool := keyB r.f0.data.toList && (keyB r.f1.data.toList && (decide (0 < r.f2) && (decide (0 ≤ r.f3.f0) && (decide (r.f3.f0 < 8) && decide (0 < r.f3.f1)))))
theorem key_f {a : ByteArray} (h : okT a) : ops_Key.f a = some (keyB a.data.toList) := by
  unfold ops_Key.f
  rw [if_pos (by unfold okT maxLen at h; omega)]
theorem one_f (r : Rg) (h : okTT r) : reg_one.f r.f0 r.f1 r.f2 r.f3.f0 r.f3.f1 = some (oneB r) := by
  unfold reg_one.f oneB
  rw [key_f h.1, key_f h.2]
  simp only [Option.bind_some]
  cases keyB r.f0.data.toList
  · rfl
  cases keyB r.f1.data.toList
  · rfl
  by_cases h1 : 0 < r.f2 <;> by_cases h2 : 0 ≤ r.f3.f0 <;> by_cases h3 : r.f3.f0 < 8 <;> simp [h1, h2, h3]
def mayRP : Option Rg → List Rg → Bool
  | _, [] => true
  | p, x :: l => oneB x && ((match p with | none => true | some y => Op.bytesLess y.f0.toList x.f0.toList) && mayRP (some x) l)
def mayB (l : List Rg) : Bool := mayRP none l
theorem may_loop : ∀ (suf pre : List Rg) (k : Nat), suf.length < k → (pre ++ suf).length < 4611686018427387904 → (∀ x ∈ suf, okTT x) →
    reg_May.l0 k (pre ++ suf) (pre ++ suf) (((pre ++ suf).length : Nat) : Int) ((pre.length : Nat) : Int) = some (mayRP pre.getLast? suf)
  | suf, pre, 0, hk, _, _ => by omega
  | [], pre, k + 1, _, _, _ => by
    simp only [reg_May.l0]
    rw [if_neg (by simp)]
    rfl
  | x :: suf, pre, k + 1, hk, hl, ho => by
    have hlt : ((pre.length : Nat) : Int) < (((pre ++ x :: suf).length : Nat) : Int) := by simp; omega
    have hpl : pre.length < 4611686018427387904 := by simp at hl; omega
    have ih := may_loop suf (pre ++ [x]) k (by simp at hk; omega) (by simpa using hl) (fun y hy => ho y (List.mem_cons_of_mem _ hy))
    rw [app_snoc, List.getLast?_concat, len_snoc] at ih
    simp only [reg_May.l0]
    rw [if_pos hlt, if_pos (by omega), if_pos hlt, rd_mid, one_f x (ho x List.mem_cons_self), Option.bind_some, wrap_succ hpl]
    unfold mayRP
    cases h1 : oneB x with
    | false => rfl
    | true =>
      simp only [if_true, Bool.true_and]
      rcases List.eq_nil_or_concat pre with rfl | ⟨p, y, rfl⟩
      · rw [if_neg (by simp)]
        simpa using ih
      · rw [List.concat_eq_append] at *
        have hw : wrap64 ((((p ++ [y]).length : Nat) : Int) - 1) = ((p.length : Nat) : Int) := by
          rw [List.length_append, List.length_singleton]; exact wrap_pred (by simp at hpl; omega)
        rw [if_pos (by simp), hw, if_pos (by omega), if_pos (by simp; omega), app_snoc, rd_mid, List.getLast?_concat]
        rw [app_snoc] at ih
        cases h2 : Op.bytesLess y.f0.toList x.f0.toList with
        | false => simp [h2]
        | true =>
          simp only [if_true]
          rw [ih, h2]; rfl
theorem may_f (k : Nat) (l : List Rg) (hk : l.length < k) (hl : l.length < 4611686018427387904) (ho : ∀ x ∈ l, okTT x) : reg_May.f k l = some (mayB l) := by
  have := may_loop l [] k hk (by simpa using hl) ho
  simpa [reg_May.f, mayB] using this
theorem mayRP_iff : ∀ (l : List Rg) (p : Option Rg), mayRP p l = true ↔ (∀ x ∈ l, oneB x = true) ∧ (p.toList ++ l).Pairwise kLt
  | [], none => by simp [mayRP]
  | [], some y => by simp [mayRP]
  | x :: l, none => by
    have ih := mayRP_iff l (some x)
    unfold mayRP
    simp only [Bool.true_and, Bool.and_eq_true, ih, List.mem_cons, forall_eq_or_imp, Option.toList, List.nil_append, List.cons_append]
    exact and_assoc.symm
  | x :: l, some y => by
    have ih := mayRP_iff l (some x)
    unfold mayRP
    simp only [Bool.and_eq_true, ih, List.mem_cons, forall_eq_or_imp, Option.toList, List.nil_append, List.cons_append]
    constructor
    · rintro ⟨h1, h2, h3, h4⟩
      refine ⟨⟨h1, h3⟩, ?_⟩
      rw [List.pairwise_cons]
      refine ⟨fun z hz => ?_, h4⟩
      rcases List.mem_cons.1 hz with rfl | hz
      · exact h2
      · exact less_trans h2 ((List.pairwise_cons.1 h4).1 z hz)
    · rintro ⟨⟨h1, h3⟩, h4⟩
      rw [List.pairwise_cons] at h4
      exact ⟨h1, h4.1 x List.mem_cons_self, h3, h4.2⟩
theorem mayB_iff (l : List Rg) : mayB l = true ↔ (∀ x ∈ l, oneB x = true) ∧ l.Pairwise kLt := by
  have := mayRP_iff l none
  simpa [mayB] using this
theorem may_put {l : List Rg} {r : Rg} (h : mayB l = true) (hr : oneB r = true) : mayB (putL l r) = true := by
  rw [mayB_iff] at h ⊢
  refine ⟨fun x hx => ?_, putL_up r h.2⟩
  rcases putL_mem hx with rfl | hx
  · exact hr
  · exact h.1 x hx
theorem may_fold {l m : List Rg} (h : mayB l = true) (hm : ∀ x ∈ m, oneB x = true) : mayB (m.foldl putL l) = true := by
  rw [mayB_iff] at h ⊢
  refine ⟨fun x hx => ?_, foldl_up m l h.2⟩
  rcases foldl_mem m l hx with hx | hx
  · exact hm x hx
  · exact h.1 x hx
theorem with_f (l m : List Rg) (hl : l.Pairwise kLt) (hs : (l.length + m.length + 1) * 56 ≤ 140737488355328) : reg_with.f l m = some (m.foldl putL l) := by
  unfold reg_with.f
  rw [if_pos ⟨up_regUpB l hl, hs⟩]
def putO (l : List Rg) (r : Rg) : List Rg := if mayB l && oneB r then putL l r else []
def mergeO (a b : List Rg) : List Rg := if mayB a && mayB b then b.foldl putL a else []
theorem put_f (k : Nat) (l : List Rg) (r : Rg) (hk : l.length < k) (hl : l.length < 1000000) (ho : ∀ x ∈ l, okTT x) (hr : okTT r) : reg_Put.f k l r.f0 r.f1 r.f2 r.f3.f0 r.f3.f1 = some (putO l r) := by
  unfold reg_Put.f putO
  rw [may_f k l hk (by omega) ho, one_f r hr]
  simp only [Option.bind_some]
  cases h1 : mayB l with
  | false => rfl
  | true =>
    cases h2 : oneB r with
    | false => rfl
    | true =>
      simp only [if_true, Bool.and_self]
      rw [show ([⟨r.f0, r.f1, r.f2, ⟨r.f3.f0, r.f3.f1⟩⟩] : List Rg) = [r] from rfl, with_f l [r] ((mayB_iff l).1 h1).2 (by simp; omega)]
      rfl
theorem merge_f (k : Nat) (a b : List Rg) (hk : a.length < k) (hk2 : b.length < k) (hl : a.length < 1000000) (hl2 : b.length < 1000000) (ho : ∀ x ∈ a, okTT x) (ho2 : ∀ x ∈ b, okTT x) : reg_Merge.f k a b = some (mergeO a b) := by
  unfold reg_Merge.f mergeO
  rw [may_f k a hk (by omega) ho, may_f k b hk2 (by omega) ho2]
  simp only [Option.bind_some]
  cases h1 : mayB a with
  | false => rfl
  | true =>
    cases h2 : mayB b with
    | false => rfl
    | true =>
      simp only [if_true, Bool.and_self]
      rw [with_f a b ((mayB_iff a).1 h1).2 (by omega)]
      rfl
def fewB (l : List Rg) : Bool := decide (l.length ≤ 30) && l.all (fun x => decide (x.f0.size ≤ 100) && decide (x.f1.size ≤ 100))
theorem few_loop : ∀ (suf pre : List Rg) (k : Nat), suf.length < k → (pre ++ suf).length < 4611686018427387904 →
    law07_Few.l0 k (pre ++ suf) ((pre.length : Nat) : Int) = some (suf.all (fun x => decide (x.f0.size ≤ 100) && decide (x.f1.size ≤ 100)))
  | suf, pre, 0, hk, _ => by omega
  | [], pre, k + 1, _, _ => by
    simp only [law07_Few.l0]
    rw [if_neg (by simp)]
    rfl
  | x :: suf, pre, k + 1, hk, hl => by
    have hlt : ((pre.length : Nat) : Int) < (((pre ++ x :: suf).length : Nat) : Int) := by simp; omega
    have hpl : pre.length < 4611686018427387904 := by simp at hl; omega
    have ih := few_loop suf (pre ++ [x]) k (by simp at hk; omega) (by simpa using hl)
    rw [app_snoc, len_snoc] at ih
    simp only [law07_Few.l0]
    rw [if_pos hlt, if_pos (by omega), rd_mid, wrap_succ hpl, ih, List.all_cons]
    by_cases h1 : x.f0.size ≤ 100
    · rw [if_neg (by omega)]
      by_cases h2 : x.f1.size ≤ 100
      · rw [if_neg (by omega)]; simp [h1, h2]
      · rw [if_pos (by omega)]; simp [h2]
    · rw [if_pos (by omega)]; simp [h1]
theorem few_f (k : Nat) (l : List Rg) (hk : 31 < k) : law07_Few.f k l = some (fewB l) := by
  unfold law07_Few.f fewB
  by_cases h : l.length ≤ 30
  · rw [if_neg (by omega)]
    have := few_loop l [] k (by omega) (by simp; omega)
    simp only [List.nil_append, List.length_nil] at this
    rw [show ((0 : Nat) : Int) = 0 from rfl] at this
    rw [this]; simp [h]
  · rw [if_pos (by omega)]; simp [h]
theorem few_len {l : List Rg} (h : fewB l = true) : l.length ≤ 30 := by
  unfold fewB at h; simp at h; exact h.1
theorem few_size {l : List Rg} (h : fewB l = true) : ∀ x ∈ l, x.f0.size ≤ 100 ∧ x.f1.size ≤ 100 := by
  unfold fewB at h; simp at h
  intro x hx
  exact h.2 x hx
theorem okTT_of {x : Rg} (h : x.f0.size ≤ 100 ∧ x.f1.size ≤ 100) : okTT x := by
  unfold okTT okT maxLen; omega
def getA : Option Rg → ByteArray × ByteArray × Int × Int × Int × Bool
  | some x => (x.f0, x.f1, x.f2, x.f3.f0, x.f3.f1, true)
  | none => (⟨#[]⟩, ⟨#[]⟩, 0, 0, 0, false)
theorem get_f (l : List Rg) (key : ByteArray) : reg_Get.f l key = some (getA (getR l key)) := by
  unfold reg_Get.f getR getA
  cases l.find? (regKey key) <;> rfl
def smallR (x : Rg) : Prop := x.f0.size ≤ 100 ∧ x.f1.size ≤ 100
theorem may_oneR {r : Rg} (h : mayB [r] = true) : oneB r = true := ((mayB_iff [r]).1 h).1 r List.mem_cons_self
theorem few_all {l : List Rg} (h : fewB l = true) : ∀ x ∈ l, smallR x := few_size h
theorem few_one {r : Rg} (h : fewB [r] = true) : smallR r := few_size h r List.mem_cons_self
theorem ok_all {l : List Rg} (h : ∀ x ∈ l, smallR x) : ∀ x ∈ l, okTT x := fun x hx => okTT_of (h x hx)
theorem putO_small {l : List Rg} {r : Rg} (h : ∀ x ∈ l, smallR x) (hr : smallR r) : ∀ x ∈ putO l r, smallR x := fun x hx => by
  unfold putO at hx
  split at hx
  · rcases putL_mem hx with rfl | hx
    · exact hr
    · exact h x hx
  · cases hx
theorem putO_len (l : List Rg) (r : Rg) : (putO l r).length ≤ l.length + 1 := by
  unfold putO
  split
  · exact putL_length l r
  · simp
theorem mergeO_small {a b : List Rg} (h : ∀ x ∈ a, smallR x) (hb : ∀ x ∈ b, smallR x) : ∀ x ∈ mergeO a b, smallR x := fun x hx => by
  unfold mergeO at hx
  split at hx
  · rcases foldl_mem _ _ hx with hx | hx
    · exact hb x hx
    · exact h x hx
  · cases hx
theorem mergeO_len (a b : List Rg) : (mergeO a b).length ≤ a.length + b.length := by
  unfold mergeO
  split
  · exact foldl_length b a
  · simp
end Go.Proofs.YtmcddoolniaehaaGreat.S
end
