/- Counts: what more and merging come to, key by key. Plain. -/
import Derived.Test.YtannmdngejdjkaaLHCtrMerge
import Derived.Test.YtannmdngejdjkaaLHCtrGet
namespace Go.Proofs.Ytannmdngejdjkaa.L
open Go.RowKit Go.Proofs.YtannmdngejdjkaaW.PrintWords Go.Proofs.YtannmdngejdjkaaW.PrintLast Go.Proofs.YtannmdngejdjkaaW.PrintMore Go.Proofs.YtannmdngejdjkaaW
set_option linter.unusedVariables false
set_option linter.unusedSimpArgs false
def getC : List Ct → ByteArray → Int
  | [], _ => 0
  | x :: l, k => if x.f0 = k then x.f1 else getC l k
theorem getC_cons (x : Ct) (l : List Ct) (k : ByteArray) : getC (x :: l) k = if x.f0 = k then x.f1 else getC l k := rfl
theorem ctrKey_iff {key : ByteArray} {x : Ct} : ctrKey key x = true ↔ x.f0 = key := by
  unfold ctrKey; rw [beq_iff_eq]
  exact ⟨toList_inj, fun h => by rw [h]⟩
theorem getC_f : ∀ (l : List Ct) (key : ByteArray), ctr_Get.f l key = some (getC l key)
  | [], key => rfl
  | x :: l, key => by
    have ih := getC_f l key
    unfold ctr_Get.f at ih ⊢
    rw [List.find?_cons]
    unfold getC
    by_cases h : x.f0 = key
    · rw [if_pos h, ctrKey_iff.2 h]
    · rw [if_neg h, show ctrKey key x = false from Bool.eq_false_iff.2 fun e => h (ctrKey_iff.1 e)]
      exact ih
def inR (n : Int) : Prop := -9223372036854775808 ≤ n ∧ n ≤ 9223372036854775807
theorem wrap_in (n : Int) : inR (wrap64 n) := by unfold inR wrap64; omega
theorem wrap_id {n : Int} (h : inR n) : wrap64 n = n := by unfold inR at h; unfold wrap64; omega
theorem wrap_l (a b : Int) : wrap64 (wrap64 a + b) = wrap64 (a + b) := by unfold wrap64; omega
theorem wrap_r (a b : Int) : wrap64 (a + wrap64 b) = wrap64 (a + b) := by unfold wrap64; omega
theorem wrap_sl (a b : Int) : wrap64 (wrap64 a - b) = wrap64 (a - b) := by unfold wrap64; omega
theorem wrap_n (a : Int) : wrap64 (-wrap64 a) = wrap64 (-a) := by unfold wrap64; omega
theorem cLt_ne {x y : Ct} (h : cLt x y) : x.f0 ≠ y.f0 := by
  intro e
  unfold cLt at h
  rw [e, less_irrefl] at h; cases h
theorem getC_none {l : List Ct} {k : ByteArray} (h : ∀ x ∈ l, x.f0 ≠ k) : getC l k = 0 := by
  induction l with
  | nil => rfl
  | cons x l ih =>
    unfold getC
    rw [if_neg (h x List.mem_cons_self)]
    exact ih fun y hy => h y (List.mem_cons_of_mem _ hy)
theorem getC_mem {l : List Ct} {k : ByteArray} (h : getC l k ≠ 0) : ∃ x ∈ l, x.f0 = k ∧ x.f1 = getC l k := by
  induction l with
  | nil => exact absurd rfl h
  | cons x l ih =>
    unfold getC at h ⊢
    by_cases e : x.f0 = k
    · rw [if_pos e]; exact ⟨x, List.mem_cons_self, e, rfl⟩
    · rw [if_neg e] at h ⊢
      obtain ⟨y, hy, h1, h2⟩ := ih h
      exact ⟨y, List.mem_cons_of_mem _ hy, h1, h2⟩
theorem getC_head (x : Ct) (l : List Ct) : getC (x :: l) x.f0 = x.f1 := by unfold getC; rw [if_pos rfl]
/-- rising ones without nothing are the same if each key counts the same -/
theorem ctr_same : ∀ (l m : List Ct), l.Pairwise cLt → m.Pairwise cLt → (∀ x ∈ l, x.f1 ≠ 0) → (∀ x ∈ m, x.f1 ≠ 0) → (∀ k, getC l k = getC m k) → l = m
  | [], [], _, _, _, _, _ => rfl
  | [], y :: m, _, _, _, hz, h => by have := h y.f0; rw [getC_head] at this; exact absurd this.symm (hz y List.mem_cons_self)
  | x :: l, [], _, _, hz, _, h => by have := h x.f0; rw [getC_head] at this; exact absurd this (hz x List.mem_cons_self)
  | x :: l, y :: m, hl, hm, zl, zm, h => by
    rw [List.pairwise_cons] at hl hm
    have hxy : x = y := by
      have h1 := h x.f0
      rw [getC_head] at h1
      have z1 := zl x List.mem_cons_self
      obtain ⟨a, ha, a1, a2⟩ := getC_mem (l := y :: m) (k := x.f0) (by rw [← h1]; exact z1)
      have h2 := h y.f0
      rw [getC_head] at h2
      have z2 := zm y List.mem_cons_self
      obtain ⟨b, hb, b1, b2⟩ := getC_mem (l := x :: l) (k := y.f0) (by rw [h2]; exact z2)
      have hk : x.f0 = y.f0 := by
        rcases List.mem_cons.1 ha with rfl | ha
        · exact a1.symm
        · rcases List.mem_cons.1 hb with rfl | hb
          · exact b1
          · have c1 := hm.1 a ha
            have c2 := hl.1 b hb
            unfold cLt at c1 c2
            rw [a1] at c1; rw [b1] at c2
            rw [less_asymm c1] at c2; cases c2
      have hv : x.f1 = y.f1 := by rw [h1, hk, getC_head]
      cases x; cases y; simp_all
    subst hxy
    congr 1
    refine ctr_same l m hl.2 hm.2 (fun z hz => zl z (List.mem_cons_of_mem _ hz)) (fun z hz => zm z (List.mem_cons_of_mem _ hz)) fun k => ?_
    by_cases hk : x.f0 = k
    · rw [getC_none fun y hy e => cLt_ne (hl.1 y hy) (hk.trans e.symm), getC_none fun y hy e => cLt_ne (hm.1 y hy) (hk.trans e.symm)]
    · have := h k
      unfold getC at this
      rwa [if_neg hk, if_neg hk] at this
/-! ### maps -/
theorem getM_none {es : MapL} {k : ByteArray} (h : ∀ p ∈ es, p.1 ≠ k) : getM es k = 0 := by
  induction es with
  | nil => rfl
  | cons p l ih =>
    unfold getM
    rw [if_neg (h p List.mem_cons_self)]
    exact ih fun y hy => h y (List.mem_cons_of_mem _ hy)
theorem out_mem {es : MapL} {x : Ct} (h : x ∈ outM es) : (x.f0, x.f1) ∈ es ∧ x.f1 ≠ 0 := by
  unfold outM at h
  obtain ⟨p, hp, e⟩ := List.mem_filterMap.1 h
  by_cases hz : p.2 = 0
  · rw [if_pos hz] at e; cases e
  · rw [if_neg hz] at e
    cases e
    exact ⟨hp, hz⟩
theorem out_up : ∀ {es : MapL}, es.Pairwise mLt → (outM es).Pairwise cLt
  | [], _ => List.Pairwise.nil
  | p :: l, h => by
    rw [List.pairwise_cons] at h
    have ih := out_up h.2
    unfold outM at ih ⊢
    rw [List.filterMap_cons]
    by_cases hz : p.2 = 0
    · rw [if_pos hz]; exact ih
    · rw [if_neg hz]
      simp only [List.pairwise_cons]
      refine ⟨fun x hx => ?_, ih⟩
      have := (out_mem (es := l) hx).1
      exact h.1 _ this
theorem getC_out : ∀ (es : MapL) (k : ByteArray), es.Pairwise mLt → getC (outM es) k = getM es k
  | [], k, _ => rfl
  | p :: l, k, h => by
    rw [List.pairwise_cons] at h
    have ih := getC_out l k h.2
    have e : outM (p :: l) = if p.2 = 0 then outM l else ⟨p.1, p.2⟩ :: outM l := by
      unfold outM
      rw [List.filterMap_cons]
      by_cases hz : p.2 = 0 <;> simp [hz]
    rw [e]
    unfold getM
    by_cases hz : p.2 = 0
    · rw [if_pos hz, ih]
      by_cases hk : p.1 = k
      · rw [if_pos hk, hz, getM_none]
        intro q hq e2
        have := h.1 q hq
        unfold mLt at this
        rw [e2, ← hk, less_irrefl] at this; cases this
      · rw [if_neg hk]
    · rw [if_neg hz]
      unfold getC
      by_cases hk : p.1 = k
      · rw [if_pos hk, if_pos hk]
      · rw [if_neg hk, if_neg hk, ih]
theorem getM_inc (es : MapL) (k j : ByteArray) (n : Int) : getM (incM es k n) j = if j = k then wrap64 (getM es k + n) else getM es j := getM_set es k j _
theorem getM_in_inc {es : MapL} (h : ∀ k, inR (getM es k)) (k : ByteArray) (n : Int) : ∀ j, inR (getM (incM es k n) j) := fun j => by
  rw [getM_inc]
  split
  · exact wrap_in _
  · exact h j
theorem getM_in_add (t : Int) : ∀ (l : List Ct) (es : MapL), (∀ k, inR (getM es k)) → ∀ k, inR (getM (addM t es l) k)
  | [], es, h, k => h k
  | c :: l, es, h, k => getM_in_add t l _ (getM_in_inc h _ _) k
theorem getM_add (t : Int) : ∀ (l : List Ct) (es : MapL) (k : ByteArray), l.Pairwise cLt → (∀ k, inR (getM es k)) → getM (addM t es l) k = wrap64 (getM es k + t * getC l k)
  | [], es, k, _, h => by
    show getM es k = _
    unfold getC
    rw [Int.mul_zero, Int.add_zero, wrap_id (h k)]
  | c :: l, es, k, hp, h => by
    rw [List.pairwise_cons] at hp
    show getM (addM t (incM es c.f0 (wrap64 (t * c.f1))) l) k = _
    rw [getM_add t l _ k hp.2 (getM_in_inc h _ _), getM_inc, getC_cons]
    by_cases hk : k = c.f0
    · rw [if_pos hk, if_pos hk.symm, getC_none fun y hy e => cLt_ne (hp.1 y hy) (hk.symm.trans e.symm), hk]
      rw [Int.mul_zero, Int.add_zero, wrap_id (wrap_in _), wrap_r]
    · rw [if_neg hk, if_neg fun e => hk e.symm]
def KeysM (es : MapL) : Prop := ∀ p ∈ es, keyB p.1.data.toList = true
theorem keys_inc {es : MapL} (h : KeysM es) {k : ByteArray} (hk : keyB k.data.toList = true) (n : Int) : KeysM (incM es k n) := fun p hp => by
  rcases setM_mem hp with rfl | hp
  · exact hk
  · exact h p hp
theorem keys_add (t : Int) : ∀ (l : List Ct) {es : MapL}, KeysM es → (∀ x ∈ l, keyB x.f0.data.toList = true) → KeysM (addM t es l)
  | [], es, h, _ => h
  | c :: l, es, h, hl => keys_add t l (keys_inc h (hl c List.mem_cons_self) _) fun x hx => hl x (List.mem_cons_of_mem _ hx)
theorem may_out {es : MapL} (hu : es.Pairwise mLt) (hk : KeysM es) : mayC (outM es) = true := by
  rw [mayC_iff]
  refine ⟨fun x hx => ?_, out_up hu⟩
  obtain ⟨h1, h2⟩ := out_mem hx
  unfold oneC
  rw [hk _ h1]
  simp [h2]
theorem one_key {c : Ct} (h : oneC c = true) : keyB c.f0.data.toList = true := by unfold oneC at h; simp at h; exact h.1
theorem one_nz {c : Ct} (h : oneC c = true) : c.f1 ≠ 0 := by unfold oneC at h; simp at h; exact h.2
theorem may_keys {l : List Ct} (h : mayC l = true) : ∀ x ∈ l, keyB x.f0.data.toList = true := fun x hx => one_key (((mayC_iff l).1 h).1 x hx)
theorem may_nz {l : List Ct} (h : mayC l = true) : ∀ x ∈ l, x.f1 ≠ 0 := fun x hx => one_nz (((mayC_iff l).1 h).1 x hx)
theorem may_up {l : List Ct} (h : mayC l = true) : l.Pairwise cLt := ((mayC_iff l).1 h).2
theorem same_may {l m : List Ct} (h : mayC l = true) (g : mayC m = true) (e : ∀ k, getC l k = getC m k) : l = m := ctr_same l m (may_up h) (may_up g) (may_nz h) (may_nz g) e
theorem nil_in : ∀ k, inR (getM [] k) := fun k => by unfold getM inR; omega
theorem may_inc {l : List Ct} {k : ByteArray} {n : Int} (h : mayC l = true) (hk : keyB k.data.toList = true) : mayC (incO l k n) = true := by
  unfold incO
  rw [h, hk]
  exact may_out (incM_up _ _ (addM_up 1 l [] List.Pairwise.nil)) (keys_inc (keys_add 1 l (fun p hp => by cases hp) (may_keys h)) hk n)
theorem get_inc {l : List Ct} {k : ByteArray} {n : Int} (h : mayC l = true) (hk : keyB k.data.toList = true) (j : ByteArray) : getC (incO l k n) j = if j = k then wrap64 (getC l k + n) else wrap64 (getC l j) := by
  unfold incO
  rw [h, hk]
  simp only [Bool.and_self, if_true]
  rw [getC_out _ _ (incM_up _ _ (addM_up 1 l [] List.Pairwise.nil)), getM_inc]
  have e : ∀ i, getM (addM 1 [] l) i = wrap64 (getC l i) := fun i => by
    rw [getM_add 1 l [] i (may_up h) nil_in]
    unfold getM
    rw [Int.one_mul, Int.zero_add]
  rw [e, e, wrap_l]
theorem may_merge {base a b : List Ct} (h0 : mayC base = true) (h1 : mayC a = true) (h2 : mayC b = true) : mayC (mergeC base a b) = true := by
  unfold mergeC
  rw [h0, h1, h2]
  exact may_out (addM_up _ _ _ (addM_up _ _ _ (addM_up _ _ _ List.Pairwise.nil))) (keys_add _ _ (keys_add _ _ (keys_add _ _ (fun p hp => by cases hp) (may_keys h1)) (may_keys h2)) (may_keys h0))
theorem get_merge {base a b : List Ct} (h0 : mayC base = true) (h1 : mayC a = true) (h2 : mayC b = true) (k : ByteArray) : getC (mergeC base a b) k = wrap64 (getC a k + getC b k - getC base k) := by
  unfold mergeC
  rw [h0, h1, h2]
  simp only [Bool.and_self, if_true]
  have i1 := getM_in_add 1 a [] nil_in
  have i2 := getM_in_add 1 b _ i1
  rw [getC_out _ _ (addM_up _ _ _ (addM_up _ _ _ (addM_up _ _ _ List.Pairwise.nil))), getM_add (-1) base _ k (may_up h0) i2, getM_add 1 b _ k (may_up h2) i1, getM_add 1 a [] k (may_up h1) nil_in]
  unfold getM
  generalize getC a k = x
  generalize getC b k = y
  generalize getC base k = z
  unfold wrap64; omega
end Go.Proofs.Ytannmdngejdjkaa.L
