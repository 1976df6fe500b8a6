/- Several of the walk's texts in one: SRC, SApp, Sx26. -/
import Derived.Test.YtmcddoolniaehaaGreatMM04
import Derived.Test.YtmcddoolniaehaaGreatMM05
import Derived.Test.YtmcddoolniaehaaGreatMM21
import Derived.Test.YtmcddoolniaehaaGreatMM22
import Derived.Test.YtmcddoolniaehaaGreatMM23
section
namespace Go.Proofs.YtmcddoolniaehaaGreat.S
open Go.RowKit Go.Proofs.YtmcddoolniaehaaGreatW.PrintWords Go.Proofs.YtmcddoolniaehaaGreatW.PrintLast Go.Proofs.YtmcddoolniaehaaGreatW.PrintMore Go.Proofs.YtmcddoolniaehaaGreatW
set_option linter.unusedVariables false
set_option linter.unusedSimpArgs false
theorem mayD_loop : ∀ (suf pre : List Ct) (k : Nat), suf.length + 101 < k → (pre ++ suf).length < 4611686018427387904 → kS suf →
    ref06_May.l0 k (pre ++ suf) ((pre.length : Nat) : Int) = some (mayCP pre.getLast? suf)
  | suf, pre, 0, hk, _, _ => by omega
  | [], pre, k + 1, _, _, _ => by
    simp only [ref06_May.l0]
    rw [if_neg (by simp)]
    rfl
  | x :: suf, pre, k + 1, hk, hl, ho => by
    have hlt : ((pre.length : Nat) : Int) < (((pre ++ x :: suf).length : Nat) : Int) := by simp; omega
    have hpl : pre.length < 4611686018427387904 := by simp at hl; omega
    have hx := ho x List.mem_cons_self
    have ih := mayD_loop suf (pre ++ [x]) k (by simp at hk; omega) (by simpa using hl) (fun y hy => ho y (List.mem_cons_of_mem _ hy))
    rw [appS, List.getLast?_concat, lenS] at ih
    simp only [ref06_May.l0]
    rw [if_pos hlt, if_pos (by omega), rdC_mid, keyD_f x.f0 k (by omega) (by simp at hk; omega), Option.bind_some, wrapS hpl]
    unfold mayCP oneC
    cases h1 : keyB x.f0.data.toList with
    | false => rfl
    | true =>
      simp only [if_true, Bool.true_and]
      by_cases h0 : x.f1 = 0
      · rw [if_pos h0]; simp [h0]
      · rw [if_neg h0]
        simp only [ne_eq, h0, not_false_eq_true, decide_true, Bool.true_and]
        rcases List.eq_nil_or_concat pre with rfl | ⟨p, y, rfl⟩
        · rw [if_neg (by simp)]
          simpa using ih
        · rw [List.concat_eq_append] at *
          have hw : wrap64 ((((p ++ [y]).length : Nat) : Int) - 1) = ((p.length : Nat) : Int) := by
            rw [List.length_append, List.length_singleton]; exact wrapP (by simp at hpl; omega)
          rw [if_pos (by simp), hw, if_pos (by omega), if_pos (by simp; omega), appS, rdC_mid, List.getLast?_concat]
          rw [appS] at ih
          cases h2 : Op.bytesLess y.f0.toList x.f0.toList with
          | false => simp [h2]
          | true =>
            simp only [if_true]
            rw [ih, h2]; rfl
theorem mayD_f (k : Nat) (l : List Ct) (hk : l.length + 101 < k) (hl : l.length < 1000000) (ho : kS l) : ref06_May.f k l = some (mayC l) := by
  have := mayD_loop l [] k hk (by simp; omega) ho
  simpa [ref06_May.f, mayC] using this
theorem getD_loop (key : ByteArray) : ∀ (suf pre : List Ct) (k : Nat), suf.length < k → (pre ++ suf).length < 4611686018427387904 → ref06_Get.l0 k (pre ++ suf) key ((pre.length : Nat) : Int) = some (getC suf key)
  | suf, pre, 0, hk, _ => by omega
  | [], pre, k + 1, _, _ => by
    simp only [ref06_Get.l0]
    rw [if_neg (by simp)]
    rfl
  | x :: suf, pre, k + 1, hk, hl => by
    have hlt : ((pre.length : Nat) : Int) < (((pre ++ x :: suf).length : Nat) : Int) := by simp; omega
    have hpl : pre.length < 4611686018427387904 := by simp at hl; omega
    have ih := getD_loop key suf (pre ++ [x]) k (by simp at hk; omega) (by simpa using hl)
    rw [appS, lenS] at ih
    simp only [ref06_Get.l0]
    rw [if_pos hlt, if_pos (by omega), rdC_mid, wrapS hpl, ih, getC_cons]
    by_cases h : x.f0 = key
    · rw [if_pos (by rw [h]), if_pos h]
    · rw [if_neg (fun e => h (toList_inj e)), if_neg h]
theorem getD_f (k : Nat) (l : List Ct) (key : ByteArray) (hk : l.length < k) (hl : l.length < 1000000) : ref06_Get.f k l key = some (getC l key) := by
  have := getD_loop key l [] k hk (by simp; omega)
  simpa [ref06_Get.f] using this
def putC : List Ct → ByteArray → Int → List Ct
  | [], k, n => if n = 0 then [] else [⟨k, n⟩]
  | x :: l, k, n => if Op.bytesLess x.f0.toList k.toList then x :: putC l k n else (if n = 0 then [] else [⟨k, n⟩]) ++ (if x.f0 = k then l else x :: l)
theorem putC_mem {l : List Ct} {k : ByteArray} {n : Int} {x : Ct} (h : x ∈ putC l k n) : (x = ⟨k, n⟩ ∧ n ≠ 0) ∨ x ∈ l := by
  induction l with
  | nil =>
    unfold putC at h
    split at h
    · cases h
    · rename_i hn; exact .inl ⟨by simpa using h, hn⟩
  | cons y l ih =>
    unfold putC at h
    split at h
    · rcases List.mem_cons.1 h with rfl | h
      · exact .inr List.mem_cons_self
      · rcases ih h with h | h
        · exact .inl h
        · exact .inr (List.mem_cons_of_mem _ h)
    · rcases List.mem_append.1 h with h | h
      · split at h
        · cases h
        · rename_i hn; exact .inl ⟨by simpa using h, hn⟩
      · split at h
        · exact .inr (List.mem_cons_of_mem _ h)
        · exact .inr h
theorem putC_up {l : List Ct} {k : ByteArray} {n : Int} (h : l.Pairwise cLt) : (putC l k n).Pairwise cLt := by
  induction l with
  | nil => unfold putC; split <;> simp
  | cons y l ih =>
    rw [List.pairwise_cons] at h
    unfold putC
    cases hy : Op.bytesLess y.f0.toList k.toList with
    | true =>
      rw [if_pos rfl, List.pairwise_cons]
      refine ⟨fun x hx => ?_, ih h.2⟩
      rcases putC_mem hx with ⟨rfl, _⟩ | hx
      · exact hy
      · exact h.1 x hx
    | false =>
      rw [if_neg (by simp)]
      by_cases he : y.f0 = k
      · rw [if_pos he]
        split
        · exact h.2
        · simp only [List.cons_append, List.nil_append, List.pairwise_cons]
          exact ⟨fun x hx => by have := h.1 x hx; unfold cLt at this ⊢; rw [he] at this; exact this, h.2⟩
      · have hk : Op.bytesLess k.toList y.f0.toList = true := by
          cases q : Op.bytesLess k.toList y.f0.toList with
          | true => rfl
          | false => exact absurd (toList_inj (less_antisymm hy q)) he
        rw [if_neg he]
        split
        · simp only [List.nil_append, List.pairwise_cons]; exact h
        · simp only [List.cons_append, List.nil_append, List.pairwise_cons]
          refine ⟨fun x hx => ?_, h⟩
          rcases List.mem_cons.1 hx with rfl | hx
          · exact hk
          · exact less_trans hk (h.1 x hx)
theorem getC_put : ∀ (l : List Ct) (k j : ByteArray) (n : Int), l.Pairwise cLt → getC (putC l k n) j = if j = k then n else getC l j
  | [], k, j, n, _ => by
    unfold putC
    by_cases hn : n = 0
    · rw [if_pos hn]
      by_cases hj : j = k
      · rw [if_pos hj, hn]; rfl
      · rw [if_neg hj]
    · rw [if_neg hn, getC_cons]
      by_cases hj : j = k
      · rw [if_pos hj.symm, if_pos hj]
      · rw [if_neg (fun e => hj e.symm), if_neg hj]
  | y :: l, k, j, n, h => by
    rw [List.pairwise_cons] at h
    have ih := getC_put l k j n h.2
    unfold putC
    cases hy : Op.bytesLess y.f0.toList k.toList with
    | true =>
      rw [if_pos rfl, getC_cons, getC_cons, ih]
      by_cases hj : y.f0 = j
      · rw [if_pos hj, if_pos hj, if_neg]
        intro e
        rw [hj, e, less_irrefl] at hy; cases hy
      · rw [if_neg hj, if_neg hj]
    | false =>
      rw [if_neg (by simp)]
      have htail : getC (if y.f0 = k then l else y :: l) j = if j = k then 0 else getC (y :: l) j := by
        by_cases he : y.f0 = k
        · rw [if_pos he]
          by_cases hj : j = k
          · rw [if_pos hj]
            exact getC_none fun x hx e => cLt_ne (h.1 x hx) (he.trans (hj.symm.trans e.symm))
          · rw [if_neg hj, getC_cons, if_neg (fun e => hj (e.symm.trans he))]
        · rw [if_neg he]
          by_cases hj : j = k
          · rw [if_pos hj]
            have hk : Op.bytesLess k.toList y.f0.toList = true := by
              cases q : Op.bytesLess k.toList y.f0.toList with
              | true => rfl
              | false => exact absurd (toList_inj (less_antisymm hy q)) he
            refine getC_none fun x hx e => ?_
            rcases List.mem_cons.1 hx with rfl | hx
            · exact he (e.trans hj)
            · have := less_trans hk (h.1 x hx)
              rw [e, hj, less_irrefl] at this; cases this
          · rw [if_neg hj]
      by_cases hn : n = 0
      · rw [if_pos hn, List.nil_append, htail]
        by_cases hj : j = k
        · rw [if_pos hj, if_pos hj, hn]
        · rw [if_neg hj, if_neg hj]
      · rw [if_neg hn, List.cons_append, List.nil_append, getC_cons, htail]
        by_cases hj : j = k
        · rw [if_pos hj.symm, if_pos hj]
        · rw [if_neg (fun e => hj e.symm), if_neg hj, if_neg hj]
theorem may_putC {l : List Ct} {k : ByteArray} (n : Int) (h : mayC l = true) (hk : keyB k.data.toList = true) : mayC (putC l k n) = true := by
  rw [mayC_iff] at h ⊢
  refine ⟨fun x hx => ?_, putC_up h.2⟩
  rcases putC_mem hx with ⟨rfl, hn⟩ | hx
  · unfold oneC; rw [hk]; simp [hn]
  · exact h.1 x hx
theorem putC_len (l : List Ct) (k : ByteArray) (n : Int) : (putC l k n).length ≤ l.length + 1 := by
  induction l with
  | nil => unfold putC; split <;> simp
  | cons y l ih =>
    unfold putC
    split
    · simp; exact ih
    · rw [List.length_append]
      have h1 : (if n = 0 then [] else [(⟨k, n⟩ : Ct)]).length ≤ 1 := by split <;> simp
      have h2 : (if y.f0 = k then l else y :: l).length ≤ l.length + 1 := by split <;> simp
      simp only [List.length_cons]; omega
theorem putD_done (key : ByteArray) (n : Int) : ∀ (suf pre out : List Ct) (k : Nat), 2 * suf.length + 1 ≤ k → (pre ++ suf).length < 4611686018427387904 → out.length + suf.length < 2000000 → (∀ x ∈ suf, x.f0 ≠ key) →
    ref06_put.l0 k (pre ++ suf) key n out true ((pre.length : Nat) : Int) = some (out ++ suf)
  | suf, pre, out, 0, hk, _, _, _ => by omega
  | [], pre, out, k + 1, _, _, _, _ => by
    simp only [ref06_put.l0]
    rw [if_neg (by simp)]
    simp
  | x :: suf, pre, out, k + 1, hk, hl, ho, hne => by
    have hlt : ((pre.length : Nat) : Int) < (((pre ++ x :: suf).length : Nat) : Int) := by simp; omega
    have hpl : pre.length < 4611686018427387904 := by simp at hl; omega
    simp only [List.length_cons] at hk ho
    obtain ⟨j, rfl⟩ : ∃ j, k = j + 1 := ⟨k - 1, by omega⟩
    have ih := putD_done key n suf (pre ++ [x]) (out ++ [x]) j (by omega) (by simpa using hl) (by simp; omega) (fun y hy => hne y (List.mem_cons_of_mem _ hy))
    rw [appS, lenS, appS] at ih
    simp only [ref06_put.l0]
    rw [if_pos hlt, if_pos trivial]
    simp only [ref06_put.j1, Bool.false_eq_true, if_false]
    rw [if_pos (by omega), if_pos hlt, rdC_mid, if_neg (fun e => hne x List.mem_cons_self (toList_inj e)), if_pos (by omega), wrapS hpl]
    exact ih
theorem putD_loop (key : ByteArray) (n : Int) : ∀ (suf pre out : List Ct) (k : Nat), 2 * suf.length + 1 ≤ k → (pre ++ suf).length < 4611686018427387904 → out.length + suf.length < 1000000 → suf.Pairwise cLt →
    ref06_put.l0 k (pre ++ suf) key n out false ((pre.length : Nat) : Int) = some (out ++ putC suf key n)
  | suf, pre, out, 0, hk, _, _, _ => by omega
  | [], pre, out, k + 1, _, _, ho, _ => by
    simp only [ref06_put.l0]
    rw [if_neg (by simp), if_neg (by simp)]
    unfold putC
    by_cases hn : n = 0
    · rw [if_pos hn, if_pos hn, List.append_nil]
    · rw [if_neg hn, if_neg hn, if_pos (by simp at ho; omega)]
  | x :: suf, pre, out, k + 1, hk, hl, ho, hp => by
    have hlt : ((pre.length : Nat) : Int) < (((pre ++ x :: suf).length : Nat) : Int) := by simp; omega
    have hpl : pre.length < 4611686018427387904 := by simp at hl; omega
    simp only [List.length_cons] at hk ho
    rw [List.pairwise_cons] at hp
    obtain ⟨j, rfl⟩ : ∃ j, k = j + 1 := ⟨k - 1, by omega⟩
    have ih := putD_loop key n suf (pre ++ [x]) (out ++ [x]) j (by omega) (by simpa using hl) (by simp; omega) hp.2
    rw [appS, lenS, appS] at ih
    have hd := fun o (h1 : o.length ≤ out.length + 2) (h : ∀ y ∈ suf, y.f0 ≠ key) => putD_done key n suf (pre ++ [x]) o j (by omega) (by simpa using hl) (by omega) h
    rw [appS, lenS] at hd
    simp only [ref06_put.l0]
    rw [if_pos hlt, if_neg (by simp), if_pos (by omega), rdC_mid]
    unfold putC
    cases hx : Op.bytesLess x.f0.toList key.toList with
    | true =>
      have hne : x.f0 ≠ key := fun e => by rw [e, less_irrefl] at hx; cases hx
      simp only [Bool.not_true, ref06_put.j1, Bool.false_eq_true, if_false, if_true]
      rw [if_pos (by omega), if_pos hlt, rdC_mid, if_neg (fun e => hne (toList_inj e)), if_pos (by omega), wrapS hpl]
      exact ih
    | false =>
      simp only [Bool.not_false, ref06_put.j1, Bool.false_eq_true, if_false, if_true]
      by_cases he : x.f0 = key
      · have hrest : ∀ y ∈ suf, y.f0 ≠ key := fun y hy e => cLt_ne (hp.1 y hy) (he.trans e.symm)
        rw [if_pos he]
        by_cases hn : n = 0
        · rw [if_pos hn, if_pos hn, if_pos (by omega), if_pos hlt, rdC_mid, if_pos (by rw [he]), wrapS hpl]
          refine (hd out (by omega) hrest).trans ?_
          simp
        · rw [if_neg hn, if_neg hn, if_pos (by omega), Option.bind_some, if_pos (by omega), if_pos hlt, rdC_mid, if_pos (by rw [he]), wrapS hpl]
          refine (hd (out ++ [⟨key, n⟩]) (by simp) hrest).trans ?_
          simp
      · have hkx : Op.bytesLess key.toList x.f0.toList = true := by
          cases q : Op.bytesLess key.toList x.f0.toList with
          | true => rfl
          | false => exact absurd (toList_inj (less_antisymm hx q)) he
        have hrest : ∀ y ∈ suf, y.f0 ≠ key := fun y hy e => by
          have := less_trans hkx (hp.1 y hy)
          rw [e, less_irrefl] at this; cases this
        rw [if_neg he]
        by_cases hn : n = 0
        · rw [if_pos hn, if_pos hn, if_pos (by omega), if_pos hlt, rdC_mid, if_neg (fun e => he (toList_inj e)), if_pos (by omega), wrapS hpl]
          refine (hd (out ++ [x]) (by simp) hrest).trans ?_
          simp
        · rw [if_neg hn, if_neg hn, if_pos (by omega), Option.bind_some, if_pos (by omega), if_pos hlt, rdC_mid, if_neg (fun e => he (toList_inj e)), if_pos (by simp; omega), wrapS hpl]
          refine (hd (out ++ [⟨key, n⟩] ++ [x]) (by simp) hrest).trans ?_
          simp
theorem putD_f (k : Nat) (l : List Ct) (key : ByteArray) (n : Int) (hk : 2 * l.length + 1 ≤ k) (hl : l.length < 1000000) (hp : l.Pairwise cLt) : ref06_put.f k l key n = some (putC l key n) := by
  have := putD_loop key n l [] [] k hk (by simp; omega) (by simp; omega) hp
  simpa [ref06_put.f] using this
def valD (base a b : List Ct) (q : ByteArray) : Int := wrap64 (wrap64 (getC a q + getC b q) - getC base q)
theorem mergeD_loop (base a b : List Ct) : ∀ (suf pre out : List Ct) (k : Nat), 3 * suf.length + 2 * out.length + base.length + a.length + b.length + 20 < k → (pre ++ suf).length < 4611686018427387904 → out.length + suf.length < 900 → mayC out = true → (∀ x ∈ suf, keyB x.f0.data.toList = true) →
    base.length < 1000 → a.length < 1000 → b.length < 1000 →
    ref06_Merge.l0 k base a b (pre ++ suf) out ((pre.length : Nat) : Int) = some (suf.foldl (fun o x => putC o x.f0 (valD base a b x.f0)) out)
  | suf, pre, out, 0, hk, _, _, _, _, _, _, _ => by omega
  | [], pre, out, k + 1, _, _, _, _, _, _, _, _ => by
    simp only [ref06_Merge.l0]
    rw [if_neg (by simp)]
    rfl
  | x :: suf, pre, out, k + 1, hk, hl, ho, hm, hs, l1, l2, l3 => by
    have hlt : ((pre.length : Nat) : Int) < (((pre ++ x :: suf).length : Nat) : Int) := by simp; omega
    have hpl : pre.length < 4611686018427387904 := by simp at hl; omega
    simp only [List.length_cons] at hk ho
    have hlen := putC_len out x.f0 (valD base a b x.f0)
    have ih := mergeD_loop base a b suf (pre ++ [x]) (putC out x.f0 (valD base a b x.f0)) k (by omega) (by simpa using hl) (by omega) (may_putC _ hm (hs x List.mem_cons_self)) (fun y hy => hs y (List.mem_cons_of_mem _ hy)) l1 l2 l3
    rw [appS, lenS] at ih
    simp only [ref06_Merge.l0]
    rw [if_pos hlt, if_pos (by omega), rdC_mid, getD_f k a _ (by omega) (by omega), getD_f k b _ (by omega) (by omega), getD_f k base _ (by omega) (by omega)]
    simp only [Option.bind_some]
    rw [show wrap64 (wrap64 (getC a x.f0 + getC b x.f0) - getC base x.f0) = valD base a b x.f0 from rfl, putD_f k out _ _ (by omega) (by omega) (may_up hm), Option.bind_some, wrapS hpl]
    exact ih
theorem foldD_may (base a b : List Ct) : ∀ (suf out : List Ct), mayC out = true → (∀ x ∈ suf, keyB x.f0.data.toList = true) → mayC (suf.foldl (fun o x => putC o x.f0 (valD base a b x.f0)) out) = true
  | [], out, h, _ => h
  | x :: suf, out, h, hs => foldD_may base a b suf _ (may_putC _ h (hs x List.mem_cons_self)) (fun y hy => hs y (List.mem_cons_of_mem _ hy))
theorem foldD_get (base a b : List Ct) (q : ByteArray) : ∀ (suf out : List Ct), mayC out = true → (∀ x ∈ suf, keyB x.f0.data.toList = true) → (getC out q = valD base a b q ∨ (∃ x ∈ suf, x.f0 = q) ∨ (getC out q = 0 ∧ valD base a b q = 0)) → getC (suf.foldl (fun o x => putC o x.f0 (valD base a b x.f0)) out) q = valD base a b q
  | [], out, h, _, hc => by
    rcases hc with h1 | ⟨x, hx, _⟩ | ⟨h1, h2⟩
    · exact h1
    · cases hx
    · show getC out q = _
      rw [h1, h2]
  | x :: suf, out, h, hs, hc => by
    refine foldD_get base a b q suf _ (may_putC _ h (hs x List.mem_cons_self)) (fun y hy => hs y (List.mem_cons_of_mem _ hy)) ?_
    rw [getC_put out x.f0 q _ (may_up h)]
    by_cases hq : q = x.f0
    · rw [if_pos hq, hq]; exact .inl rfl
    · rw [if_neg hq]
      rcases hc with h1 | ⟨y, hy, hyq⟩ | h1
      · exact .inl h1
      · rcases List.mem_cons.1 hy with rfl | hy
        · exact absurd hyq.symm hq
        · exact .inr (.inl ⟨y, hy, hyq⟩)
      · exact .inr (.inr h1)
theorem mergeD_f (k : Nat) (base a b : List Ct) (hk : 800 < k) (l0 : base.length ≤ 30) (l1 : a.length ≤ 30) (l2 : b.length ≤ 30) (s0 : kS base) (s1 : kS a) (s2 : kS b) : ref06_Merge.f k base a b = some (mergeC base a b) := by
  unfold ref06_Merge.f
  rw [mayD_f k base (by omega) (by omega) s0, mayD_f k a (by omega) (by omega) s1, mayD_f k b (by omega) (by omega) s2]
  simp only [Option.bind_some]
  obtain ⟨j, rfl⟩ : ∃ j, k = j + 1 := ⟨k - 1, by omega⟩
  cases h0 : mayC base with
  | false =>
    have e : mergeC base a b = [] := by unfold mergeC; rw [h0]; rfl
    rw [e]; simp [ref06_Merge.j0]
  | true =>
    cases h1 : mayC a with
    | false =>
      have e : mergeC base a b = [] := by unfold mergeC; rw [h1, Bool.false_and, Bool.and_false]; rfl
      rw [e]; simp [ref06_Merge.j0]
    | true =>
      cases h2 : mayC b with
      | false =>
        have e : mergeC base a b = [] := by unfold mergeC; rw [h2, Bool.and_false, Bool.and_false]; rfl
        rw [e]; simp [ref06_Merge.j0]
      | true =>
        simp only [if_true, ref06_Merge.j0, Bool.not_true, Bool.false_eq_true, if_false, List.nil_append, List.length_nil, Nat.zero_add]
        rw [if_pos (by omega), Option.bind_some, if_pos (by omega), Option.bind_some, if_pos (by rw [List.length_append]; omega)]
        have hk3 : ∀ x ∈ base ++ a ++ b, keyB x.f0.data.toList = true := fun x hx => by
          rcases List.mem_append.1 hx with hx | hx
          · rcases List.mem_append.1 hx with hx | hx
            · exact may_keys h0 x hx
            · exact may_keys h1 x hx
          · exact may_keys h2 x hx
        have hl3 : (base ++ a ++ b).length = base.length + a.length + b.length := by simp [Nat.add_assoc]
        have := mergeD_loop base a b (base ++ a ++ b) [] [] j (by rw [hl3]; simp; omega) (by simp; omega) (by rw [hl3]; simp; omega) rfl hk3 (by omega) (by omega) (by omega)
        simp only [List.nil_append, List.length_nil] at this
        rw [show ((0 : Nat) : Int) = 0 from rfl] at this
        rw [this]
        congr 1
        refine same_may (foldD_may base a b _ [] rfl hk3) (may_merge h0 h1 h2) fun q => ?_
        rw [get_merge h0 h1 h2, foldD_get base a b q (base ++ a ++ b) [] rfl hk3, valD, wrap_sl]
        by_cases hq : ∃ x ∈ base ++ a ++ b, x.f0 = q
        · exact .inr (.inl hq)
        · have hn : ∀ l : List Ct, (∀ x ∈ l, x ∈ base ++ a ++ b) → getC l q = 0 := fun l hl => getC_none fun x hx e => hq ⟨x, hl x hx, e⟩
          refine .inr (.inr ⟨rfl, ?_⟩)
          unfold valD
          rw [hn a (fun x hx => by simp [hx]), hn b (fun x hx => by simp [hx]), hn base (fun x hx => by simp [hx])]
          unfold wrap64; omega
end Go.Proofs.YtmcddoolniaehaaGreat.S
end
section
namespace Go.Proofs.YtmcddoolniaehaaGreat.S
open Go Go.RowKit Go.Proofs.YtmcddoolniaehaaGreatW.PrintWords Go.Proofs.YtmcddoolniaehaaGreatW.PrintLast Go.Proofs.YtmcddoolniaehaaGreatW.PrintMore Go.Proofs.YtmcddoolniaehaaGreatW
set_option linter.unusedVariables false
structure Ou {α : Type} (d : Kd α) (t : TypeId) (w0 : World) (v : Value) (xs : List α) (W : World) : Prop where
  r : Kd.R d t W w0.heap.size (fun _ => True) v xs
  b : Below w0.heap.size w0 W
section
variable {α : Type} {d : Kd α} {t : TypeId} {w0 : World} {v : Value} {xs : List α} {W W' : World}
theorem Ou.go (h : Ou d t w0 v xs W) (hb : Below W.heap.size W W') : Ou d t w0 v xs W' := ⟨Kd.R_below h.r hb, below_step h.b hb⟩
theorem Ou.alloc (h : Ou d t w0 v xs W) (o : Obj) : Ou d t w0 v xs (W.alloc o) := h.go (below_alloc (Below.refl _ _) o)
theorem Ou.drew (h : Ou d t w0 v xs W) : Ou d t w0 v xs W.drew := h.go (below_drew (Below.refl _ _))
theorem Ou.nil (h : Below w0.heap.size w0 W) : Ou d t w0 (.slice none 0 0) [] W := ⟨Kd.R_nil _ _ _ _ _, h⟩
end
structure Kept1 (v : Value) (W : World) (v1 : Value) (w1 : World) : Prop where
  g : W.grownBy w1 v.ownBlock
  a : v1.ownBlock = v.ownBlock ∨ ∃ b, v1.ownBlock = some b ∧ W.heap.size ≤ b
theorem Kept1.box {v v1 : Value} {W w1 : World} (h : Kept1 v W v1 w1) {g : Nat} {o : Obj} (ho : W.heap[g]? = some o) (hn : v.ownBlock ≠ some g) : w1.heap[g]? = some o ∧ v1.ownBlock ≠ some g :=
  ⟨(h.g.block g (blk_lt ho) (Ne.symm hn)).trans ho, by
    rcases h.a with h | ⟨b, h, hb⟩
    · rw [h]; exact hn
    · rw [h]; intro e; cases e; exact absurd (blk_lt ho) (by omega)⟩
def Apart1 (u v : Value) : Prop := ∀ k, u.ownBlock = some k → some k ≠ v.ownBlock
theorem Kept1.ap {α : Type} {d : Kd α} {t base : Nat} {ok : Nat → Prop} {u u1 v : Value} {xs : List α} {W w1 : World} (h : Kept1 u W u1 w1) (hr : d.R t W base ok v xs) (ha : Apart1 u v) : Apart1 u1 v := fun k hk => by
  rcases h.a with h | ⟨b, h, hb⟩
  · exact ha k (h ▸ hk)
  · rw [h] at hk; cases hk
    intro e
    exact absurd (Kd.R_lt hr _ e.symm) (by omega)
theorem Ou.other {α : Type} {d : Kd α} {t : TypeId} {w0 : World} {u u1 v : Value} {xs ys : List α} {W w1 : World} (h : Ou d t w0 v xs W) (hE : d.E = []) (hk : Kept1 u W u1 w1) (ho : Ou d t w0 u1 ys w1) (ha : Apart1 u v) : Ou d t w0 v xs w1 := ⟨Kd.R_grown2 h.r hE hk.g ha, ho.b⟩
structure Ob {α : Type} (d : Kd α) (t : TypeId) (w0 : World) (g0 : Nat) (o : Obj) (v : Value) (xs : List α) (W : World) : Prop extends Ou d t w0 v xs W where
  x : W.heap[g0]? = some o
  n : v.ownBlock ≠ some g0
section
variable {α : Type} {d : Kd α} {t : TypeId} {w0 : World} {g0 : Nat} {o : Obj} {v v1 : Value} {xs ys : List α} {W W' : World}
theorem Ob.go (h : Ob d t w0 g0 o v xs W) (hb : Below W.heap.size W W') : Ob d t w0 g0 o v xs W' := ⟨h.toOu.go hb, blk_below h.x hb, h.n⟩
theorem Ob.drew (h : Ob d t w0 g0 o v xs W) : Ob d t w0 g0 o v xs W.drew := h.go (below_drew (Below.refl _ _))
theorem Ob.kept (h : Ob d t w0 g0 o v xs W) (h1 : Ou d t w0 v1 ys W') (hk : Kept1 v W v1 W') : Ob d t w0 g0 o v1 ys W' := ⟨h1, (hk.box h.x h.n).1, (hk.box h.x h.n).2⟩
end
section
variable {α : Type} {d : Kd α} {t : TypeId} {w0 : World} {v : Value} {xs : List α} {W W' : World}
theorem Ou.of (h : Kd.R d t W' W.heap.size (fun _ => True) v xs) (hb : Below w0.heap.size w0 W) (hb2 : Below W.heap.size W W') : Ou d t w0 v xs W' := ⟨Kd.R_lower h hb.size, below_step hb hb2⟩
end
section
variable {ops : Array Oper} {rest : List Oper} {op : Oper} {a : Act} {Q : Exit → Act → World → Prop}
theorem apC (x : S73) {w0 W : World} {v : Value} {xs : List S73} (H : Ou k73 73 w0 v xs W) (hl : xs.length ≤ 100000) (hgd : op.guard = none) (s y : Operand) (ho : op.op = .call { callee := .builtin .append, args := #[s, y], argTypes := #[22, 22] }) (hs : a.eval s = v) (hy : a.eval y = .slice (some ⟨W.heap.size, 0, none⟩) 1 1)
    (h : ∀ v1 w1, Kept1 v W v1 w1 → Ou k73 73 w0 v1 (xs ++ [x]) w1 → wpList Tryz.prog ops Q rest (a.put op.dst v1) w1) : wpList Tryz.prog ops Q (op :: rest) a (W.alloc (.cells #[.string x.f0, .int .i64 x.f1] 73)) :=
  Kd.R_append k73 (w0 := w0) w0.heap.size hgd s y 22 73 (.agg #[(.string ⟨#[]⟩), (.int .i64 0)]) 24 ho Tryz.underlying22 info73 rfl (by decide) (by omega) v xs x [.string x.f0, .int .i64 x.f1] (fun _ => True) (fun _ => False) hs hy (k73_mkM _ _ _ x) (fun _ hk => hk.elim) (fun _ _ => trivial) H.r H.b H.b.size (by omega) (fun v1 w1 hr hb hg hat => h v1 w1 ⟨hg, hat⟩ ⟨hr, hb⟩)
theorem apR (x : S47) {w0 W : World} {v : Value} {xs : List S47} (H : Ou k47 47 w0 v xs W) (hl : xs.length ≤ 100000) (hgd : op.guard = none) (s y : Operand) (ho : op.op = .call { callee := .builtin .append, args := #[s, y], argTypes := #[23, 23] }) (hs : a.eval s = v) (hy : a.eval y = .slice (some ⟨W.heap.size, 0, none⟩) 1 1)
    (h : ∀ v1 w1, Kept1 v W v1 w1 → Ou k47 47 w0 v1 (xs ++ [x]) w1 → wpList Tryz.prog ops Q rest (a.put op.dst v1) w1) : wpList Tryz.prog ops Q (op :: rest) a (W.alloc (.cells #[.string x.f0, .string x.f1, .int .i64 x.f2, .int .i64 x.f3.f0, .int .i64 x.f3.f1] 47)) :=
  Kd.R_append k47 (w0 := w0) w0.heap.size hgd s y 23 47 (.agg #[(.string ⟨#[]⟩), (.string ⟨#[]⟩), (.int .i64 0), (.int .i64 0), (.int .i64 0)]) 56 ho Tryz.underlying23 info47 rfl (by decide) (by omega) v xs x [.string x.f0, .string x.f1, .int .i64 x.f2, .int .i64 x.f3.f0, .int .i64 x.f3.f1] (fun _ => True) (fun _ => False) hs hy (k47_mkM _ _ _ x) (fun _ hk => hk.elim) (fun _ _ => trivial) H.r H.b H.b.size (by omega) (fun v1 w1 hr hb hg hat => h v1 w1 ⟨hg, hat⟩ ⟨hr, hb⟩)
theorem apP (x : S43) {w0 W : World} {v : Value} {xs : List S43} (H : Ou k43 43 w0 v xs W) (hl : xs.length ≤ 100000) (hgd : op.guard = none) (s y : Operand) (ho : op.op = .call { callee := .builtin .append, args := #[s, y], argTypes := #[24, 24] }) (hs : a.eval s = v) (hy : a.eval y = .slice (some ⟨W.heap.size, 0, none⟩) 1 1)
    (h : ∀ v1 w1, Kept1 v W v1 w1 → Ou k43 43 w0 v1 (xs ++ [x]) w1 → wpList Tryz.prog ops Q rest (a.put op.dst v1) w1) : wpList Tryz.prog ops Q (op :: rest) a (W.alloc (.cells #[.string x.f0, .string x.f1, .int .i64 x.f2.f0, .int .i64 x.f2.f1] 43)) :=
  Kd.R_append k43 (w0 := w0) w0.heap.size hgd s y 24 43 (.agg #[(.string ⟨#[]⟩), (.string ⟨#[]⟩), (.int .i64 0), (.int .i64 0)]) 48 ho Tryz.underlying24 info43 rfl (by decide) (by omega) v xs x [.string x.f0, .string x.f1, .int .i64 x.f2.f0, .int .i64 x.f2.f1] (fun _ => True) (fun _ => False) hs hy (k43_mkM _ _ _ x) (fun _ hk => hk.elim) (fun _ _ => trivial) H.r H.b H.b.size (by omega) (fun v1 w1 hr hb hg hat => h v1 w1 ⟨hg, hat⟩ ⟨hr, hb⟩)
theorem arC {w0 W : World} {v : Value} {xs ys : List S73} {A : Option Addr} {m c : Nat} (H : Ou k73 73 w0 v xs W) (HR : Kd.C k73 W A m ys) (hl : xs.length + m ≤ 100000) (hgd : op.guard = none) (s y : Operand) (ho : op.op = .call { callee := .builtin .append, args := #[s, y], argTypes := #[22, 22] }) (hs : a.eval s = v) (hy : a.eval y = .slice A m c)
    (h : ∀ v1 w1, Kept1 v W v1 w1 → Ou k73 73 w0 v1 (xs ++ ys) w1 → wpList Tryz.prog ops Q rest (a.put op.dst v1) w1) : wpList Tryz.prog ops Q (op :: rest) a W :=
  Kd.R_append_rows k73 (w0 := w0) w0.heap.size hgd s y 22 73 (.agg #[(.string ⟨#[]⟩), (.int .i64 0)]) 24 ho Tryz.underlying22 info73 rfl (by decide) (by omega) v xs ys A m c (fun _ => True) (fun _ => False) hs hy H.r HR (fun _ _ h => h) (fun _ hk => hk.elim) (fun _ _ => trivial) H.b H.b.size (by omega) (fun v1 w1 hr hb hg hat => h v1 w1 ⟨hg, hat⟩ ⟨hr, hb⟩)
theorem arR {w0 W : World} {v : Value} {xs ys : List S47} {A : Option Addr} {m c : Nat} (H : Ou k47 47 w0 v xs W) (HR : Kd.C k47 W A m ys) (hl : xs.length + m ≤ 100000) (hgd : op.guard = none) (s y : Operand) (ho : op.op = .call { callee := .builtin .append, args := #[s, y], argTypes := #[23, 23] }) (hs : a.eval s = v) (hy : a.eval y = .slice A m c)
    (h : ∀ v1 w1, Kept1 v W v1 w1 → Ou k47 47 w0 v1 (xs ++ ys) w1 → wpList Tryz.prog ops Q rest (a.put op.dst v1) w1) : wpList Tryz.prog ops Q (op :: rest) a W :=
  Kd.R_append_rows k47 (w0 := w0) w0.heap.size hgd s y 23 47 (.agg #[(.string ⟨#[]⟩), (.string ⟨#[]⟩), (.int .i64 0), (.int .i64 0), (.int .i64 0)]) 56 ho Tryz.underlying23 info47 rfl (by decide) (by omega) v xs ys A m c (fun _ => True) (fun _ => False) hs hy H.r HR (fun _ _ h => h) (fun _ hk => hk.elim) (fun _ _ => trivial) H.b H.b.size (by omega) (fun v1 w1 hr hb hg hat => h v1 w1 ⟨hg, hat⟩ ⟨hr, hb⟩)
theorem arP {w0 W : World} {v : Value} {xs ys : List S43} {A : Option Addr} {m c : Nat} (H : Ou k43 43 w0 v xs W) (HR : Kd.C k43 W A m ys) (hl : xs.length + m ≤ 100000) (hgd : op.guard = none) (s y : Operand) (ho : op.op = .call { callee := .builtin .append, args := #[s, y], argTypes := #[24, 24] }) (hs : a.eval s = v) (hy : a.eval y = .slice A m c)
    (h : ∀ v1 w1, Kept1 v W v1 w1 → Ou k43 43 w0 v1 (xs ++ ys) w1 → wpList Tryz.prog ops Q rest (a.put op.dst v1) w1) : wpList Tryz.prog ops Q (op :: rest) a W :=
  Kd.R_append_rows k43 (w0 := w0) w0.heap.size hgd s y 24 43 (.agg #[(.string ⟨#[]⟩), (.string ⟨#[]⟩), (.int .i64 0), (.int .i64 0)]) 48 ho Tryz.underlying24 info43 rfl (by decide) (by omega) v xs ys A m c (fun _ => True) (fun _ => False) hs hy H.r HR (fun _ _ h => h) (fun _ hk => hk.elim) (fun _ _ => trivial) H.b H.b.size (by omega) (fun v1 w1 hr hb hg hat => h v1 w1 ⟨hg, hat⟩ ⟨hr, hb⟩)
end
end Go.Proofs.YtmcddoolniaehaaGreat.S
end
section
namespace Go.Proofs.YtmcddoolniaehaaGreat.S
open Go.RowKit Go.Proofs.YtmcddoolniaehaaGreatW.PrintWords Go.Proofs.YtmcddoolniaehaaGreatW.PrintLast Go.Proofs.YtmcddoolniaehaaGreatW.PrintMore
attribute [local go_sem] max2_int min2_int max_two min_two max_three min_three max_four min_four   -- for this text's walks alone
set_option linter.unusedVariables false
set_option linter.unusedSimpArgs false

def ref07_one.f (k : Nat) (a0_0 : ByteArray) (a0_1 : ByteArray) (a0_2 : Int) (a0_3 : Int) (a0_4 : Int) : Option (Bool) := (ref05_Key.f k a0_0).bind fun t227 => ((ref05_Key.f k a0_1).bind fun t228 => (if t227 = true then (if t228 = true then (if a0_2 > 0 then (if a0_3 ≥ 0 then (if a0_3 < 8 then (some (decide (a0_4 > 0))) else (some false)) else (some false)) else (some false)) else (some false)) else (some false)))
theorem ref07_one.mono : ∀ a0 a1 a2 a3 a4 k, LeO (ref07_one.f k a0 a1 a2 a3 a4) (ref07_one.f (k + 1) a0 a1 a2 a3 a4) := by
 intro a0 a1 a2 a3 a4 k
 unfold ref07_one.f
 repeat' first
   | (with_reducible exact ref05_Key.mono _ _)
   | (with_reducible exact LeO.refl _)
   | (with_reducible exact LeO.none _)
   | (with_reducible refine LeO.ite ?_ ?_)
   | (with_reducible refine LeO.bind ?_ (fun _ => ?_))
   | exact ref05_Key.mono _ _
   | exact LeO.none _
   | refine LeO.ite ?_ ?_
   | refine LeO.bind ?_ (fun _ => ?_)
set_option maxHeartbeats 8000000 in
set_option maxRecDepth 100000 in
theorem ref07_one.calls (k : Nat) (a0_0 : ByteArray) (a0_1 : ByteArray) (a0_2 : Int) (a0_3 : Int) (a0_4 : Int) (r : Bool) (w : World) (h : ref07_one.f k a0_0 a0_1 a0_2 a0_3 a0_4 = some r) :
  Calls Tryz.prog 91 #[.agg #[.string a0_0, .string a0_1, .int .i64 a0_2, .int .i64 a0_3, .int .i64 a0_4]] w fun e w' => e = .returned (.bool r) ∧ Below w.heap.size w w' := by
 have hu47 := Tryz.underlying47
 have HB := Aside0.mk (Below.refl w.heap.size w)
 have H : ((ref05_Key.f k a0_0).bind fun t227 => ((ref05_Key.f k a0_1).bind fun t228 => (if t227 = true then (if t228 = true then (if a0_2 > 0 then (if a0_3 ≥ 0 then (if a0_3 < 8 then (some (decide (a0_4 > 0))) else (some false)) else (some false)) else (some false)) else (some false)) else (some false)))) = some r := h
 clear h
 replace H := Option.bind_eq_some_iff.mp H
 obtain ⟨t227, A20, H⟩ := H
 replace H : ((ref05_Key.f k a0_1).bind fun t228 => (if t227 = true then (if t228 = true then (if a0_2 > 0 then (if a0_3 ≥ 0 then (if a0_3 < 8 then (some (decide (a0_4 > 0))) else (some false)) else (some false)) else (some false)) else (some false)) else (some false))) = some r := H
 have A2 := Aside0.mk A20
 clear A20
 replace H := Option.bind_eq_some_iff.mp H
 obtain ⟨t228, A30, H⟩ := H
 replace H : (if t227 = true then (if t228 = true then (if a0_2 > 0 then (if a0_3 ≥ 0 then (if a0_3 < 8 then (some (decide (a0_4 > 0))) else (some false)) else (some false)) else (some false)) else (some false)) else (some false)) = some r := H
 have A3 := Aside0.mk A30
 clear A30
 by_cases c4 : t227 = true
 ·subst c4
  have H1 : (if t228 = true then (if a0_2 > 0 then (if a0_3 ≥ 0 then (if a0_3 < 8 then (some (decide (a0_4 > 0))) else (some false)) else (some false)) else (some false)) else (some false)) = some r := by rw [if_pos rfl] at H; exact H
  clear H
  have H := H1
  clear H1
  by_cases c5 : t228 = true
  ·subst c5
   have H1 : (if a0_2 > 0 then (if a0_3 ≥ 0 then (if a0_3 < 8 then (some (decide (a0_4 > 0))) else (some false)) else (some false)) else (some false)) = some r := by rw [if_pos rfl] at H; exact H
   clear H
   have H := H1
   clear H1
   by_cases c6 : a0_2 > 0
   ·rw [if_pos c6] at H
    have c6b0 : decide (0 < a0_2) = true := decide_eq_true c6
    clear c6
    by_cases c7 : a0_3 ≥ 0
    ·rw [if_pos c7] at H
     have c7b0 : decide (0 ≤ a0_3) = true := decide_eq_true c7
     clear c7
     by_cases c8 : a0_3 < 8
     ·rw [if_pos c8] at H
      have c8b0 : decide (a0_3 < 8) = true := decide_eq_true c8
      clear c8
      obtain rfl := Option.some.inj H
      go_enter Tryz.func91, Tryz.ntmps91
      go_wp2_with (first | ((with_reducible refine gate_dst (N := 1) rfl ?_); refine box_event ?hg (N := 1) ?hd (cs := #[.string a0_0, .string a0_1, .int .i64 a0_2, .int .i64 a0_3, .int .i64 a0_4]) (t := 47) ?hr ?_; (case hd => rfl); (case hg => rfl); (case hr => first | (go_simp; done) | (go_simp; rfl)); intro gb226 hg w9 hbox hb; have n0_ := Aside0.mk (below_step (by repeat (first | (with_reducible first | exact HB.out | apply below_alloc | apply pw_below_drewN | apply below_drew1) | exact HB.out)) hb); have n1_ := Aside0.mk (hbox); have n2_ := Aside0.mk ((by rw [hg]; exact (below_size (by repeat (first | (with_reducible first | exact HB.out | apply below_alloc | apply pw_below_drewN | apply below_drew1) | exact HB.out))) : w.heap.size ≤ gb226)); have n3_ := Aside0.mk ((by rw [hg]; exact (below_size (by repeat (first | (with_reducible first | exact HB.out | apply below_alloc | apply pw_below_drewN | apply below_drew1) | exact HB.out))) : w.heap.size ≤ gb226)); clear HB; have HB := n0_; have BK226 := n1_; have GW226 := n2_; have GE226 := n3_; clear n0_ n1_ n2_ n3_; clear hb hbox hg; have hcz10_0 : w9.cell? ⟨gb226, 0, none⟩ = some (.string a0_0) := (blk_cell BK226.out 0).trans rfl; have hcz10_1 : w9.cell? ⟨gb226, 1, none⟩ = some (.string a0_1) := (blk_cell BK226.out 1).trans rfl; have hcz10_2 : w9.cell? ⟨gb226, 2, none⟩ = some (.int .i64 a0_2) := (blk_cell BK226.out 2).trans rfl; have hcz10_3 : w9.cell? ⟨gb226, 3, none⟩ = some (.int .i64 a0_3) := (blk_cell BK226.out 3).trans rfl; have hcz10_4 : w9.cell? ⟨gb226, 4, none⟩ = some (.int .i64 a0_4) := (blk_cell BK226.out 4).trans rfl; have hfz10_0 := blk_frozen BK226.out 0; have hfz10_1 := blk_frozen BK226.out 1; have hfz10_2 := blk_frozen BK226.out 2; have hfz10_3 := blk_frozen BK226.out 3; have hfz10_4 := blk_frozen BK226.out 4) | ((with_reducible refine gate_callee (f := 88) rfl ?_); refine goesL_ (some 7) rfl rfl Tryz.func88 (by kernel_rfl) rfl #[.string a0_0] rfl (by (try simp only [List.map_toArray, List.map_cons, List.map_nil]); first | done | rfl | (simp only [List.length_drop, List.length_take]; rfl)) ?_; (with_reducible refine (ref05_Key.calls k a0_0 true _ A2.out).mono ?_); rintro e w' ⟨rfl, ⟨nd, rfl⟩⟩; refine ⟨_, rfl, ?_⟩) | ((with_reducible refine gate_callee (f := 88) rfl ?_); refine goesL_ (some 10) rfl rfl Tryz.func88 (by kernel_rfl) rfl #[.string a0_1] rfl (by (try simp only [List.map_toArray, List.map_cons, List.map_nil]); first | done | rfl | (simp only [List.length_drop, List.length_take]; rfl)) ?_; (with_reducible refine (ref05_Key.calls k a0_1 true _ A3.out).mono ?_); rintro e w' ⟨rfl, ⟨nd, rfl⟩⟩; refine ⟨_, rfl, ?_⟩))
      go_ret
      exact ⟨by first | rfl | (simp [errW_none, errW_some] <;> rfl) | (simp [*, errW_none, errW_some] <;> rfl), by repeat (first | (with_reducible first | exact HB.out | apply below_alloc | apply pw_below_drewN | apply below_drew1 | refine below_set ?_ GE226.out) | exact HB.out)⟩
     ·rw [if_neg c8] at H
      have c8b0 : decide (a0_3 < 8) = false := decide_eq_false c8
      clear c8
      obtain rfl := Option.some.inj H
      go_enter Tryz.func91, Tryz.ntmps91
      go_wp2_with (first | ((with_reducible refine gate_dst (N := 1) rfl ?_); refine box_event ?hg (N := 1) ?hd (cs := #[.string a0_0, .string a0_1, .int .i64 a0_2, .int .i64 a0_3, .int .i64 a0_4]) (t := 47) ?hr ?_; (case hd => rfl); (case hg => rfl); (case hr => first | (go_simp; done) | (go_simp; rfl)); intro gb226 hg w11 hbox hb; have n0_ := Aside0.mk (below_step (by repeat (first | (with_reducible first | exact HB.out | apply below_alloc | apply pw_below_drewN | apply below_drew1) | exact HB.out)) hb); have n1_ := Aside0.mk (hbox); have n2_ := Aside0.mk ((by rw [hg]; exact (below_size (by repeat (first | (with_reducible first | exact HB.out | apply below_alloc | apply pw_below_drewN | apply below_drew1) | exact HB.out))) : w.heap.size ≤ gb226)); have n3_ := Aside0.mk ((by rw [hg]; exact (below_size (by repeat (first | (with_reducible first | exact HB.out | apply below_alloc | apply pw_below_drewN | apply below_drew1) | exact HB.out))) : w.heap.size ≤ gb226)); clear HB; have HB := n0_; have BK226 := n1_; have GW226 := n2_; have GE226 := n3_; clear n0_ n1_ n2_ n3_; clear hb hbox hg; have hcz12_0 : w11.cell? ⟨gb226, 0, none⟩ = some (.string a0_0) := (blk_cell BK226.out 0).trans rfl; have hcz12_1 : w11.cell? ⟨gb226, 1, none⟩ = some (.string a0_1) := (blk_cell BK226.out 1).trans rfl; have hcz12_2 : w11.cell? ⟨gb226, 2, none⟩ = some (.int .i64 a0_2) := (blk_cell BK226.out 2).trans rfl; have hcz12_3 : w11.cell? ⟨gb226, 3, none⟩ = some (.int .i64 a0_3) := (blk_cell BK226.out 3).trans rfl; have hcz12_4 : w11.cell? ⟨gb226, 4, none⟩ = some (.int .i64 a0_4) := (blk_cell BK226.out 4).trans rfl; have hfz12_0 := blk_frozen BK226.out 0; have hfz12_1 := blk_frozen BK226.out 1; have hfz12_2 := blk_frozen BK226.out 2; have hfz12_3 := blk_frozen BK226.out 3; have hfz12_4 := blk_frozen BK226.out 4) | ((with_reducible refine gate_callee (f := 88) rfl ?_); refine goesL_ (some 7) rfl rfl Tryz.func88 (by kernel_rfl) rfl #[.string a0_0] rfl (by (try simp only [List.map_toArray, List.map_cons, List.map_nil]); first | done | rfl | (simp only [List.length_drop, List.length_take]; rfl)) ?_; (with_reducible refine (ref05_Key.calls k a0_0 true _ A2.out).mono ?_); rintro e w' ⟨rfl, ⟨nd, rfl⟩⟩; refine ⟨_, rfl, ?_⟩) | ((with_reducible refine gate_callee (f := 88) rfl ?_); refine goesL_ (some 10) rfl rfl Tryz.func88 (by kernel_rfl) rfl #[.string a0_1] rfl (by (try simp only [List.map_toArray, List.map_cons, List.map_nil]); first | done | rfl | (simp only [List.length_drop, List.length_take]; rfl)) ?_; (with_reducible refine (ref05_Key.calls k a0_1 true _ A3.out).mono ?_); rintro e w' ⟨rfl, ⟨nd, rfl⟩⟩; refine ⟨_, rfl, ?_⟩))
      go_ret
      exact ⟨by first | rfl | (simp [errW_none, errW_some] <;> rfl) | (simp [*, errW_none, errW_some] <;> rfl), by repeat (first | (with_reducible first | exact HB.out | apply below_alloc | apply pw_below_drewN | apply below_drew1 | refine below_set ?_ GE226.out) | exact HB.out)⟩
    ·rw [if_neg c7] at H
     have c7b0 : decide (0 ≤ a0_3) = false := decide_eq_false c7
     clear c7
     obtain rfl := Option.some.inj H
     go_enter Tryz.func91, Tryz.ntmps91
     go_wp2_with (first | ((with_reducible refine gate_dst (N := 1) rfl ?_); refine box_event ?hg (N := 1) ?hd (cs := #[.string a0_0, .string a0_1, .int .i64 a0_2, .int .i64 a0_3, .int .i64 a0_4]) (t := 47) ?hr ?_; (case hd => rfl); (case hg => rfl); (case hr => first | (go_simp; done) | (go_simp; rfl)); intro gb226 hg w13 hbox hb; have n0_ := Aside0.mk (below_step (by repeat (first | (with_reducible first | exact HB.out | apply below_alloc | apply pw_below_drewN | apply below_drew1) | exact HB.out)) hb); have n1_ := Aside0.mk (hbox); have n2_ := Aside0.mk ((by rw [hg]; exact (below_size (by repeat (first | (with_reducible first | exact HB.out | apply below_alloc | apply pw_below_drewN | apply below_drew1) | exact HB.out))) : w.heap.size ≤ gb226)); have n3_ := Aside0.mk ((by rw [hg]; exact (below_size (by repeat (first | (with_reducible first | exact HB.out | apply below_alloc | apply pw_below_drewN | apply below_drew1) | exact HB.out))) : w.heap.size ≤ gb226)); clear HB; have HB := n0_; have BK226 := n1_; have GW226 := n2_; have GE226 := n3_; clear n0_ n1_ n2_ n3_; clear hb hbox hg; have hcz14_0 : w13.cell? ⟨gb226, 0, none⟩ = some (.string a0_0) := (blk_cell BK226.out 0).trans rfl; have hcz14_1 : w13.cell? ⟨gb226, 1, none⟩ = some (.string a0_1) := (blk_cell BK226.out 1).trans rfl; have hcz14_2 : w13.cell? ⟨gb226, 2, none⟩ = some (.int .i64 a0_2) := (blk_cell BK226.out 2).trans rfl; have hcz14_3 : w13.cell? ⟨gb226, 3, none⟩ = some (.int .i64 a0_3) := (blk_cell BK226.out 3).trans rfl; have hcz14_4 : w13.cell? ⟨gb226, 4, none⟩ = some (.int .i64 a0_4) := (blk_cell BK226.out 4).trans rfl; have hfz14_0 := blk_frozen BK226.out 0; have hfz14_1 := blk_frozen BK226.out 1; have hfz14_2 := blk_frozen BK226.out 2; have hfz14_3 := blk_frozen BK226.out 3; have hfz14_4 := blk_frozen BK226.out 4) | ((with_reducible refine gate_callee (f := 88) rfl ?_); refine goesL_ (some 7) rfl rfl Tryz.func88 (by kernel_rfl) rfl #[.string a0_0] rfl (by (try simp only [List.map_toArray, List.map_cons, List.map_nil]); first | done | rfl | (simp only [List.length_drop, List.length_take]; rfl)) ?_; (with_reducible refine (ref05_Key.calls k a0_0 true _ A2.out).mono ?_); rintro e w' ⟨rfl, ⟨nd, rfl⟩⟩; refine ⟨_, rfl, ?_⟩) | ((with_reducible refine gate_callee (f := 88) rfl ?_); refine goesL_ (some 10) rfl rfl Tryz.func88 (by kernel_rfl) rfl #[.string a0_1] rfl (by (try simp only [List.map_toArray, List.map_cons, List.map_nil]); first | done | rfl | (simp only [List.length_drop, List.length_take]; rfl)) ?_; (with_reducible refine (ref05_Key.calls k a0_1 true _ A3.out).mono ?_); rintro e w' ⟨rfl, ⟨nd, rfl⟩⟩; refine ⟨_, rfl, ?_⟩))
     go_ret
     exact ⟨by first | rfl | (simp [errW_none, errW_some] <;> rfl) | (simp [*, errW_none, errW_some] <;> rfl), by repeat (first | (with_reducible first | exact HB.out | apply below_alloc | apply pw_below_drewN | apply below_drew1 | refine below_set ?_ GE226.out) | exact HB.out)⟩
   ·rw [if_neg c6] at H
    have c6b0 : decide (0 < a0_2) = false := decide_eq_false c6
    clear c6
    obtain rfl := Option.some.inj H
    go_enter Tryz.func91, Tryz.ntmps91
    go_wp2_with (first | ((with_reducible refine gate_dst (N := 1) rfl ?_); refine box_event ?hg (N := 1) ?hd (cs := #[.string a0_0, .string a0_1, .int .i64 a0_2, .int .i64 a0_3, .int .i64 a0_4]) (t := 47) ?hr ?_; (case hd => rfl); (case hg => rfl); (case hr => first | (go_simp; done) | (go_simp; rfl)); intro gb226 hg w15 hbox hb; have n0_ := Aside0.mk (below_step (by repeat (first | (with_reducible first | exact HB.out | apply below_alloc | apply pw_below_drewN | apply below_drew1) | exact HB.out)) hb); have n1_ := Aside0.mk (hbox); have n2_ := Aside0.mk ((by rw [hg]; exact (below_size (by repeat (first | (with_reducible first | exact HB.out | apply below_alloc | apply pw_below_drewN | apply below_drew1) | exact HB.out))) : w.heap.size ≤ gb226)); have n3_ := Aside0.mk ((by rw [hg]; exact (below_size (by repeat (first | (with_reducible first | exact HB.out | apply below_alloc | apply pw_below_drewN | apply below_drew1) | exact HB.out))) : w.heap.size ≤ gb226)); clear HB; have HB := n0_; have BK226 := n1_; have GW226 := n2_; have GE226 := n3_; clear n0_ n1_ n2_ n3_; clear hb hbox hg; have hcz16_0 : w15.cell? ⟨gb226, 0, none⟩ = some (.string a0_0) := (blk_cell BK226.out 0).trans rfl; have hcz16_1 : w15.cell? ⟨gb226, 1, none⟩ = some (.string a0_1) := (blk_cell BK226.out 1).trans rfl; have hcz16_2 : w15.cell? ⟨gb226, 2, none⟩ = some (.int .i64 a0_2) := (blk_cell BK226.out 2).trans rfl; have hcz16_3 : w15.cell? ⟨gb226, 3, none⟩ = some (.int .i64 a0_3) := (blk_cell BK226.out 3).trans rfl; have hcz16_4 : w15.cell? ⟨gb226, 4, none⟩ = some (.int .i64 a0_4) := (blk_cell BK226.out 4).trans rfl; have hfz16_0 := blk_frozen BK226.out 0; have hfz16_1 := blk_frozen BK226.out 1; have hfz16_2 := blk_frozen BK226.out 2; have hfz16_3 := blk_frozen BK226.out 3; have hfz16_4 := blk_frozen BK226.out 4) | ((with_reducible refine gate_callee (f := 88) rfl ?_); refine goesL_ (some 7) rfl rfl Tryz.func88 (by kernel_rfl) rfl #[.string a0_0] rfl (by (try simp only [List.map_toArray, List.map_cons, List.map_nil]); first | done | rfl | (simp only [List.length_drop, List.length_take]; rfl)) ?_; (with_reducible refine (ref05_Key.calls k a0_0 true _ A2.out).mono ?_); rintro e w' ⟨rfl, ⟨nd, rfl⟩⟩; refine ⟨_, rfl, ?_⟩) | ((with_reducible refine gate_callee (f := 88) rfl ?_); refine goesL_ (some 10) rfl rfl Tryz.func88 (by kernel_rfl) rfl #[.string a0_1] rfl (by (try simp only [List.map_toArray, List.map_cons, List.map_nil]); first | done | rfl | (simp only [List.length_drop, List.length_take]; rfl)) ?_; (with_reducible refine (ref05_Key.calls k a0_1 true _ A3.out).mono ?_); rintro e w' ⟨rfl, ⟨nd, rfl⟩⟩; refine ⟨_, rfl, ?_⟩))
    go_ret
    exact ⟨by first | rfl | (simp [errW_none, errW_some] <;> rfl) | (simp [*, errW_none, errW_some] <;> rfl), by repeat (first | (with_reducible first | exact HB.out | apply below_alloc | apply pw_below_drewN | apply below_drew1 | refine below_set ?_ GE226.out) | exact HB.out)⟩
  ·replace c5 := Bool.eq_false_iff.mpr c5
   subst c5
   have H1 : (some false) = some r := by rw [if_neg (show ¬ (false = true) by decide)] at H; exact H
   clear H
   have H := H1
   clear H1
   obtain rfl := Option.some.inj H
   go_enter Tryz.func91, Tryz.ntmps91
   go_wp2_with (first | ((with_reducible refine gate_dst (N := 1) rfl ?_); refine box_event ?hg (N := 1) ?hd (cs := #[.string a0_0, .string a0_1, .int .i64 a0_2, .int .i64 a0_3, .int .i64 a0_4]) (t := 47) ?hr ?_; (case hd => rfl); (case hg => rfl); (case hr => first | (go_simp; done) | (go_simp; rfl)); intro gb226 hg w17 hbox hb; have n0_ := Aside0.mk (below_step (by repeat (first | (with_reducible first | exact HB.out | apply below_alloc | apply pw_below_drewN | apply below_drew1) | exact HB.out)) hb); have n1_ := Aside0.mk (hbox); have n2_ := Aside0.mk ((by rw [hg]; exact (below_size (by repeat (first | (with_reducible first | exact HB.out | apply below_alloc | apply pw_below_drewN | apply below_drew1) | exact HB.out))) : w.heap.size ≤ gb226)); have n3_ := Aside0.mk ((by rw [hg]; exact (below_size (by repeat (first | (with_reducible first | exact HB.out | apply below_alloc | apply pw_below_drewN | apply below_drew1) | exact HB.out))) : w.heap.size ≤ gb226)); clear HB; have HB := n0_; have BK226 := n1_; have GW226 := n2_; have GE226 := n3_; clear n0_ n1_ n2_ n3_; clear hb hbox hg; have hcz18_0 : w17.cell? ⟨gb226, 0, none⟩ = some (.string a0_0) := (blk_cell BK226.out 0).trans rfl; have hcz18_1 : w17.cell? ⟨gb226, 1, none⟩ = some (.string a0_1) := (blk_cell BK226.out 1).trans rfl; have hcz18_2 : w17.cell? ⟨gb226, 2, none⟩ = some (.int .i64 a0_2) := (blk_cell BK226.out 2).trans rfl; have hcz18_3 : w17.cell? ⟨gb226, 3, none⟩ = some (.int .i64 a0_3) := (blk_cell BK226.out 3).trans rfl; have hcz18_4 : w17.cell? ⟨gb226, 4, none⟩ = some (.int .i64 a0_4) := (blk_cell BK226.out 4).trans rfl; have hfz18_0 := blk_frozen BK226.out 0; have hfz18_1 := blk_frozen BK226.out 1; have hfz18_2 := blk_frozen BK226.out 2; have hfz18_3 := blk_frozen BK226.out 3; have hfz18_4 := blk_frozen BK226.out 4) | ((with_reducible refine gate_callee (f := 88) rfl ?_); refine goesL_ (some 7) rfl rfl Tryz.func88 (by kernel_rfl) rfl #[.string a0_0] rfl (by (try simp only [List.map_toArray, List.map_cons, List.map_nil]); first | done | rfl | (simp only [List.length_drop, List.length_take]; rfl)) ?_; (with_reducible refine (ref05_Key.calls k a0_0 true _ A2.out).mono ?_); rintro e w' ⟨rfl, ⟨nd, rfl⟩⟩; refine ⟨_, rfl, ?_⟩) | ((with_reducible refine gate_callee (f := 88) rfl ?_); refine goesL_ (some 10) rfl rfl Tryz.func88 (by kernel_rfl) rfl #[.string a0_1] rfl (by (try simp only [List.map_toArray, List.map_cons, List.map_nil]); first | done | rfl | (simp only [List.length_drop, List.length_take]; rfl)) ?_; (with_reducible refine (ref05_Key.calls k a0_1 false _ A3.out).mono ?_); rintro e w' ⟨rfl, ⟨nd, rfl⟩⟩; refine ⟨_, rfl, ?_⟩))
   go_ret
   exact ⟨by first | rfl | (simp [errW_none, errW_some] <;> rfl) | (simp [*, errW_none, errW_some] <;> rfl), by repeat (first | (with_reducible first | exact HB.out | apply below_alloc | apply pw_below_drewN | apply below_drew1 | refine below_set ?_ GE226.out) | exact HB.out)⟩
 ·replace c4 := Bool.eq_false_iff.mpr c4
  subst c4
  have H1 : (some false) = some r := by rw [if_neg (show ¬ (false = true) by decide)] at H; exact H
  clear H
  have H := H1
  clear H1
  obtain rfl := Option.some.inj H
  go_enter Tryz.func91, Tryz.ntmps91
  go_wp2_with (first | ((with_reducible refine gate_dst (N := 1) rfl ?_); refine box_event ?hg (N := 1) ?hd (cs := #[.string a0_0, .string a0_1, .int .i64 a0_2, .int .i64 a0_3, .int .i64 a0_4]) (t := 47) ?hr ?_; (case hd => rfl); (case hg => rfl); (case hr => first | (go_simp; done) | (go_simp; rfl)); intro gb226 hg w19 hbox hb; have n0_ := Aside0.mk (below_step (by repeat (first | (with_reducible first | exact HB.out | apply below_alloc | apply pw_below_drewN | apply below_drew1) | exact HB.out)) hb); have n1_ := Aside0.mk (hbox); have n2_ := Aside0.mk ((by rw [hg]; exact (below_size (by repeat (first | (with_reducible first | exact HB.out | apply below_alloc | apply pw_below_drewN | apply below_drew1) | exact HB.out))) : w.heap.size ≤ gb226)); have n3_ := Aside0.mk ((by rw [hg]; exact (below_size (by repeat (first | (with_reducible first | exact HB.out | apply below_alloc | apply pw_below_drewN | apply below_drew1) | exact HB.out))) : w.heap.size ≤ gb226)); clear HB; have HB := n0_; have BK226 := n1_; have GW226 := n2_; have GE226 := n3_; clear n0_ n1_ n2_ n3_; clear hb hbox hg; have hcz20_0 : w19.cell? ⟨gb226, 0, none⟩ = some (.string a0_0) := (blk_cell BK226.out 0).trans rfl; have hcz20_1 : w19.cell? ⟨gb226, 1, none⟩ = some (.string a0_1) := (blk_cell BK226.out 1).trans rfl; have hcz20_2 : w19.cell? ⟨gb226, 2, none⟩ = some (.int .i64 a0_2) := (blk_cell BK226.out 2).trans rfl; have hcz20_3 : w19.cell? ⟨gb226, 3, none⟩ = some (.int .i64 a0_3) := (blk_cell BK226.out 3).trans rfl; have hcz20_4 : w19.cell? ⟨gb226, 4, none⟩ = some (.int .i64 a0_4) := (blk_cell BK226.out 4).trans rfl; have hfz20_0 := blk_frozen BK226.out 0; have hfz20_1 := blk_frozen BK226.out 1; have hfz20_2 := blk_frozen BK226.out 2; have hfz20_3 := blk_frozen BK226.out 3; have hfz20_4 := blk_frozen BK226.out 4) | ((with_reducible refine gate_callee (f := 88) rfl ?_); refine goesL_ (some 7) rfl rfl Tryz.func88 (by kernel_rfl) rfl #[.string a0_0] rfl (by (try simp only [List.map_toArray, List.map_cons, List.map_nil]); first | done | rfl | (simp only [List.length_drop, List.length_take]; rfl)) ?_; (with_reducible refine (ref05_Key.calls k a0_0 false _ A2.out).mono ?_); rintro e w' ⟨rfl, ⟨nd, rfl⟩⟩; refine ⟨_, rfl, ?_⟩) | ((with_reducible refine gate_callee (f := 88) rfl ?_); refine goesL_ (some 10) rfl rfl Tryz.func88 (by kernel_rfl) rfl #[.string a0_1] rfl (by (try simp only [List.map_toArray, List.map_cons, List.map_nil]); first | done | rfl | (simp only [List.length_drop, List.length_take]; rfl)) ?_; (with_reducible refine (ref05_Key.calls k a0_1 t228 _ A3.out).mono ?_); rintro e w' ⟨rfl, ⟨nd, rfl⟩⟩; refine ⟨_, rfl, ?_⟩))
  go_ret
  exact ⟨by first | rfl | (simp [errW_none, errW_some] <;> rfl) | (simp [*, errW_none, errW_some] <;> rfl), by repeat (first | (with_reducible first | exact HB.out | apply below_alloc | apply pw_below_drewN | apply below_drew1 | refine below_set ?_ GE226.out) | exact HB.out)⟩

end Go.Proofs.YtmcddoolniaehaaGreat.S
end
