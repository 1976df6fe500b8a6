/- Counts: what the document's functions come to, with rounds enough. Plain. -/
import Derived.Test.YtannmdngejdjkaaLPCtrFuel
import Derived.Test.YtannmdngejdjkaaLx24
import Derived.Test.YtannmdngejdjkaaLx25
namespace Go.Proofs.Ytannmdngejdjkaa.L
open Go.RowKit Go.Proofs.YtannmdngejdjkaaW.PrintWords Go.Proofs.YtannmdngejdjkaaW.PrintLast Go.Proofs.YtannmdngejdjkaaW.PrintMore Go.Proofs.YtannmdngejdjkaaW
set_option linter.unusedVariables false
set_option linter.unusedSimpArgs false
theorem mayD_loop : ∀ (suf pre : List Ct) (k : Nat), suf.length + 101 < k → (pre ++ suf).length < 4611686018427387904 → kS suf →
    ref06_May.l0 k (pre ++ suf) ((pre.length : Nat) : Int) = some (mayCP pre.getLast? suf)
  | suf, pre, 0, hk, _, _ => by omega
  | [], pre, k + 1, _, _, _ => by
    simp only [ref06_May.l0]
    rw [if_neg (by simp)]
    rfl
  | x :: suf, pre, k + 1, hk, hl, ho => by
    have hlt : ((pre.length : Nat) : Int) < (((pre ++ x :: suf).length : Nat) : Int) := by simp; omega
    have hpl : pre.length < 4611686018427387904 := by simp at hl; omega
    have hx := ho x List.mem_cons_self
    have ih := mayD_loop suf (pre ++ [x]) k (by simp at hk; omega) (by simpa using hl) (fun y hy => ho y (List.mem_cons_of_mem _ hy))
    rw [appS, List.getLast?_concat, lenS] at ih
    simp only [ref06_May.l0]
    rw [if_pos hlt, if_pos (by omega), rdC_mid, keyD_f x.f0 k (by omega) (by simp at hk; omega), Option.bind_some, wrapS hpl]
    unfold mayCP oneC
    cases h1 : keyB x.f0.data.toList with
    | false => rfl
    | true =>
      simp only [if_true, Bool.true_and]
      by_cases h0 : x.f1 = 0
      · rw [if_pos h0]; simp [h0]
      · rw [if_neg h0]
        simp only [ne_eq, h0, not_false_eq_true, decide_true, Bool.true_and]
        rcases List.eq_nil_or_concat pre with rfl | ⟨p, y, rfl⟩
        · rw [if_neg (by simp)]
          simpa using ih
        · rw [List.concat_eq_append] at *
          have hw : wrap64 ((((p ++ [y]).length : Nat) : Int) - 1) = ((p.length : Nat) : Int) := by
            rw [List.length_append, List.length_singleton]; exact wrapP (by simp at hpl; omega)
          rw [if_pos (by simp), hw, if_pos (by omega), if_pos (by simp; omega), appS, rdC_mid, List.getLast?_concat]
          rw [appS] at ih
          cases h2 : Op.bytesLess y.f0.toList x.f0.toList with
          | false => simp [h2]
          | true =>
            simp only [if_true]
            rw [ih, h2]; rfl
theorem mayD_f (k : Nat) (l : List Ct) (hk : l.length + 101 < k) (hl : l.length < 1000000) (ho : kS l) : ref06_May.f k l = some (mayC l) := by
  have := mayD_loop l [] k hk (by simp; omega) ho
  simpa [ref06_May.f, mayC] using this
theorem getD_loop (key : ByteArray) : ∀ (suf pre : List Ct) (k : Nat), suf.length < k → (pre ++ suf).length < 4611686018427387904 → ref06_Get.l0 k (pre ++ suf) key ((pre.length : Nat) : Int) = some (getC suf key)
  | suf, pre, 0, hk, _ => by omega
  | [], pre, k + 1, _, _ => by
    simp only [ref06_Get.l0]
    rw [if_neg (by simp)]
    rfl
  | x :: suf, pre, k + 1, hk, hl => by
    have hlt : ((pre.length : Nat) : Int) < (((pre ++ x :: suf).length : Nat) : Int) := by simp; omega
    have hpl : pre.length < 4611686018427387904 := by simp at hl; omega
    have ih := getD_loop key suf (pre ++ [x]) k (by simp at hk; omega) (by simpa using hl)
    rw [appS, lenS] at ih
    simp only [ref06_Get.l0]
    rw [if_pos hlt, if_pos (by omega), rdC_mid, wrapS hpl, ih, getC_cons]
    by_cases h : x.f0 = key
    · rw [if_pos (by rw [h]), if_pos h]
    · rw [if_neg (fun e => h (toList_inj e)), if_neg h]
theorem getD_f (k : Nat) (l : List Ct) (key : ByteArray) (hk : l.length < k) (hl : l.length < 1000000) : ref06_Get.f k l key = some (getC l key) := by
  have := getD_loop key l [] k hk (by simp; omega)
  simpa [ref06_Get.f] using this
/-! ### a number put at a key -/
def putC : List Ct → ByteArray → Int → List Ct
  | [], k, n => if n = 0 then [] else [⟨k, n⟩]
  | x :: l, k, n => if Op.bytesLess x.f0.toList k.toList then x :: putC l k n else (if n = 0 then [] else [⟨k, n⟩]) ++ (if x.f0 = k then l else x :: l)
theorem putC_mem {l : List Ct} {k : ByteArray} {n : Int} {x : Ct} (h : x ∈ putC l k n) : (x = ⟨k, n⟩ ∧ n ≠ 0) ∨ x ∈ l := by
  induction l with
  | nil =>
    unfold putC at h
    split at h
    · cases h
    · rename_i hn; exact .inl ⟨by simpa using h, hn⟩
  | cons y l ih =>
    unfold putC at h
    split at h
    · rcases List.mem_cons.1 h with rfl | h
      · exact .inr List.mem_cons_self
      · rcases ih h with h | h
        · exact .inl h
        · exact .inr (List.mem_cons_of_mem _ h)
    · rcases List.mem_append.1 h with h | h
      · split at h
        · cases h
        · rename_i hn; exact .inl ⟨by simpa using h, hn⟩
      · split at h
        · exact .inr (List.mem_cons_of_mem _ h)
        · exact .inr h
theorem putC_up {l : List Ct} {k : ByteArray} {n : Int} (h : l.Pairwise cLt) : (putC l k n).Pairwise cLt := by
  induction l with
  | nil => unfold putC; split <;> simp
  | cons y l ih =>
    rw [List.pairwise_cons] at h
    unfold putC
    cases hy : Op.bytesLess y.f0.toList k.toList with
    | true =>
      rw [if_pos rfl, List.pairwise_cons]
      refine ⟨fun x hx => ?_, ih h.2⟩
      rcases putC_mem hx with ⟨rfl, _⟩ | hx
      · exact hy
      · exact h.1 x hx
    | false =>
      rw [if_neg (by simp)]
      by_cases he : y.f0 = k
      · rw [if_pos he]
        split
        · exact h.2
        · simp only [List.cons_append, List.nil_append, List.pairwise_cons]
          exact ⟨fun x hx => by have := h.1 x hx; unfold cLt at this ⊢; rw [he] at this; exact this, h.2⟩
      · have hk : Op.bytesLess k.toList y.f0.toList = true := by
          cases q : Op.bytesLess k.toList y.f0.toList with
          | true => rfl
          | false => exact absurd (toList_inj (less_antisymm hy q)) he
        rw [if_neg he]
        split
        · simp only [List.nil_append, List.pairwise_cons]; exact h
        · simp only [List.cons_append, List.nil_append, List.pairwise_cons]
          refine ⟨fun x hx => ?_, h⟩
          rcases List.mem_cons.1 hx with rfl | hx
          · exact hk
          · exact less_trans hk (h.1 x hx)
theorem getC_put : ∀ (l : List Ct) (k j : ByteArray) (n : Int), l.Pairwise cLt → getC (putC l k n) j = if j = k then n else getC l j
  | [], k, j, n, _ => by
    unfold putC
    by_cases hn : n = 0
    · rw [if_pos hn]
      by_cases hj : j = k
      · rw [if_pos hj, hn]; rfl
      · rw [if_neg hj]
    · rw [if_neg hn, getC_cons]
      by_cases hj : j = k
      · rw [if_pos hj.symm, if_pos hj]
      · rw [if_neg (fun e => hj e.symm), if_neg hj]
  | y :: l, k, j, n, h => by
    rw [List.pairwise_cons] at h
    have ih := getC_put l k j n h.2
    unfold putC
    cases hy : Op.bytesLess y.f0.toList k.toList with
    | true =>
      rw [if_pos rfl, getC_cons, getC_cons, ih]
      by_cases hj : y.f0 = j
      · rw [if_pos hj, if_pos hj, if_neg]
        intro e
        rw [hj, e, less_irrefl] at hy; cases hy
      · rw [if_neg hj, if_neg hj]
    | false =>
      rw [if_neg (by simp)]
      have htail : getC (if y.f0 = k then l else y :: l) j = if j = k then 0 else getC (y :: l) j := by
        by_cases he : y.f0 = k
        · rw [if_pos he]
          by_cases hj : j = k
          · rw [if_pos hj]
            exact getC_none fun x hx e => cLt_ne (h.1 x hx) (he.trans (hj.symm.trans e.symm))
          · rw [if_neg hj, getC_cons, if_neg (fun e => hj (e.symm.trans he))]
        · rw [if_neg he]
          by_cases hj : j = k
          · rw [if_pos hj]
            have hk : Op.bytesLess k.toList y.f0.toList = true := by
              cases q : Op.bytesLess k.toList y.f0.toList with
              | true => rfl
              | false => exact absurd (toList_inj (less_antisymm hy q)) he
            refine getC_none fun x hx e => ?_
            rcases List.mem_cons.1 hx with rfl | hx
            · exact he (e.trans hj)
            · have := less_trans hk (h.1 x hx)
              rw [e, hj, less_irrefl] at this; cases this
          · rw [if_neg hj]
      by_cases hn : n = 0
      · rw [if_pos hn, List.nil_append, htail]
        by_cases hj : j = k
        · rw [if_pos hj, if_pos hj, hn]
        · rw [if_neg hj, if_neg hj]
      · rw [if_neg hn, List.cons_append, List.nil_append, getC_cons, htail]
        by_cases hj : j = k
        · rw [if_pos hj.symm, if_pos hj]
        · rw [if_neg (fun e => hj e.symm), if_neg hj, if_neg hj]
theorem may_putC {l : List Ct} {k : ByteArray} (n : Int) (h : mayC l = true) (hk : keyB k.data.toList = true) : mayC (putC l k n) = true := by
  rw [mayC_iff] at h ⊢
  refine ⟨fun x hx => ?_, putC_up h.2⟩
  rcases putC_mem hx with ⟨rfl, hn⟩ | hx
  · unfold oneC; rw [hk]; simp [hn]
  · exact h.1 x hx
theorem putC_len (l : List Ct) (k : ByteArray) (n : Int) : (putC l k n).length ≤ l.length + 1 := by
  induction l with
  | nil => unfold putC; split <;> simp
  | cons y l ih =>
    unfold putC
    split
    · simp; exact ih
    · rw [List.length_append]
      have h1 : (if n = 0 then [] else [(⟨k, n⟩ : Ct)]).length ≤ 1 := by split <;> simp
      have h2 : (if y.f0 = k then l else y :: l).length ≤ l.length + 1 := by split <;> simp
      simp only [List.length_cons]; omega
theorem putD_done (key : ByteArray) (n : Int) : ∀ (suf pre out : List Ct) (k : Nat), 2 * suf.length + 1 ≤ k → (pre ++ suf).length < 4611686018427387904 → out.length + suf.length < 2000000 → (∀ x ∈ suf, x.f0 ≠ key) →
    ref06_put.l0 k (pre ++ suf) key n out true ((pre.length : Nat) : Int) = some (out ++ suf)
  | suf, pre, out, 0, hk, _, _, _ => by omega
  | [], pre, out, k + 1, _, _, _, _ => by
    simp only [ref06_put.l0]
    rw [if_neg (by simp)]
    simp
  | x :: suf, pre, out, k + 1, hk, hl, ho, hne => by
    have hlt : ((pre.length : Nat) : Int) < (((pre ++ x :: suf).length : Nat) : Int) := by simp; omega
    have hpl : pre.length < 4611686018427387904 := by simp at hl; omega
    simp only [List.length_cons] at hk ho
    obtain ⟨j, rfl⟩ : ∃ j, k = j + 1 := ⟨k - 1, by omega⟩
    have ih := putD_done key n suf (pre ++ [x]) (out ++ [x]) j (by omega) (by simpa using hl) (by simp; omega) (fun y hy => hne y (List.mem_cons_of_mem _ hy))
    rw [appS, lenS, appS] at ih
    simp only [ref06_put.l0]
    rw [if_pos hlt, if_pos trivial]
    simp only [ref06_put.j1, Bool.false_eq_true, if_false]
    rw [if_pos (by omega), if_pos hlt, rdC_mid, if_neg (fun e => hne x List.mem_cons_self (toList_inj e)), if_pos (by omega), wrapS hpl]
    exact ih
theorem putD_loop (key : ByteArray) (n : Int) : ∀ (suf pre out : List Ct) (k : Nat), 2 * suf.length + 1 ≤ k → (pre ++ suf).length < 4611686018427387904 → out.length + suf.length < 1000000 → suf.Pairwise cLt →
    ref06_put.l0 k (pre ++ suf) key n out false ((pre.length : Nat) : Int) = some (out ++ putC suf key n)
  | suf, pre, out, 0, hk, _, _, _ => by omega
  | [], pre, out, k + 1, _, _, ho, _ => by
    simp only [ref06_put.l0]
    rw [if_neg (by simp), if_neg (by simp)]
    unfold putC
    by_cases hn : n = 0
    · rw [if_pos hn, if_pos hn, List.append_nil]
    · rw [if_neg hn, if_neg hn, if_pos (by simp at ho; omega)]
  | x :: suf, pre, out, k + 1, hk, hl, ho, hp => by
    have hlt : ((pre.length : Nat) : Int) < (((pre ++ x :: suf).length : Nat) : Int) := by simp; omega
    have hpl : pre.length < 4611686018427387904 := by simp at hl; omega
    simp only [List.length_cons] at hk ho
    rw [List.pairwise_cons] at hp
    obtain ⟨j, rfl⟩ : ∃ j, k = j + 1 := ⟨k - 1, by omega⟩
    have ih := putD_loop key n suf (pre ++ [x]) (out ++ [x]) j (by omega) (by simpa using hl) (by simp; omega) hp.2
    rw [appS, lenS, appS] at ih
    have hd := fun o (h1 : o.length ≤ out.length + 2) (h : ∀ y ∈ suf, y.f0 ≠ key) => putD_done key n suf (pre ++ [x]) o j (by omega) (by simpa using hl) (by omega) h
    rw [appS, lenS] at hd
    simp only [ref06_put.l0]
    rw [if_pos hlt, if_neg (by simp), if_pos (by omega), rdC_mid]
    unfold putC
    cases hx : Op.bytesLess x.f0.toList key.toList with
    | true =>
      have hne : x.f0 ≠ key := fun e => by rw [e, less_irrefl] at hx; cases hx
      simp only [Bool.not_true, ref06_put.j1, Bool.false_eq_true, if_false, if_true]
      rw [if_pos (by omega), if_pos hlt, rdC_mid, if_neg (fun e => hne (toList_inj e)), if_pos (by omega), wrapS hpl]
      exact ih
    | false =>
      simp only [Bool.not_false, ref06_put.j1, Bool.false_eq_true, if_false, if_true]
      by_cases he : x.f0 = key
      · have hrest : ∀ y ∈ suf, y.f0 ≠ key := fun y hy e => cLt_ne (hp.1 y hy) (he.trans e.symm)
        rw [if_pos he]
        by_cases hn : n = 0
        · rw [if_pos hn, if_pos hn, if_pos (by omega), if_pos hlt, rdC_mid, if_pos (by rw [he]), wrapS hpl]
          refine (hd out (by omega) hrest).trans ?_
          simp
        · rw [if_neg hn, if_neg hn, if_pos (by omega), Option.bind_some, if_pos (by omega), if_pos hlt, rdC_mid, if_pos (by rw [he]), wrapS hpl]
          refine (hd (out ++ [⟨key, n⟩]) (by simp) hrest).trans ?_
          simp
      · have hkx : Op.bytesLess key.toList x.f0.toList = true := by
          cases q : Op.bytesLess key.toList x.f0.toList with
          | true => rfl
          | false => exact absurd (toList_inj (less_antisymm hx q)) he
        have hrest : ∀ y ∈ suf, y.f0 ≠ key := fun y hy e => by
          have := less_trans hkx (hp.1 y hy)
          rw [e, less_irrefl] at this; cases this
        rw [if_neg he]
        by_cases hn : n = 0
        · rw [if_pos hn, if_pos hn, if_pos (by omega), if_pos hlt, rdC_mid, if_neg (fun e => he (toList_inj e)), if_pos (by omega), wrapS hpl]
          refine (hd (out ++ [x]) (by simp) hrest).trans ?_
          simp
        · rw [if_neg hn, if_neg hn, if_pos (by omega), Option.bind_some, if_pos (by omega), if_pos hlt, rdC_mid, if_neg (fun e => he (toList_inj e)), if_pos (by simp; omega), wrapS hpl]
          refine (hd (out ++ [⟨key, n⟩] ++ [x]) (by simp) hrest).trans ?_
          simp
theorem putD_f (k : Nat) (l : List Ct) (key : ByteArray) (n : Int) (hk : 2 * l.length + 1 ≤ k) (hl : l.length < 1000000) (hp : l.Pairwise cLt) : ref06_put.f k l key n = some (putC l key n) := by
  have := putD_loop key n l [] [] k hk (by simp; omega) (by simp; omega) hp
  simpa [ref06_put.f] using this
end Go.Proofs.Ytannmdngejdjkaa.L
