/- Several of the walk's texts in one: SRC, SRCI, SHR05, Sx25, SHRPPut. -/
import Derived.BigQuiet
import Derived.Test.YtmcddoolniaehaaGreatMD04
import Derived.Test.YtmcddoolniaehaaGreatMD13
import Derived.Test.YtmcddoolniaehaaGreatMD14
import Derived.Test.YtmcddoolniaehaaGreatMD21
import Derived.Test.YtmcddoolniaehaaGreatMD22
import Derived.Test.YtmcddoolniaehaaGreatMD23
import Derived.Test.YtmcddoolniaehaaGreatMD26
section
namespace Go.Proofs.YtmcddoolniaehaaGreat.S
open Go.RowKit Go.Proofs.YtmcddoolniaehaaGreatW.PrintWords Go.Proofs.YtmcddoolniaehaaGreatW.PrintLast Go.Proofs.YtmcddoolniaehaaGreatW.PrintMore Go.Proofs.YtmcddoolniaehaaGreatW
set_option linter.unusedVariables false
set_option linter.unusedSimpArgs false
theorem getD_loop (key : ByteArray) : ∀ (suf pre : List Ct) (k : Nat), suf.length < k → (pre ++ suf).length < 4611686018427387904 → ref06_Get.l0 k (pre ++ suf) key ((pre.length : Nat) : Int) = some (getC suf key)
  | suf, pre, 0, hk, _ => by omega
  | [], pre, k + 1, _, _ => by
    simp only [ref06_Get.l0]
    rw [if_neg (by simp)]
    rfl
  | x :: suf, pre, k + 1, hk, hl => by
    have hlt : ((pre.length : Nat) : Int) < (((pre ++ x :: suf).length : Nat) : Int) := by simp; omega
    have hpl : pre.length < 4611686018427387904 := by simp at hl; omega
    have ih := getD_loop key suf (pre ++ [x]) k (by simp at hk; omega) (by simpa using hl)
    rw [appS, lenS] at ih
    simp only [ref06_Get.l0]
    rw [if_pos hlt, if_pos (by omega), rdC_mid, wrapS hpl, ih, getC_cons]
    by_cases h : x.f0 = key
    · rw [if_pos (by rw [h]), if_pos h]
    · rw [if_neg (fun e => h (toList_inj e)), if_neg h]
theorem getD_f (k : Nat) (l : List Ct) (key : ByteArray) (hk : l.length < k) (hl : l.length < 1000000) : ref06_Get.f k l key = some (getC l key) := by
  have := getD_loop key l [] k hk (by simp; omega)
  simpa [ref06_Get.f] using this
def putC : List Ct → ByteArray → Int → List Ct
  | [], k, n => if n = 0 then [] else [⟨k, n⟩]
  | x :: l, k, n => if Op.bytesLess x.f0.toList k.toList then x :: putC l k n else (if n = 0 then [] else [⟨k, n⟩]) ++ (if x.f0 = k then l else x :: l)
theorem putC_mem {l : List Ct} {k : ByteArray} {n : Int} {x : Ct} (h : x ∈ putC l k n) : (x = ⟨k, n⟩ ∧ n ≠ 0) ∨ x ∈ l := by
  induction l with
  | nil =>
    unfold putC at h
    split at h
    · cases h
    · rename_i hn; exact .inl ⟨by simpa using h, hn⟩
  | cons y l ih =>
    unfold putC at h
    split at h
    · rcases List.mem_cons.1 h with rfl | h
      · exact .inr List.mem_cons_self
      · rcases ih h with h | h
        · exact .inl h
        · exact .inr (List.mem_cons_of_mem _ h)
    · rcases List.mem_append.1 h with h | h
      · split at h
        · cases h
        · rename_i hn; exact .inl ⟨by simpa using h, hn⟩
      · split at h
        · exact .inr (List.mem_cons_of_mem _ h)
        · exact .inr h
theorem putC_up {l : List Ct} {k : ByteArray} {n : Int} (h : l.Pairwise cLt) : (putC l k n).Pairwise cLt := by
  induction l with
  | nil => unfold putC; split <;> simp
  | cons y l ih =>
    rw [List.pairwise_cons] at h
    unfold putC
    cases hy : Op.bytesLess y.f0.toList k.toList with
    | true =>
      rw [if_pos rfl, List.pairwise_cons]
      refine ⟨fun x hx => ?_, ih h.2⟩
      rcases putC_mem hx with ⟨rfl, _⟩ | hx
      · exact hy
      · exact h.1 x hx
    | false =>
      rw [if_neg (by simp)]
      by_cases he : y.f0 = k
      · rw [if_pos he]
        split
        · exact h.2
        · simp only [List.cons_append, List.nil_append, List.pairwise_cons]
          exact ⟨fun x hx => by have := h.1 x hx; unfold cLt at this ⊢; rw [he] at this; exact this, h.2⟩
      · have hk : Op.bytesLess k.toList y.f0.toList = true := by
          cases q : Op.bytesLess k.toList y.f0.toList with
          | true => rfl
          | false => exact absurd (toList_inj (less_antisymm hy q)) he
        rw [if_neg he]
        split
        · simp only [List.nil_append, List.pairwise_cons]; exact h
        · simp only [List.cons_append, List.nil_append, List.pairwise_cons]
          refine ⟨fun x hx => ?_, h⟩
          rcases List.mem_cons.1 hx with rfl | hx
          · exact hk
          · exact less_trans hk (h.1 x hx)
theorem getC_put : ∀ (l : List Ct) (k j : ByteArray) (n : Int), l.Pairwise cLt → getC (putC l k n) j = if j = k then n else getC l j
  | [], k, j, n, _ => by
    unfold putC
    by_cases hn : n = 0
    · rw [if_pos hn]
      by_cases hj : j = k
      · rw [if_pos hj, hn]; rfl
      · rw [if_neg hj]
    · rw [if_neg hn, getC_cons]
      by_cases hj : j = k
      · rw [if_pos hj.symm, if_pos hj]
      · rw [if_neg (fun e => hj e.symm), if_neg hj]
  | y :: l, k, j, n, h => by
    rw [List.pairwise_cons] at h
    have ih := getC_put l k j n h.2
    unfold putC
    cases hy : Op.bytesLess y.f0.toList k.toList with
    | true =>
      rw [if_pos rfl, getC_cons, getC_cons, ih]
      by_cases hj : y.f0 = j
      · rw [if_pos hj, if_pos hj, if_neg]
        intro e
        rw [hj, e, less_irrefl] at hy; cases hy
      · rw [if_neg hj, if_neg hj]
    | false =>
      rw [if_neg (by simp)]
      have htail : getC (if y.f0 = k then l else y :: l) j = if j = k then 0 else getC (y :: l) j := by
        by_cases he : y.f0 = k
        · rw [if_pos he]
          by_cases hj : j = k
          · rw [if_pos hj]
            exact getC_none fun x hx e => cLt_ne (h.1 x hx) (he.trans (hj.symm.trans e.symm))
          · rw [if_neg hj, getC_cons, if_neg (fun e => hj (e.symm.trans he))]
        · rw [if_neg he]
          by_cases hj : j = k
          · rw [if_pos hj]
            have hk : Op.bytesLess k.toList y.f0.toList = true := by
              cases q : Op.bytesLess k.toList y.f0.toList with
              | true => rfl
              | false => exact absurd (toList_inj (less_antisymm hy q)) he
            refine getC_none fun x hx e => ?_
            rcases List.mem_cons.1 hx with rfl | hx
            · exact he (e.trans hj)
            · have := less_trans hk (h.1 x hx)
              rw [e, hj, less_irrefl] at this; cases this
          · rw [if_neg hj]
      by_cases hn : n = 0
      · rw [if_pos hn, List.nil_append, htail]
        by_cases hj : j = k
        · rw [if_pos hj, if_pos hj, hn]
        · rw [if_neg hj, if_neg hj]
      · rw [if_neg hn, List.cons_append, List.nil_append, getC_cons, htail]
        by_cases hj : j = k
        · rw [if_pos hj.symm, if_pos hj]
        · rw [if_neg (fun e => hj e.symm), if_neg hj, if_neg hj]
theorem may_putC {l : List Ct} {k : ByteArray} (n : Int) (h : mayC l = true) (hk : keyB k.data.toList = true) : mayC (putC l k n) = true := by
  rw [mayC_iff] at h ⊢
  refine ⟨fun x hx => ?_, putC_up h.2⟩
  rcases putC_mem hx with ⟨rfl, hn⟩ | hx
  · unfold oneC; rw [hk]; simp [hn]
  · exact h.1 x hx
theorem putC_len (l : List Ct) (k : ByteArray) (n : Int) : (putC l k n).length ≤ l.length + 1 := by
  induction l with
  | nil => unfold putC; split <;> simp
  | cons y l ih =>
    unfold putC
    split
    · simp; exact ih
    · rw [List.length_append]
      have h1 : (if n = 0 then [] else [(⟨k, n⟩ : Ct)]).length ≤ 1 := by split <;> simp
      have h2 : (if y.f0 = k then l else y :: l).length ≤ l.length + 1 := by split <;> simp
      simp only [List.length_cons]; omega
theorem putD_done (key : ByteArray) (n : Int) : ∀ (suf pre out : List Ct) (k : Nat), 2 * suf.length + 1 ≤ k → (pre ++ suf).length < 4611686018427387904 → out.length + suf.length < 2000000 → (∀ x ∈ suf, x.f0 ≠ key) →
    ref06_put.l0 k (pre ++ suf) key n out true ((pre.length : Nat) : Int) = some (out ++ suf)
  | suf, pre, out, 0, hk, _, _, _ => by omega
  | [], pre, out, k + 1, _, _, _, _ => by
    simp only [ref06_put.l0]
    rw [if_neg (by simp)]
    simp
  | x :: suf, pre, out, k + 1, hk, hl, ho, hne => by
    have hlt : ((pre.length : Nat) : Int) < (((pre ++ x :: suf).length : Nat) : Int) := by simp; omega
    have hpl : pre.length < 4611686018427387904 := by simp at hl; omega
    simp only [List.length_cons] at hk ho
    obtain ⟨j, rfl⟩ : ∃ j, k = j + 1 := ⟨k - 1, by omega⟩
    have ih := putD_done key n suf (pre ++ [x]) (out ++ [x]) j (by omega) (by simpa using hl) (by simp; omega) (fun y hy => hne y (List.mem_cons_of_mem _ hy))
    rw [appS, lenS, appS] at ih
    simp only [ref06_put.l0]
    rw [if_pos hlt, if_pos trivial]
    simp only [ref06_put.j1, Bool.false_eq_true, if_false]
    rw [if_pos (by omega), if_pos hlt, rdC_mid, if_neg (fun e => hne x List.mem_cons_self (toList_inj e)), if_pos (by omega), wrapS hpl]
    exact ih
theorem putD_loop (key : ByteArray) (n : Int) : ∀ (suf pre out : List Ct) (k : Nat), 2 * suf.length + 1 ≤ k → (pre ++ suf).length < 4611686018427387904 → out.length + suf.length < 1000000 → suf.Pairwise cLt →
    ref06_put.l0 k (pre ++ suf) key n out false ((pre.length : Nat) : Int) = some (out ++ putC suf key n)
  | suf, pre, out, 0, hk, _, _, _ => by omega
  | [], pre, out, k + 1, _, _, ho, _ => by
    simp only [ref06_put.l0]
    rw [if_neg (by simp), if_neg (by simp)]
    unfold putC
    by_cases hn : n = 0
    · rw [if_pos hn, if_pos hn, List.append_nil]
    · rw [if_neg hn, if_neg hn, if_pos (by simp at ho; omega)]
  | x :: suf, pre, out, k + 1, hk, hl, ho, hp => by
    have hlt : ((pre.length : Nat) : Int) < (((pre ++ x :: suf).length : Nat) : Int) := by simp; omega
    have hpl : pre.length < 4611686018427387904 := by simp at hl; omega
    simp only [List.length_cons] at hk ho
    rw [List.pairwise_cons] at hp
    obtain ⟨j, rfl⟩ : ∃ j, k = j + 1 := ⟨k - 1, by omega⟩
    have ih := putD_loop key n suf (pre ++ [x]) (out ++ [x]) j (by omega) (by simpa using hl) (by simp; omega) hp.2
    rw [appS, lenS, appS] at ih
    have hd := fun o (h1 : o.length ≤ out.length + 2) (h : ∀ y ∈ suf, y.f0 ≠ key) => putD_done key n suf (pre ++ [x]) o j (by omega) (by simpa using hl) (by omega) h
    rw [appS, lenS] at hd
    simp only [ref06_put.l0]
    rw [if_pos hlt, if_neg (by simp), if_pos (by omega), rdC_mid]
    unfold putC
    cases hx : Op.bytesLess x.f0.toList key.toList with
    | true =>
      have hne : x.f0 ≠ key := fun e => by rw [e, less_irrefl] at hx; cases hx
      simp only [Bool.not_true, ref06_put.j1, Bool.false_eq_true, if_false, if_true]
      rw [if_pos (by omega), if_pos hlt, rdC_mid, if_neg (fun e => hne (toList_inj e)), if_pos (by omega), wrapS hpl]
      exact ih
    | false =>
      simp only [Bool.not_false, ref06_put.j1, Bool.false_eq_true, if_false, if_true]
      by_cases he : x.f0 = key
      · have hrest : ∀ y ∈ suf, y.f0 ≠ key := fun y hy e => cLt_ne (hp.1 y hy) (he.trans e.symm)
        rw [if_pos he]
        by_cases hn : n = 0
        · rw [if_pos hn, if_pos hn, if_pos (by omega), if_pos hlt, rdC_mid, if_pos (by rw [he]), wrapS hpl]
          refine (hd out (by omega) hrest).trans ?_
          simp
        · rw [if_neg hn, if_neg hn, if_pos (by omega), Option.bind_some, if_pos (by omega), if_pos hlt, rdC_mid, if_pos (by rw [he]), wrapS hpl]
          refine (hd (out ++ [⟨key, n⟩]) (by simp) hrest).trans ?_
          simp
      · have hkx : Op.bytesLess key.toList x.f0.toList = true := by
          cases q : Op.bytesLess key.toList x.f0.toList with
          | true => rfl
          | false => exact absurd (toList_inj (less_antisymm hx q)) he
        have hrest : ∀ y ∈ suf, y.f0 ≠ key := fun y hy e => by
          have := less_trans hkx (hp.1 y hy)
          rw [e, less_irrefl] at this; cases this
        rw [if_neg he]
        by_cases hn : n = 0
        · rw [if_pos hn, if_pos hn, if_pos (by omega), if_pos hlt, rdC_mid, if_neg (fun e => he (toList_inj e)), if_pos (by omega), wrapS hpl]
          refine (hd (out ++ [x]) (by simp) hrest).trans ?_
          simp
        · rw [if_neg hn, if_neg hn, if_pos (by omega), Option.bind_some, if_pos (by omega), if_pos hlt, rdC_mid, if_neg (fun e => he (toList_inj e)), if_pos (by simp; omega), wrapS hpl]
          refine (hd (out ++ [⟨key, n⟩] ++ [x]) (by simp) hrest).trans ?_
          simp
theorem putD_f (k : Nat) (l : List Ct) (key : ByteArray) (n : Int) (hk : 2 * l.length + 1 ≤ k) (hl : l.length < 1000000) (hp : l.Pairwise cLt) : ref06_put.f k l key n = some (putC l key n) := by
  have := putD_loop key n l [] [] k hk (by simp; omega) (by simp; omega) hp
  simpa [ref06_put.f] using this
end Go.Proofs.YtmcddoolniaehaaGreat.S
end
section
namespace Go.Proofs.YtmcddoolniaehaaGreat.S
open Go.RowKit Go.Proofs.YtmcddoolniaehaaGreatW.PrintWords Go.Proofs.YtmcddoolniaehaaGreatW.PrintLast Go.Proofs.YtmcddoolniaehaaGreatW.PrintMore Go.Proofs.YtmcddoolniaehaaGreatW
set_option linter.unusedVariables false
set_option linter.unusedSimpArgs false
theorem incD_f (k : Nat) (l : List Ct) (key : ByteArray) (n : Int) (hk : 300 < k) (hl : l.length ≤ 30) (hs : kS l) (hkey : key.size ≤ 100) (il : inL l) : ref06_Inc.f k l key n = some (incO l key n) := by
  unfold ref06_Inc.f
  rw [mayD_f k l (by omega) (by omega) hs, keyD_f key k (by omega) (by omega)]
  simp only [Option.bind_some]
  obtain ⟨j, rfl⟩ : ∃ j, k = j + 1 := ⟨k - 1, by omega⟩
  cases h1 : mayC l with
  | false =>
    have e : incO l key n = [] := by unfold incO; rw [h1]; rfl
    rw [e]
    simp [ref06_Inc.j0]
  | true =>
    cases h2 : keyB key.data.toList with
    | false =>
      have e : incO l key n = [] := by unfold incO; rw [h2, Bool.and_false]; rfl
      rw [e]
      simp [ref06_Inc.j0]
    | true =>
      simp only [if_true, ref06_Inc.j0, Bool.not_true, Bool.false_eq_true, if_false]
      rw [getD_f j l key (by omega) (by omega), Option.bind_some, putD_f j l key _ (by omega) (by omega) (may_up h1), Option.bind_some]
      congr 1
      refine same_may (may_putC _ h1 h2) (may_inc h1 h2) fun q => ?_
      rw [getC_put l key q _ (may_up h1), get_inc h1 h2]
      by_cases hq : q = key
      · rw [if_pos hq, if_pos hq]
      · rw [if_neg hq, if_neg hq, wrap_id (getC_in il q)]
end Go.Proofs.YtmcddoolniaehaaGreat.S
end
section
namespace Go.Proofs.YtmcddoolniaehaaGreat.S
open Go.RowKit Go.Proofs.YtmcddoolniaehaaGreatW.PrintWords Go.Proofs.YtmcddoolniaehaaGreatW.PrintLast Go.Proofs.YtmcddoolniaehaaGreatW.PrintMore Go.Proofs.YtmcddoolniaehaaGreatW
set_option linter.unusedVariables false
set_option linter.unusedSimpArgs false
theorem nil_iff (a : ByteArray) : a.toList.isEmpty = decide (a.data.toList = []) := by
  rw [Bool.eq_iff_iff, List.isEmpty_iff, decide_eq_true_eq]
  rw [show a.toList = a.data.toList from ByteArray.toList_eq a]
set_option maxHeartbeats 4000000 in
set_option maxRecDepth 100000 in
theorem r05_calls (k : Int) (key elem : ByteArray) (n : Int) (w : World) (h1 : key.size ≤ 100) (h2 : elem.size ≤ 100) :
    Calls Tryz.prog 38 #[.agg #[.int .i64 k, .string key, .string elem, .int .i64 n]] w fun e w' => e = .returned (.bool (opB k key elem n)) ∧ Below w.heap.size w w' := by
  have K1 := Aside0.mk (fun W : World => (ref05_Key.calls 150 key _ W (keyD_f key 150 (by omega) (by omega))).mono fun _ _ h => And.intro h.1 (drawn_b h.2))
  have K2 := Aside0.mk (fun W : World => (ref05_Key.calls 150 elem _ W (keyD_f elem 150 (by omega) (by omega))).mono fun _ _ h => And.intro h.1 (drawn_b h.2))
  have HE : Aside0 (opB k key elem n = if k = 0 then keyB key.data.toList && (((!decide (n = 0)) && (decide (-1048576 ≤ n) && decide (n ≤ 1048576))) && elem.toList.isEmpty) else if k = 1 ∨ k = 2 ∨ k = 3 then keyB key.data.toList && (decide (n = 0) && keyB elem.data.toList) else false) := ⟨by
    rw [nil_iff]
    unfold opB incB nameB
    rw [← decide_not]⟩
  generalize keyB key.data.toList = b1 at *
  generalize keyB elem.data.toList = b2 at *
  have hBX := Bx.new (Below.refl w.heap.size w) (.cells #[.int .i64 k, .string key, .string elem, .int .i64 n] 28)
  go_enter Tryz.func38, Tryz.ntmps38
  go_wp2_with fail
  revert hBX
  generalize w.alloc (.cells #[.int .i64 k, .string key, .string elem, .int .i64 n] 28) = W1
  intro hBX
  have s0 := (blk_cell hBX.x 0).trans rfl; have s1 := (blk_cell hBX.x 1).trans rfl; have s2 := (blk_cell hBX.x 2).trans rfl; have s3 := (blk_cell hBX.x 3).trans rfl
  go_wp2_with fail
  refine (K1.out _).mono ?_
  rintro e w1 ⟨rfl, hb⟩
  replace hBX := hBX.go hb
  clear hb K1 s0 s1 s2 s3
  have s0 := (blk_cell hBX.x 0).trans rfl; have s1 := (blk_cell hBX.x 1).trans rfl; have s2 := (blk_cell hBX.x 2).trans rfl; have s3 := (blk_cell hBX.x 3).trans rfl
  go_wp2_with fail
  refine (K2.out _).mono ?_
  rintro e w2 ⟨rfl, hb⟩
  replace hBX := hBX.go hb
  clear hb K2 s0 s1 s2 s3
  have s0 := (blk_cell hBX.x 0).trans rfl; have s1 := (blk_cell hBX.x 1).trans rfl; have s2 := (blk_cell hBX.x 2).trans rfl; have s3 := (blk_cell hBX.x 3).trans rfl
  have HB := Aside0.mk hBX.b
  clear hBX
  cases b1 with
  | false =>
    have HF : Aside0 (opB k key elem n = false) := ⟨by rw [HE.out]; simp⟩
    clear HE
    go_wp2
    go_ret
    exact ⟨by rw [HF.out]; rfl, HB.out⟩
  | true =>
  by_cases k0 : k = 0
  · have x0 : (k == 0) = true := beq_iff_eq.mpr k0
    have HE2 : Aside0 (opB k key elem n = (((!decide (n = 0)) && (decide (-1048576 ≤ n) && decide (n ≤ 1048576))) && elem.toList.isEmpty)) := ⟨by rw [HE.out, if_pos k0, Bool.true_and]⟩
    clear HE k0
    have hk : decide (-1048576 ≤ n) = false ∨ decide (-1048576 ≤ n) = true ∧ (decide (n ≤ 1048576) = false ∨ decide (n ≤ 1048576) = true ∧ (n = 0 ∨ n ≠ 0)) := by
      cases decide (-1048576 ≤ n) <;> cases decide (n ≤ 1048576) <;> simp
      exact Classical.em _
    rcases hk with q1 | ⟨q1, q2 | ⟨q2, q3 | q3⟩⟩
    · have HF : Aside0 (opB k key elem n = false) := ⟨by rw [HE2.out, q1]; simp⟩
      clear HE2
      go_wp2
      go_ret
      exact ⟨by rw [HF.out]; rfl, HB.out⟩
    · have HF : Aside0 (opB k key elem n = false) := ⟨by rw [HE2.out, q1, q2]; simp⟩
      clear HE2
      go_wp2
      go_ret
      exact ⟨by rw [HF.out]; rfl, HB.out⟩
    · have HF : Aside0 (opB k key elem n = false) := ⟨by rw [HE2.out, decide_eq_true q3]; simp⟩
      have q4 : (n == 0) = true := beq_iff_eq.mpr q3
      have q5 : (n != 0) = false := bne_eq_false_iff_eq.mpr q3
      clear HE2 q3
      go_wp2
      go_ret
      exact ⟨by rw [HF.out]; rfl, HB.out⟩
    · have HF : Aside0 (opB k key elem n = elem.toList.isEmpty) := ⟨by rw [HE2.out, decide_eq_false q3, q1, q2]; simp⟩
      have q4 : (n == 0) = false := beq_eq_false_iff_ne.mpr q3
      have q5 : (n != 0) = true := bne_iff_ne.mpr q3
      clear HE2 q3
      go_wp2
      go_ret
      exact ⟨by rw [HF.out]; rfl, HB.out⟩
  · have x0 : (k == 0) = false := beq_eq_false_iff_ne.mpr k0
    have hk : (k == 1) = true ∨ (k == 1) = false ∧ ((k == 2) = true ∨ (k == 2) = false ∧ ((k == 3) = true ∨ (k == 3) = false)) := by cases k == 1 <;> cases k == 2 <;> cases k == 3 <;> simp
    have HE2 : Aside0 (opB k key elem n = (((k == 1) || ((k == 2) || (k == 3))) && (b2 && (n == 0)))) := ⟨by
      rw [HE.out, if_neg k0]
      by_cases h : k = 1 ∨ k = 2 ∨ k = 3
      · rw [if_pos h]
        have : ((k == 1) || ((k == 2) || (k == 3))) = true := by simpa using h
        rw [this, Bool.true_and, Bool.true_and, Bool.and_comm]
        rfl
      · rw [if_neg h]
        have : ((k == 1) || ((k == 2) || (k == 3))) = false := by simpa using h
        rw [this]; rfl⟩
    clear HE k0
    rcases hk with q1 | ⟨q1, q2 | ⟨q2, q3 | q3⟩⟩
    all_goals
      cases b2
      all_goals
        have HF := HE2.out
        first | rw [q1] at HF | skip
        first | rw [q2] at HF | skip
        first | rw [q3] at HF | skip
        have HF := Aside0.mk HF
        clear HE2
        go_wp2
        go_ret
        exact ⟨by rw [HF.out]; first | rfl | simp, HB.out⟩
end Go.Proofs.YtmcddoolniaehaaGreat.S
end
section
namespace Go.Proofs.YtmcddoolniaehaaGreat.S
open Go.RowKit Go.Proofs.YtmcddoolniaehaaGreatW.PrintWords Go.Proofs.YtmcddoolniaehaaGreatW.PrintLast Go.Proofs.YtmcddoolniaehaaGreatW.PrintMore
attribute [local go_sem] max2_int min2_int max_two min_two max_three min_three max_four min_four   -- for this text's walks alone
set_option linter.unusedVariables false
set_option linter.unusedSimpArgs false

attribute [local go_sem high] eqA43
def ref08_has.l0 : Nat → List (S43) → Int → ByteArray → ByteArray → Int → Int → Option (Bool)
 | 0, _, _, _, _, _, _ => none
 | k + 1, x0, x5, x245000, x245001, x245002, x245003 => if x5 < (x0.length : Int) then (if 0 ≤ x5 then (if ((((rd_T43 x0 x5).f0).toList) == x245000.toList && ((((rd_T43 x0 x5).f1).toList) == x245001.toList && ((((rd_T43 x0 x5).f2.f0) == x245002 && (((rd_T43 x0 x5).f2.f1) == x245003))))) = true then (some true) else (ref08_has.l0 k x0 (wrap64 (x5 + 1)) x245000 x245001 x245002 x245003)) else (none)) else (some false)
def ref08_has.f (k : Nat) (l0 : List (S43)) (a1_0 : ByteArray) (a1_1 : ByteArray) (a1_2 : Int) (a1_3 : Int) : Option (Bool) := ref08_has.l0 k l0 0 a1_0 a1_1 a1_2 a1_3
theorem ref08_has.mono_l : ∀ k, (∀ y0 y1 y2 y3 y4 y5, LeO (ref08_has.l0 k y0 y1 y2 y3 y4 y5) (ref08_has.l0 (k + 1) y0 y1 y2 y3 y4 y5))
 | 0 => fun _ _ _ _ _ _ r h => by simp [ref08_has.l0] at h
 | k + 1 => by
  have ih0 := ref08_has.mono_l k
  ·intro y0 y1 y2 y3 y4 y5
   unfold ref08_has.l0
   repeat' first
   | (with_reducible exact ih0 _ _ _ _ _ _)
   | (with_reducible exact LeO.refl _)
   | (with_reducible exact LeO.none _)
   | (with_reducible refine LeO.ite ?_ ?_)
   | (with_reducible refine LeO.bind ?_ (fun _ => ?_))
   | exact ih0 _ _ _ _ _ _
   | exact LeO.none _
   | refine LeO.ite ?_ ?_
   | refine LeO.bind ?_ (fun _ => ?_)
theorem ref08_has.mono : ∀ a0 a1 a2 a3 a4 k, LeO (ref08_has.f k a0 a1 a2 a3 a4) (ref08_has.f (k + 1) a0 a1 a2 a3 a4) := by
 intro a0 a1 a2 a3 a4 k
 have ih0 := ref08_has.mono_l k
 unfold ref08_has.f
 repeat' first
   | (with_reducible exact ih0 _ _ _ _ _ _)
   | (with_reducible exact LeO.refl _)
   | (with_reducible exact LeO.none _)
   | (with_reducible refine LeO.ite ?_ ?_)
   | (with_reducible refine LeO.bind ?_ (fun _ => ?_))
   | exact ih0 _ _ _ _ _ _
   | exact LeO.none _
   | refine LeO.ite ?_ ?_
   | refine LeO.bind ?_ (fun _ => ?_)
set_option maxHeartbeats 8000000 in
set_option maxRecDepth 100000 in
theorem ref08_has.calls (k : Nat) (A0 : Option Addr) (c0 : Nat) (l0 : List (S43)) (a1_0 : ByteArray) (a1_1 : ByteArray) (a1_2 : Int) (a1_3 : Int) (r : Bool) (w : World) (hr0 : Kd.C k43 w A0 l0.length l0) (hc0 : l0.length ≤ c0) (h : ref08_has.f k l0 a1_0 a1_1 a1_2 a1_3 = some r) :
  Calls Tryz.prog 100 #[.slice A0 l0.length c0, .agg #[.string a1_0, .string a1_1, .int .i64 a1_2, .int .i64 a1_3]] w fun e w' => e = .returned (.bool r) ∧ Below w.heap.size w w' := by
 have hu43 := Tryz.underlying43
 have HR0 := Aside0.mk hr0
 have HC0 := Aside0.mk hc0
 clear hr0 hc0
 have HB := Aside0.mk (Below.refl w.heap.size w)
 have H : (ref08_has.l0 k l0 0 a1_0 a1_1 a1_2 a1_3) = some r := h
 clear h
 have H' := Aside0.mk H
 clear H
 go_enter Tryz.func100, Tryz.ntmps100
 go_wp2_with (first | ((with_reducible refine gate_dst (N := 3) rfl ?_); refine box_event ?hg (N := 3) ?hd (cs := #[.string a1_0, .string a1_1, .int .i64 a1_2, .int .i64 a1_3]) (t := 43) ?hr ?_; (case hd => rfl); (case hg => rfl); (case hr => first | (go_simp; done) | (go_simp; rfl)); intro gb244 hg w3 hbox hb; have n0_ := Aside0.mk (below_step (by repeat (first | (with_reducible first | exact HB.out | apply below_alloc | apply pw_below_drewN | apply below_drew1) | exact HB.out)) hb); have n1_ := Aside0.mk (hbox); have n2_ := Aside0.mk ((by rw [hg]; exact (below_size (by repeat (first | (with_reducible first | exact HB.out | apply below_alloc | apply pw_below_drewN | apply below_drew1) | exact HB.out))) : w.heap.size ≤ gb244)); have n3_ := Aside0.mk ((by rw [hg]; exact (below_size (by repeat (first | (with_reducible first | exact HB.out | apply below_alloc | apply pw_below_drewN | apply below_drew1) | exact HB.out))) : w.heap.size ≤ gb244)); clear HB; have HB := n0_; have BK244 := n1_; have GW244 := n2_; have GE244 := n3_; clear n0_ n1_ n2_ n3_; clear hb hbox hg))
 repeat (go_quiet (first | ((with_reducible refine gate_dst (N := 3) rfl ?_); refine box_event ?hg (N := 3) ?hd (cs := #[.string a1_0, .string a1_1, .int .i64 a1_2, .int .i64 a1_3]) (t := 43) ?hr ?_; (case hd => rfl); (case hg => rfl); (case hr => first | (go_simp; done) | (go_simp; rfl)); intro gb244 hg w3 hbox hb; have n0_ := Aside0.mk (below_step (by repeat (first | (with_reducible first | exact HB.out | apply below_alloc | apply pw_below_drewN | apply below_drew1) | exact HB.out)) hb); have n1_ := Aside0.mk (hbox); have n2_ := Aside0.mk ((by rw [hg]; exact (below_size (by repeat (first | (with_reducible first | exact HB.out | apply below_alloc | apply pw_below_drewN | apply below_drew1) | exact HB.out))) : w.heap.size ≤ gb244)); have n3_ := Aside0.mk ((by rw [hg]; exact (below_size (by repeat (first | (with_reducible first | exact HB.out | apply below_alloc | apply pw_below_drewN | apply below_drew1) | exact HB.out))) : w.heap.size ≤ gb244)); clear HB; have HB := n0_; have BK244 := n1_; have GW244 := n2_; have GE244 := n3_; clear n0_ n1_ n2_ n3_; clear hb hbox hg)); try go_wp2_with (first | ((with_reducible refine gate_dst (N := 3) rfl ?_); refine box_event ?hg (N := 3) ?hd (cs := #[.string a1_0, .string a1_1, .int .i64 a1_2, .int .i64 a1_3]) (t := 43) ?hr ?_; (case hd => rfl); (case hg => rfl); (case hr => first | (go_simp; done) | (go_simp; rfl)); intro gb244 hg w3 hbox hb; have n0_ := Aside0.mk (below_step (by repeat (first | (with_reducible first | exact HB.out | apply below_alloc | apply pw_below_drewN | apply below_drew1) | exact HB.out)) hb); have n1_ := Aside0.mk (hbox); have n2_ := Aside0.mk ((by rw [hg]; exact (below_size (by repeat (first | (with_reducible first | exact HB.out | apply below_alloc | apply pw_below_drewN | apply below_drew1) | exact HB.out))) : w.heap.size ≤ gb244)); have n3_ := Aside0.mk ((by rw [hg]; exact (below_size (by repeat (first | (with_reducible first | exact HB.out | apply below_alloc | apply pw_below_drewN | apply below_drew1) | exact HB.out))) : w.heap.size ≤ gb244)); clear HB; have HB := n0_; have BK244 := n1_; have GW244 := n2_; have GE244 := n3_; clear n0_ n1_ n2_ n3_; clear hb hbox hg)))
 go_loopg [5] k (fun kq v5 w' => ∃ (x5_1 : Int), v5 = .int .i64 x5_1 ∧ Aside0 (ref08_has.l0 kq l0 x5_1 a1_0 a1_1 a1_2 a1_3 = some r) ∧ Aside0 (kq ≤ k) ∧ Aside0 (w'.heap[gb244]? = some (.cells #[.string a1_0, .string a1_1, .int .i64 a1_2, .int .i64 a1_3] 43 (0, 0))) ∧ Aside0 (Below w.heap.size w w'))
 case atStart => exact ⟨(0), (by first | rfl | (simp; done) | (simp [*]; done)), H', ⟨Nat.le_refl _⟩, ⟨by (with_reducible repeat (first | refine blk_drewN ?_ _ | refine blk_drew ?_ | refine blk_alloc ?_ _)); exact BK244.out⟩, ⟨by repeat (first | (with_reducible first | exact HB.out | apply below_alloc | apply pw_below_drewN | apply below_drew1 | refine below_set ?_ GE244.out) | exact HB.out)⟩⟩
 case round =>
  clear H'
  try clear c1
  try clear p2
  obtain ⟨x5_1, rfl, HA, HK1, BK244, HB⟩ := hrel
  cases gk with
  | zero => exact absurd HA.out (by simp [ref08_has.l0])
  | succ k1 =>
   have H := HA.out
   clear HA
   simp only [ref08_has.l0] at H
   by_cases c4 : x5_1 < (l0.length : Int)
   ·rw [if_pos c4] at H
    have c4b0 : decide (x5_1 < (l0.length : Int)) = true := decide_eq_true c4
    clear c4
    by_cases c5 : 0 ≤ x5_1
    ·rw [if_pos c5] at H
     have c5b0 : decide (0 ≤ x5_1) = true := decide_eq_true c5
     clear c5
     by_cases c6 : ((((rd_T43 l0 x5_1).f0).toList) == a1_0.toList && ((((rd_T43 l0 x5_1).f1).toList) == a1_1.toList && ((((rd_T43 l0 x5_1).f2.f0) == a1_2 && (((rd_T43 l0 x5_1).f2.f1) == a1_3))))) = true
     ·rw [if_pos c6] at H
      have c6b0 : ((((rd_T43 l0 x5_1).f0).toList) == a1_0.toList && ((((rd_T43 l0 x5_1).f1).toList) == a1_1.toList && ((((rd_T43 l0 x5_1).f2.f0) == a1_2 && (((rd_T43 l0 x5_1).f2.f1) == a1_3))))) = true := c6
      (try (have c6b1 : decide ((((rd_T43 l0 x5_1).f0).toList) = a1_0.toList && ((((rd_T43 l0 x5_1).f1).toList) == a1_1.toList && ((((rd_T43 l0 x5_1).f2.f0) == a1_2 && (((rd_T43 l0 x5_1).f2.f1) == a1_3))))) = true := by simpa using c6))
      (try (have c6b2 : ((((rd_T43 l0 x5_1).f0).toList) == a1_0.toList && ((((rd_T43 l0 x5_1).f1).toList) == a1_1.toList && ((((rd_T43 l0 x5_1).f2.f0) == a1_2 && (((rd_T43 l0 x5_1).f2.f1) == a1_3))))) = true := by simpa using c6))
      clear c6
      obtain rfl := Option.some.inj H
      have p245 : 0 ≤ (x5_1 : Int) := of_decide_eq_true (by first | (with_reducible assumption) | assumption)
      have q245 : x5_1 < (l0.length : Int) := of_decide_eq_true (by first | (with_reducible assumption) | assumption)
      obtain ⟨ad245, e245, hx245_0, hx245_1, hx245_2, hx245_3⟩ := at_T43 HR0.out x5_1 p245 q245
      cases e245
      replace hx245_0 := (HB.out.cell (World.block_lt_of_cell? w _ hx245_0)).trans hx245_0
      replace hx245_1 := (HB.out.cell (World.block_lt_of_cell? w _ hx245_1)).trans hx245_1
      replace hx245_2 := (HB.out.cell (World.block_lt_of_cell? w _ hx245_2)).trans hx245_2
      replace hx245_3 := (HB.out.cell (World.block_lt_of_cell? w _ hx245_3)).trans hx245_3
      replace p245 := eq_true p245
      replace q245 := eq_true q245
      have hcz7_0 : wr.cell? ⟨gb244, 0, none⟩ = some (.string a1_0) := (blk_cell BK244.out 0).trans rfl
      have hcz7_1 : wr.cell? ⟨gb244, 1, none⟩ = some (.string a1_1) := (blk_cell BK244.out 1).trans rfl
      have hcz7_2 : wr.cell? ⟨gb244, 2, none⟩ = some (.int .i64 a1_2) := (blk_cell BK244.out 2).trans rfl
      have hcz7_3 : wr.cell? ⟨gb244, 3, none⟩ = some (.int .i64 a1_3) := (blk_cell BK244.out 3).trans rfl
      have hfz7_0 := blk_frozen BK244.out 0
      have hfz7_1 := blk_frozen BK244.out 1
      have hfz7_2 := blk_frozen BK244.out 2
      have hfz7_3 := blk_frozen BK244.out 3
      go_wp2
      repeat (go_quiet (fail); try go_wp2)
      go_ret
      exact ⟨by first | rfl | (simp [errW_none, errW_some] <;> rfl) | (simp [*, errW_none, errW_some] <;> rfl), by repeat (first | (with_reducible first | exact HB.out | apply below_alloc | apply pw_below_drewN | apply below_drew1 | refine below_set ?_ GE244.out) | exact HB.out)⟩
     ·rw [if_neg c6] at H
      have c6b0 : ((((rd_T43 l0 x5_1).f0).toList) == a1_0.toList && ((((rd_T43 l0 x5_1).f1).toList) == a1_1.toList && ((((rd_T43 l0 x5_1).f2.f0) == a1_2 && (((rd_T43 l0 x5_1).f2.f1) == a1_3))))) = false := by simpa using c6
      (try (have c6b1 : decide ((((rd_T43 l0 x5_1).f0).toList) = a1_0.toList && ((((rd_T43 l0 x5_1).f1).toList) == a1_1.toList && ((((rd_T43 l0 x5_1).f2.f0) == a1_2 && (((rd_T43 l0 x5_1).f2.f1) == a1_3))))) = false := by simpa using c6))
      (try (have c6b2 : ((((rd_T43 l0 x5_1).f0).toList) == a1_0.toList && ((((rd_T43 l0 x5_1).f1).toList) == a1_1.toList && ((((rd_T43 l0 x5_1).f2.f0) == a1_2 && (((rd_T43 l0 x5_1).f2.f1) == a1_3))))) = false := by simpa using c6))
      (try (have c6b3 : ¬ ((((rd_T43 l0 x5_1).f0).toList) = a1_0.toList && ((((rd_T43 l0 x5_1).f1).toList) == a1_1.toList && ((((rd_T43 l0 x5_1).f2.f0) == a1_2 && (((rd_T43 l0 x5_1).f2.f1) == a1_3))))) := by simpa using c6))
      clear c6
      have H' := Aside0.mk H
      clear H
      have p245 : 0 ≤ (x5_1 : Int) := of_decide_eq_true (by first | (with_reducible assumption) | assumption)
      have q245 : x5_1 < (l0.length : Int) := of_decide_eq_true (by first | (with_reducible assumption) | assumption)
      obtain ⟨ad245, e245, hx245_0, hx245_1, hx245_2, hx245_3⟩ := at_T43 HR0.out x5_1 p245 q245
      cases e245
      replace hx245_0 := (HB.out.cell (World.block_lt_of_cell? w _ hx245_0)).trans hx245_0
      replace hx245_1 := (HB.out.cell (World.block_lt_of_cell? w _ hx245_1)).trans hx245_1
      replace hx245_2 := (HB.out.cell (World.block_lt_of_cell? w _ hx245_2)).trans hx245_2
      replace hx245_3 := (HB.out.cell (World.block_lt_of_cell? w _ hx245_3)).trans hx245_3
      replace p245 := eq_true p245
      replace q245 := eq_true q245
      have hcz8_0 : wr.cell? ⟨gb244, 0, none⟩ = some (.string a1_0) := (blk_cell BK244.out 0).trans rfl
      have hcz8_1 : wr.cell? ⟨gb244, 1, none⟩ = some (.string a1_1) := (blk_cell BK244.out 1).trans rfl
      have hcz8_2 : wr.cell? ⟨gb244, 2, none⟩ = some (.int .i64 a1_2) := (blk_cell BK244.out 2).trans rfl
      have hcz8_3 : wr.cell? ⟨gb244, 3, none⟩ = some (.int .i64 a1_3) := (blk_cell BK244.out 3).trans rfl
      have hfz8_0 := blk_frozen BK244.out 0
      have hfz8_1 := blk_frozen BK244.out 1
      have hfz8_2 := blk_frozen BK244.out 2
      have hfz8_3 := blk_frozen BK244.out 3
      go_wp2
      repeat (go_quiet (fail); try go_wp2)
      go_roundg k1
      case measure => have := HK1.out; omega
      case rel => exact ⟨(wrap64 (x5_1 + 1)), (by first | rfl | (simp; done) | (simp [*]; done)), H', ⟨by have := HK1.out; omega⟩, ⟨by (with_reducible repeat (first | refine blk_drewN ?_ _ | refine blk_drew ?_ | refine blk_alloc ?_ _)); exact BK244.out⟩, ⟨by repeat (first | (with_reducible first | exact HB.out | apply below_alloc | apply pw_below_drewN | apply below_drew1 | refine below_set ?_ GE244.out) | exact HB.out)⟩⟩
    ·rw [if_neg c5] at H
     exact absurd H (by simp)
   ·rw [if_neg c4] at H
    have c4b0 : decide (x5_1 < (l0.length : Int)) = false := decide_eq_false c4
    clear c4
    obtain rfl := Option.some.inj H
    go_wp2
    repeat (go_quiet (fail); try go_wp2)
    go_ret
    exact ⟨by first | rfl | (simp [errW_none, errW_some] <;> rfl) | (simp [*, errW_none, errW_some] <;> rfl), by repeat (first | (with_reducible first | exact HB.out | apply below_alloc | apply pw_below_drewN | apply below_drew1 | refine below_set ?_ GE244.out) | exact HB.out)⟩

end Go.Proofs.YtmcddoolniaehaaGreat.S
end
section
namespace Go.Proofs.YtmcddoolniaehaaGreat.S
open Go.RowKit Go.Proofs.YtmcddoolniaehaaGreatW.PrintWords Go.Proofs.YtmcddoolniaehaaGreatW.PrintLast Go.Proofs.YtmcddoolniaehaaGreatW.PrintMore Go.Proofs.YtmcddoolniaehaaGreatW
set_option linter.unusedVariables false
set_option linter.unusedSimpArgs false
def eqR (x : Pr) (p0 p1 : ByteArray) (p2 p3 : Int) : Bool := (x.f0.toList == p0.toList) && ((x.f1.toList == p1.toList) && ((x.f2.f0 == p2) && (x.f2.f1 == p3)))
theorem eqR_iff {x p : Pr} : eqR x p.f0 p.f1 p.f2.f0 p.f2.f1 = true ↔ x = p := by
  unfold eqR
  simp only [Bool.and_eq_true, beq_iff_eq]
  constructor
  · rintro ⟨h1, h2, h3, h4⟩
    obtain ⟨a, b, c, d⟩ := x
    obtain ⟨a', b', c', d'⟩ := p
    simp only at h1 h2 h3 h4
    obtain rfl := toList_inj h1
    obtain rfl := toList_inj h2
    subst h3 h4
    rfl
  · rintro rfl; exact ⟨rfl, rfl, rfl, rfl⟩
theorem rhas_loop (p : Pr) : ∀ (suf pre : List Pr) (k : Nat), suf.length < k → (pre ++ suf).length < 4611686018427387904 →
    ref08_has.l0 k (pre ++ suf) ((pre.length : Nat) : Int) p.f0 p.f1 p.f2.f0 p.f2.f1 = some (suf.any fun x => eqR x p.f0 p.f1 p.f2.f0 p.f2.f1)
  | suf, pre, 0, hk, _ => by omega
  | [], pre, k + 1, _, _ => by
    simp only [ref08_has.l0]
    rw [if_neg (by simp)]
    rfl
  | x :: suf, pre, k + 1, hk, hl => by
    have hlt : ((pre.length : Nat) : Int) < (((pre ++ x :: suf).length : Nat) : Int) := by simp; omega
    have hpl : pre.length < 4611686018427387904 := by simp at hl; omega
    have ih := rhas_loop p suf (pre ++ [x]) k (by simp at hk; omega) (by simpa using hl)
    rw [app_one, len_one] at ih
    simp only [ref08_has.l0]
    rw [if_pos hlt, if_pos (by omega), rdP_mid, wrapUp hpl, ih, List.any_cons]
    show (if eqR x p.f0 p.f1 p.f2.f0 p.f2.f1 = true then some true else _) = _
    cases h : eqR x p.f0 p.f1 p.f2.f0 p.f2.f1 <;> simp
theorem rhas_f (k : Nat) (l : List Pr) (p : Pr) (hk : l.length < k) (hl : l.length ≤ 1000) : ref08_has.f k l p.f0 p.f1 p.f2.f0 p.f2.f1 = some (decide (p ∈ l)) := by
  have h := rhas_loop p l [] k hk (by simp; omega)
  have e : (l.any fun x => eqR x p.f0 p.f1 p.f2.f0 p.f2.f1) = decide (p ∈ l) := by
    rw [Bool.eq_iff_iff, decide_eq_true_eq, List.any_eq_true]
    constructor
    · rintro ⟨x, hx, hq⟩; rw [← eqR_iff.1 hq]; exact hx
    · intro hx; exact ⟨p, hx, eqR_iff.2 rfl⟩
  rw [← e]
  simpa [ref08_has.f] using h
theorem rdPN (l : List Pr) (j : Nat) (h : j < l.length) : rd_T43 l (j : Int) = l[j] := by simp [rd_T43, List.getD_eq_getElem?_getD, h]
def atP (l : List Pr) (p : Pr) : Nat → Nat
  | 0 => 0
  | n + 1 => if ltP p (rd_T43 l (n : Int)) then atP l p n else n + 1
def insQ (l : List Pr) (p : Pr) : List Pr := if p ∈ l then l else l.take (atP l p l.length) ++ p :: l.drop (atP l p l.length)
theorem atP_spec (l : List Pr) (p : Pr) : ∀ n, n ≤ l.length → (∀ x ∈ l.drop n, ltP p x = true) → atP l p n ≤ n ∧ (∀ x ∈ l.drop (atP l p n), ltP p x = true) ∧ (∀ m, atP l p n = m + 1 → ∃ h : m < l.length, ltP p l[m] = false)
  | 0, _, hd => ⟨Nat.le_refl _, hd, fun m h => by cases h⟩
  | n + 1, hn, hd => by
    have hlt : n < l.length := by omega
    unfold atP
    rw [rdPN l n hlt]
    cases hq : ltP p l[n] with
    | true =>
      rw [if_pos rfl]
      obtain ⟨h1, h2, h3⟩ := atP_spec l p n (by omega) (fun x hx => by
        rw [List.drop_eq_getElem_cons hlt] at hx
        rcases List.mem_cons.1 hx with rfl | hx
        · exact hq
        · exact hd x hx)
      exact ⟨by omega, h2, h3⟩
    | false =>
      rw [if_neg (by simp)]
      exact ⟨Nat.le_refl _, hd, fun m h => by cases h; exact ⟨hlt, hq⟩⟩
theorem insQ_len (l : List Pr) (p : Pr) : (insQ l p).length ≤ l.length + 1 := by
  unfold insQ
  split
  · omega
  · have := (atP_spec l p l.length (Nat.le_refl _) (by simp)).1
    simp; omega
theorem insQ_mem {l : List Pr} {p x : Pr} : x ∈ insQ l p ↔ x ∈ l ∨ x = p := by
  unfold insQ
  split
  · exact ⟨.inl, fun h => h.elim id fun e => e ▸ ‹_›⟩
  · have : x ∈ l ↔ x ∈ l.take (atP l p l.length) ∨ x ∈ l.drop (atP l p l.length) := by rw [← List.mem_append, List.take_append_drop]
    rw [this]
    simp only [List.mem_append, List.mem_cons]
    constructor
    · rintro (h | h | h)
      · exact .inl (.inl h)
      · exact .inr h
      · exact .inl (.inr h)
    · rintro ((h | h) | h)
      · exact .inl h
      · exact .inr (.inr h)
      · exact .inr (.inl h)
theorem insQ_up {l : List Pr} {p : Pr} (hu : l.Pairwise pLt) : (insQ l p).Pairwise pLt := by
  unfold insQ
  split
  · exact hu
  · rename_i hp
    obtain ⟨h1, h2, h3⟩ := atP_spec l p l.length (Nat.le_refl _) (by simp)
    have ht : ∀ x ∈ l.take (atP l p l.length), ltP x p = true := fun x hx => by
      obtain ⟨i, hi, rfl⟩ := List.mem_iff_getElem.1 hx
      rw [List.getElem_take]
      rw [List.length_take] at hi
      obtain ⟨m, hm⟩ : ∃ m, atP l p l.length = m + 1 := ⟨atP l p l.length - 1, by omega⟩
      obtain ⟨hml, hq⟩ := h3 m hm
      have hlt : ltP l[m] p = true := by
        rcases ltP_tri l[m] p with h | h | h
        · exact h
        · exact absurd (h ▸ List.getElem_mem hml) hp
        · rw [hq] at h; cases h
      rcases Nat.lt_or_ge i m with h | h
      · exact ltP_trans (List.pairwise_iff_getElem.1 hu i m (by omega) hml h) hlt
      · have : i = m := by omega
        subst this; exact hlt
    refine List.pairwise_append.2 ⟨hu.sublist (List.take_sublist _ _), List.pairwise_cons.2 ⟨h2, hu.sublist (List.drop_sublist _ _)⟩, fun x hx y hy => ?_⟩
    rcases List.mem_cons.1 hy with rfl | hy
    · exact ht x hx
    · exact ltP_trans (ht x hx) (h2 y hy)
set_option maxHeartbeats 8000000 in
set_option maxRecDepth 100000 in
theorem rpput_calls (w0 : World) (v : Value) (l : List S43) (p : S43) (W : World) (H : Ou k43 43 w0 v l W) (hl : l.length ≤ 1000) :
    Calls Tryz.prog 93 #[v, .agg #[.string p.f0, .string p.f1, .int .i64 p.f2.f0, .int .i64 p.f2.f1]] W fun e w' => ∃ v', e = .returned v' ∧ Ou k43 43 w0 v' (insQ l p) w' := by
  have hu := Tryz.underlying43
  obtain ⟨A, c, rfl, hlc, hC⟩ := Kd.R_reads H.r
  have HLC := Aside0.mk hlc
  have K0 := Aside0.mk (fun (W1 : World) (h : Ou k43 43 w0 (.slice A l.length c) l W1) => ref08_has.calls 1100 A c l p.f0 p.f1 p.f2.f0 p.f2.f1 (decide (p ∈ l)) W1 (Kd.R_reads' h.r).2.2 hlc (rhas_f 1100 l p (by omega) hl))
  have K1 := Aside0.mk (fun (y : Pr) (W1 : World) => ref08_Less.calls _ _ _ _ _ _ _ _ _ W1 (rless_f p y))
  have HE := Aside0.mk (show insQ l p = if decide (p ∈ l) = true then l else l.take (atP l p l.length) ++ p :: l.drop (atP l p l.length) by unfold insQ; simp)
  generalize decide (p ∈ l) = t at *
  have HO := Aside0.mk (show Ob k43 43 w0 W.heap.size (.cells #[.string p.f0, .string p.f1, .int .i64 p.f2.f0, .int .i64 p.f2.f1] 43) (.slice A l.length c) l (W.alloc (.cells #[.string p.f0, .string p.f1, .int .i64 p.f2.f0, .int .i64 p.f2.f1] 43)) from ⟨H.alloc _, blk_new _ _, fun e => absurd (Kd.R_lt H.r _ e) (by omega)⟩)
  clear H hlc hC
  go_enter Tryz.func93, Tryz.ntmps93
  go_wp2_with fail
  revert HO
  generalize W.alloc (.cells #[.string p.f0, .string p.f1, .int .i64 p.f2.f0, .int .i64 p.f2.f1] 43) = W1
  generalize W.heap.size = g0
  intro HO
  have s0 := (blk_cell HO.out.x 0).trans rfl; have s1 := (blk_cell HO.out.x 1).trans rfl; have s2 := (blk_cell HO.out.x 2).trans rfl; have s3 := (blk_cell HO.out.x 3).trans rfl
  go_wp2_with fail
  refine (K0.out _ HO.out.toOu).mono ?_
  rintro e w1 ⟨rfl, hb⟩
  replace HO := Aside0.mk (HO.out.go hb)
  clear hb K0 s0 s1 s2 s3
  cases t with
  | true =>
    have HF : Aside0 (insQ l p = l) := ⟨by rw [HE.out, if_pos rfl]⟩
    clear HE
    go_wp2
    go_ret
    exact ⟨_, rfl, by rw [HF.out]; exact HO.out.toOu⟩
  | false =>
    have HF : Aside0 (insQ l p = l.take (atP l p l.length) ++ p :: l.drop (atP l p l.length)) := ⟨by rw [HE.out, if_neg (by simp)]⟩
    clear HE
    go_wp2
    go_loopw [6] (fun i wr => ∃ n : Nat, i = .int .i64 n ∧ n ≤ l.length ∧ Aside0 (atP l p l.length = atP l p n) ∧ Aside0 (Ob k43 43 w0 g0 (.cells #[.string p.f0, .string p.f1, .int .i64 p.f2.f0, .int .i64 p.f2.f1] 43) (.slice A l.length c) l wr)) (fun i _ => (intOf i).toNat)
    case atStart => exact ⟨l.length, rfl, Nat.le_refl _, ⟨rfl⟩, HO⟩
    case round =>
      clear HO
      obtain ⟨n, rfl, hn, HP, HO⟩ := hrel
      by_cases hz : n = 0
      · replace HF : Aside0 (insQ l p = l.take n ++ p :: l.drop n) := ⟨by rw [HF.out, HP.out, hz]; rfl⟩
        have hz2 : decide (0 < n) = false := decide_eq_false (by omega)
        clear HP K1 hz
        obtain ⟨i0, hi0, _, hsz, _⟩ := info_parts info43
        have hC := (Kd.R_reads' HO.out.r).2.2
        have HC1 := Aside0.mk (Kd.C_take (m := n) hC hn)
        have HC2 := Aside0.mk (fun (W' : World) (h : Ou k43 43 w0 (.slice A l.length c) l W') => Kd.C_drop (m := n) (Kd.R_reads' h.r).2.2 hn HLC.out)
        have hc1 := cut_to (P := Tryz.prog) 24 43 .i64 Tryz.underlying24 hi0 A l.length c ((n : Int)) (by omega) (by omega) HLC.out
        have hc2 := cut_from (P := Tryz.prog) 24 43 .i64 Tryz.underlying24 hi0 4 hsz A l.length c ((n : Int)) (by omega) (by omega)
        rw [show ((n : Int) : Int).toNat = n by omega] at hc1 hc2
        have hs1 : (l.take (n)).length = n := by rw [List.length_take]; omega
        have hs2 : (l.drop (n)).length = l.length - (n) := List.length_drop
        rw [hs1] at HC1
        rw [hs2] at HC2
        change Aside0 (∀ W', Ou k43 43 w0 (.slice A l.length c) l W' → Kd.C k43 W' (if c = n then A else (A).map (·.add ((n) * 4))) (l.length - (n)) (l.drop (n))) at HC2
        generalize (if c = n then A else (A).map (·.add ((n) * 4))) = A2 at HC2 hc2
        clear hC hi0 hsz hs1 hs2
        have s0 := (blk_cell HO.out.x 0).trans rfl; have s1 := (blk_cell HO.out.x 1).trans rfl; have s2 := (blk_cell HO.out.x 2).trans rfl; have s3 := (blk_cell HO.out.x 3).trans rfl
        go_wp2_with (first
          | (at_builtin; refine arP (Ou.nil HO.out.b) HC1.out (by simp; omega) rfl _ _ rfl rfl rfl ?_; intro v1 w3 hk1 ho1; have HN := Aside0.mk (show Ob k43 43 w0 g0 (.cells #[.string p.f0, .string p.f1, .int .i64 p.f2.f0, .int .i64 p.f2.f1] 43) v1 _ w3 from ⟨ho1, (hk1.box HO.out.x (by simp [Value.ownBlock])).1, (hk1.box HO.out.x (by simp [Value.ownBlock])).2⟩); have ha0 : Apart1 (.slice none 0 0) (.slice A l.length c) := fun k hk => (by simp [Value.ownBlock] at hk); have HA := Aside0.mk (hk1.ap HO.out.r ha0); have HQ := Aside0.mk (HO.out.toOu.other rfl hk1 ho1 ha0); clear hk1 ho1 ha0 HO s0 s1 s2 s3; have s0 := (blk_cell HN.out.x 0).trans rfl; have s1 := (blk_cell HN.out.x 1).trans rfl; have s2 := (blk_cell HN.out.x 2).trans rfl; have s3 := (blk_cell HN.out.x 3).trans rfl)
          | (at_builtin; refine apP p HN.out.toOu (by simp; omega) rfl _ _ rfl rfl rfl ?_; intro v2 w4 hk1 ho1; replace HN := Aside0.mk (HN.out.kept ho1 hk1); replace HQ := Aside0.mk (HQ.out.other rfl hk1 ho1 HA.out); clear hk1 ho1 s0 s1 s2 s3)
          | (at_builtin; refine arP HN.out.toOu (HC2.out _ HQ.out) (by simp; omega) rfl _ _ rfl rfl rfl ?_; intro v3 w5 hk1 ho1; have HZ := Aside0.mk ho1; clear hk1 ho1 HN HQ))
        go_ret
        exact ⟨_, rfl, by rw [HF.out]; simpa using HZ.out⟩
      · obtain ⟨m, rfl⟩ : ∃ m, n = m + 1 := ⟨n - 1, by omega⟩
        have hm : m < l.length := by omega
        obtain ⟨ad, e, hx0, hx1, hx2, hx3⟩ := at_T43 (Kd.R_reads' HO.out.r).2.2 (m : Int) (by omega) (by omega)
        cases e
        have HP2 : Aside0 (atP l p l.length = if ltP p (rd_T43 l (m : Int)) then atP l p m else m + 1) := ⟨by rw [HP.out]; rfl⟩
        have K2 := Aside0.mk (K1.out (rd_T43 l (m : Int)))
        clear HP
        generalize rd_T43 l (m : Int) = y at *
        simp only [Int.toNat_natCast] at hx0 hx1 hx2 hx3
        obtain ⟨b, hb⟩ : ∃ b, b = ltP p y := ⟨_, rfl⟩
        rw [← hb] at HP2 K2
        clear hb
        have hw1 : IntKind.i64.wrap (m : Int) = (m : Int) := by rw [i64_w]; unfold wrap64; omega
        have hm0 : (0 : Int) ≤ (m : Int) := by omega
        have hm1 : (m : Int) < (l.length : Int) := by omega
        have hm2 : (0 : Int) < (m : Int) + 1 := by omega
        go_wp2_with fail
        refine in_ (n := 8) (S := Bx wr g0 _) (by kernel_rfl) rfl ⟨below_drew (Below.refl _ _), blk_drew HO.out.x⟩ (fun hHeld => ?_)
        repeat (first
          | (refine run_ (v := ?_) (a' := ?_) rfl rfl hHeld ?_ ?_ ?_; rotate_left; (focus (intro w2 hs; have s0 := (blk_cell hs.x 0).trans rfl; have s1 := (blk_cell hs.x 1).trans rfl; have s2 := (blk_cell hs.x 2).trans rfl; have s3 := (blk_cell hs.x 3).trans rfl; have u0 := (hs.b.cell (World.block_lt_of_cell? wr _ hx0)).trans hx0; have u1 := (hs.b.cell (World.block_lt_of_cell? wr _ hx1)).trans hx1; have u2 := (hs.b.cell (World.block_lt_of_cell? wr _ hx2)).trans hx2; have u3 := (hs.b.cell (World.block_lt_of_cell? wr _ hx3)).trans hx3; go_simp; with_reducible rfl)); rotate_left; (focus (simp only [Act.put, sqA, sqB, sqC] <;> rfl)))
          | (refine skip_ (a' := ?_) rfl rfl hHeld ?_ ?_; rotate_left; (focus (simp only [Act.put, sqA, sqB, sqC] <;> rfl)))
          | (refine ask_ rfl rfl (fun K hK => ?_); go_simp; (first | (go_at_call 94; with_reducible refine (K2.out _).mono ?_)); rintro e1 w1 ⟨rfl, hb⟩; replace hHeld := hHeld.go hb; go_wp2_with fail; refine hK.out _ _ hHeld (fun _ => ?_); clear hK K hb; try simp only [Act.put, sqA, sqB, sqC]))
        refine wpAnyH_done (by kernel_rfl) ?_ _
        replace HO := Aside0.mk (HO.out.go hHeld.b)
        clear hHeld hx0 hx1 hx2 hx3 K2
        cases b with
        | true =>
          have HP3 : Aside0 (atP l p l.length = atP l p m) := ⟨by rw [HP2.out, if_pos rfl]⟩
          clear HP2
          go_wp2
          go_roundw
          case rel => exact ⟨m, by go_num, by omega, HP3, HO⟩
          case measure => simp [intOf]
        | false =>
          replace HF : Aside0 (insQ l p = l.take (m + 1) ++ p :: l.drop (m + 1)) := ⟨by rw [HF.out, HP2.out, if_neg (by simp)]⟩
          clear HP2 K1 hw1 hm0 hm1 hm2
          obtain ⟨i0, hi0, _, hsz, _⟩ := info_parts info43
          have hC := (Kd.R_reads' HO.out.r).2.2
          have HC1 := Aside0.mk (Kd.C_take (m := m + 1) hC hn)
          have HC2 := Aside0.mk (fun (W' : World) (h : Ou k43 43 w0 (.slice (some ad) l.length c) l W') => Kd.C_drop (m := m + 1) (Kd.R_reads' h.r).2.2 hn HLC.out)
          have hc1 := cut_to (P := Tryz.prog) 24 43 .i64 Tryz.underlying24 hi0 (some ad) l.length c ((m : Int) + 1) (by omega) (by omega) HLC.out
          have hc2 := cut_from (P := Tryz.prog) 24 43 .i64 Tryz.underlying24 hi0 4 hsz (some ad) l.length c ((m : Int) + 1) (by omega) (by omega)
          rw [show ((m : Int) + 1 : Int).toNat = m + 1 by omega] at hc1 hc2
          have hs1 : (l.take (m + 1)).length = m + 1 := by rw [List.length_take]; omega
          have hs2 : (l.drop (m + 1)).length = l.length - (m + 1) := List.length_drop
          rw [hs1] at HC1
          rw [hs2] at HC2
          change Aside0 (∀ W', Ou k43 43 w0 (.slice (some ad) l.length c) l W' → Kd.C k43 W' (if c = m + 1 then (some ad) else ((some ad)).map (·.add ((m + 1) * 4))) (l.length - (m + 1)) (l.drop (m + 1))) at HC2
          generalize (if c = m + 1 then (some ad) else ((some ad)).map (·.add ((m + 1) * 4))) = A2 at HC2 hc2
          clear hC hi0 hsz hs1 hs2
          have s0 := (blk_cell HO.out.x 0).trans rfl; have s1 := (blk_cell HO.out.x 1).trans rfl; have s2 := (blk_cell HO.out.x 2).trans rfl; have s3 := (blk_cell HO.out.x 3).trans rfl
          go_wp2_with (first
            | (at_builtin; refine arP (Ou.nil HO.out.b) HC1.out (by simp; omega) rfl _ _ rfl rfl rfl ?_; intro v1 w3 hk1 ho1; have HN := Aside0.mk (show Ob k43 43 w0 g0 (.cells #[.string p.f0, .string p.f1, .int .i64 p.f2.f0, .int .i64 p.f2.f1] 43) v1 _ w3 from ⟨ho1, (hk1.box HO.out.x (by simp [Value.ownBlock])).1, (hk1.box HO.out.x (by simp [Value.ownBlock])).2⟩); have ha0 : Apart1 (.slice none 0 0) (.slice (some ad) l.length c) := fun k hk => (by simp [Value.ownBlock] at hk); have HA := Aside0.mk (hk1.ap HO.out.r ha0); have HQ := Aside0.mk (HO.out.toOu.other rfl hk1 ho1 ha0); clear hk1 ho1 ha0 HO s0 s1 s2 s3; have s0 := (blk_cell HN.out.x 0).trans rfl; have s1 := (blk_cell HN.out.x 1).trans rfl; have s2 := (blk_cell HN.out.x 2).trans rfl; have s3 := (blk_cell HN.out.x 3).trans rfl)
            | (at_builtin; refine apP p HN.out.toOu (by simp; omega) rfl _ _ rfl rfl rfl ?_; intro v2 w4 hk1 ho1; replace HN := Aside0.mk (HN.out.kept ho1 hk1); replace HQ := Aside0.mk (HQ.out.other rfl hk1 ho1 HA.out); clear hk1 ho1 s0 s1 s2 s3)
            | (at_builtin; refine arP HN.out.toOu (HC2.out _ HQ.out) (by simp; omega) rfl _ _ rfl rfl rfl ?_; intro v3 w5 hk1 ho1; have HZ := Aside0.mk ho1; clear hk1 ho1 HN HQ))
          go_ret
          exact ⟨_, rfl, by rw [HF.out]; simpa using HZ.out⟩
end Go.Proofs.YtmcddoolniaehaaGreat.S
end
