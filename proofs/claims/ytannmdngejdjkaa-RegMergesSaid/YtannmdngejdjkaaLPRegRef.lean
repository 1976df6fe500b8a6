/- Registers: what the document's functions come to, with rounds enough. Plain. -/
import Derived.Test.YtannmdngejdjkaaLPRegFuel
import Derived.Test.YtannmdngejdjkaaLx11
import Derived.Test.YtannmdngejdjkaaLx12
import Derived.Test.YtannmdngejdjkaaLx14
namespace Go.Proofs.Ytannmdngejdjkaa.L
open Go.RowKit Go.Proofs.YtannmdngejdjkaaW.PrintWords Go.Proofs.YtannmdngejdjkaaW.PrintLast Go.Proofs.YtannmdngejdjkaaW.PrintMore Go.Proofs.YtannmdngejdjkaaW
set_option linter.unusedVariables false
set_option linter.unusedSimpArgs false
theorem bt_mid {a : ByteArray} {pre suf : List UInt8} {c : UInt8} (e : a.data.toList = pre ++ c :: suf) : bt a ((pre.length : Nat) : Int) = (c.toNat : Int) := by
  have hl : a.size = pre.length + (suf.length + 1) := by
    have h := congrArg List.length e
    simpa using h
  unfold bt
  have h : (((pre.length : Nat) : Int)).toNat < a.size := by simp; omega
  rw [dif_pos h]
  have h2 : pre.length < a.data.toList.length := by rw [e]; simp
  have : a[(((pre.length : Nat) : Int)).toNat]'h = a.data.toList[pre.length]'h2 := rfl
  rw [this]
  simp [e]
theorem keyRef_loop (a : ByteArray) (hs : a.size < 4611686018427387904) : ∀ (suf pre : List UInt8) (k : Nat), a.data.toList = pre ++ suf → suf.length < k →
    ref05_Key.l0 k a ((pre.length : Nat) : Int) = some (suf.all keyChar && (decide (1 ≤ a.data.toList.length) && decide (a.data.toList.length ≤ 8)))
  | suf, pre, 0, _, hk => by omega
  | [], pre, k + 1, e, _ => by
    have hl : a.size = pre.length := by
      have h := congrArg List.length e
      simpa using h
    simp only [ref05_Key.l0]
    have hL : a.data.toList.length = a.size := by simp
    rw [if_neg (by omega), hL]
    by_cases h1 : 1 ≤ a.size
    · rw [if_pos (by omega)]
      simp only [List.all_nil, Bool.true_and, h1, decide_true]
      congr 1
      exact decide_eq_decide.2 (by omega)
    · rw [if_neg (by omega)]; simp [h1]
  | c :: suf, pre, k + 1, e, hk => by
    have hl : a.size = pre.length + (suf.length + 1) := by
      have h := congrArg List.length e
      simpa using h
    have ih := keyRef_loop a hs suf (pre ++ [c]) k (by rw [app_snoc]; exact e) (by simp at hk; omega)
    rw [len_snoc] at ih
    simp only [ref05_Key.l0]
    rw [if_pos (by omega), if_pos (by omega), bt_mid e, wrap_succ (by omega), ih, List.all_cons]
    by_cases h1 : 97 ≤ c.toNat
    · rw [if_pos (by omega)]
      by_cases h2 : c.toNat ≤ 122
      · rw [if_pos (by omega)]
        have : keyChar c = true := by simp [keyChar, h1, h2]
        rw [this]; rfl
      · rw [if_neg (by omega)]
        have : keyChar c = false := by simp [keyChar]; omega
        rw [this]
        rw [if_pos (by omega), if_neg (by omega)]; rfl
    · rw [if_neg (by omega)]
      by_cases h3 : 48 ≤ c.toNat
      · rw [if_pos (by omega)]
        by_cases h4 : c.toNat ≤ 57
        · rw [if_pos (by omega)]
          have : keyChar c = true := by simp [keyChar, h3, h4]
          rw [this]; rfl
        · rw [if_neg (by omega)]
          have : keyChar c = false := by simp [keyChar]; omega
          rw [this]; rfl
      · rw [if_neg (by omega)]
        have : keyChar c = false := by simp [keyChar]; omega
        rw [this]; rfl
theorem keyRef_f (a : ByteArray) (k : Nat) (hs : a.size ≤ 100) (hk : 100 < k) : ref05_Key.f k a = some (keyB a.data.toList) := by
  have h := keyRef_loop a (by omega) a.data.toList [] k rfl (by simp; omega)
  simpa [ref05_Key.f, keyB] using h
def smallR (x : Rg) : Prop := x.f0.size ≤ 100 ∧ x.f1.size ≤ 100
theorem oneRef_f (r : Rg) (k : Nat) (h : smallR r) (hk : 100 < k) : ref07_one.f k r.f0 r.f1 r.f2 r.f3.f0 r.f3.f1 = some (oneB r) := by
  unfold ref07_one.f oneB
  rw [keyRef_f _ k h.1 hk, keyRef_f _ k h.2 hk]
  simp only [Option.bind_some]
  cases keyB r.f0.data.toList
  · rfl
  cases keyB r.f1.data.toList
  · rfl
  by_cases h1 : 0 < r.f2 <;> by_cases h2 : 0 ≤ r.f3.f0 <;> by_cases h3 : r.f3.f0 < 8 <;> simp [h1, h2, h3]
theorem mayRef_loop : ∀ (suf pre : List Rg) (k : Nat), suf.length + 101 < k → (pre ++ suf).length < 4611686018427387904 → (∀ x ∈ suf, smallR x) →
    ref07_May.l0 k (pre ++ suf) ((pre.length : Nat) : Int) = some (mayP pre.getLast? suf)
  | suf, pre, 0, hk, _, _ => by omega
  | [], pre, k + 1, _, _, _ => by
    simp only [ref07_May.l0]
    rw [if_neg (by simp)]
    rfl
  | x :: suf, pre, k + 1, hk, hl, ho => by
    have hlt : ((pre.length : Nat) : Int) < (((pre ++ x :: suf).length : Nat) : Int) := by simp; omega
    have hpl : pre.length < 4611686018427387904 := by simp at hl; omega
    have ih := mayRef_loop suf (pre ++ [x]) k (by simp at hk; omega) (by simpa using hl) (fun y hy => ho y (List.mem_cons_of_mem _ hy))
    rw [app_snoc, List.getLast?_concat, len_snoc] at ih
    simp only [ref07_May.l0]
    rw [if_pos hlt, if_pos (by omega), rd_mid, oneRef_f x k (ho x List.mem_cons_self) (by simp at hk; omega), Option.bind_some, wrap_succ hpl]
    unfold mayP
    cases h1 : oneB x with
    | false => rfl
    | true =>
      simp only [if_true, Bool.true_and]
      rcases List.eq_nil_or_concat pre with rfl | ⟨p, y, rfl⟩
      · rw [if_neg (by simp)]
        simpa using ih
      · rw [List.concat_eq_append] at *
        have hw : wrap64 ((((p ++ [y]).length : Nat) : Int) - 1) = ((p.length : Nat) : Int) := by
          rw [List.length_append, List.length_singleton]; exact wrap_pred (by simp at hpl; omega)
        rw [if_pos (by simp), hw, if_pos (by omega), if_pos (by simp; omega), app_snoc, rd_mid, List.getLast?_concat]
        rw [app_snoc] at ih
        cases h2 : Op.bytesLess y.f0.toList x.f0.toList with
        | false => simp [h2]
        | true =>
          simp only [if_true]
          rw [ih, h2]; rfl
theorem mayRef_f (k : Nat) (l : List Rg) (hk : l.length + 101 < k) (hl : l.length < 1000000) (ho : ∀ x ∈ l, smallR x) : ref07_May.f k l = some (mayB l) := by
  have := mayRef_loop l [] k hk (by simp; omega) ho
  simpa [ref07_May.f, mayB] using this
theorem newerRef_f (a b : Rg) : ref07_Newer.f a.f0 a.f1 a.f2 a.f3.f0 a.f3.f1 b.f0 b.f1 b.f2 b.f3.f0 b.f3.f1 = some (newerB a b) := by
  unfold ref07_Newer.f newerB
  split
  · split
    · split <;> rfl
    · rfl
  · rfl
theorem sameRef_loop : ∀ (suf pre : List Rg) (k : Nat), suf.length < k → (pre ++ suf).length < 4611686018427387904 → ref07_Same.l0 k (pre ++ suf) (pre ++ suf) ((pre.length : Nat) : Int) = some true
  | suf, pre, 0, hk, _ => by omega
  | [], pre, k + 1, _, _ => by
    simp only [ref07_Same.l0]
    rw [if_neg (by simp)]
  | x :: suf, pre, k + 1, hk, hl => by
    have hlt : ((pre.length : Nat) : Int) < (((pre ++ x :: suf).length : Nat) : Int) := by simp; omega
    have hpl : pre.length < 4611686018427387904 := by simp at hl; omega
    have ih := sameRef_loop suf (pre ++ [x]) k (by simp at hk; omega) (by simpa using hl)
    rw [app_snoc, len_snoc] at ih
    simp only [ref07_Same.l0]
    rw [if_pos hlt, if_pos (by omega), if_pos hlt, wrap_succ hpl, ih]
    simp
theorem sameRef_f (k : Nat) (l : List Rg) (hk : l.length < k) (hl : l.length < 1000000) : ref07_Same.f k l l = some true := by
  have := sameRef_loop l [] k hk (by simp; omega)
  simpa [ref07_Same.f] using this
theorem getRef_loop (key : ByteArray) : ∀ (suf pre : List Rg) (k : Nat), suf.length < k → (pre ++ suf).length < 4611686018427387904 → ref07_Get.l0 k (pre ++ suf) key ((pre.length : Nat) : Int) = some (getA (getR suf key))
  | suf, pre, 0, hk, _ => by omega
  | [], pre, k + 1, _, _ => by
    simp only [ref07_Get.l0]
    rw [if_neg (by simp)]
    rfl
  | x :: suf, pre, k + 1, hk, hl => by
    have hlt : ((pre.length : Nat) : Int) < (((pre ++ x :: suf).length : Nat) : Int) := by simp; omega
    have hpl : pre.length < 4611686018427387904 := by simp at hl; omega
    have ih := getRef_loop key suf (pre ++ [x]) k (by simp at hk; omega) (by simpa using hl)
    rw [app_snoc, len_snoc] at ih
    simp only [ref07_Get.l0]
    rw [if_pos hlt, if_pos (by omega), rd_mid, wrap_succ hpl, ih, getR_cons]
    by_cases h : x.f0 = key
    · rw [if_pos (by rw [h]), if_pos h]; rfl
    · rw [if_neg (fun e => h (toList_inj e)), if_neg h]
theorem getRef_f (k : Nat) (l : List Rg) (key : ByteArray) (hk : l.length < k) (hl : l.length < 1000000) : ref07_Get.f k l key = some (getA (getR l key)) := by
  have := getRef_loop key l [] k hk (by simp; omega)
  simpa [ref07_Get.f] using this
/-! ### putting in -/
theorem putRef_done (r : Rg) : ∀ (suf pre out : List Rg) (k : Nat), 3 * suf.length + 1 ≤ k → (pre ++ suf).length < 4611686018427387904 → out.length + suf.length < 2000000 → (∀ x ∈ suf, x.f0 ≠ r.f0) →
    ref07_Put.l0 k (pre ++ suf) out true ((pre.length : Nat) : Int) r.f0 r.f1 r.f2 r.f3.f0 r.f3.f1 = some (out ++ suf)
  | suf, pre, out, 0, hk, _, _, _ => by omega
  | [], pre, out, k + 1, _, _, _, _ => by
    simp only [ref07_Put.l0]
    rw [if_neg (by simp)]
    simp
  | x :: suf, pre, out, k + 1, hk, hl, ho, hne => by
    have hlt : ((pre.length : Nat) : Int) < (((pre ++ x :: suf).length : Nat) : Int) := by simp; omega
    have hpl : pre.length < 4611686018427387904 := by simp at hl; omega
    simp only [List.length_cons] at hk ho
    obtain ⟨j, rfl⟩ : ∃ j, k = j + 2 := ⟨k - 2, by omega⟩
    have ih := putRef_done r suf (pre ++ [x]) (out ++ [x]) j (by omega) (by simpa using hl) (by simp; omega) (fun y hy => hne y (List.mem_cons_of_mem _ hy))
    rw [app_snoc, len_snoc, app_snoc] at ih
    simp only [ref07_Put.l0]
    rw [if_pos hlt, if_pos trivial]
    simp only [ref07_Put.j2, ref07_Put.j3, Bool.false_eq_true, if_false]
    rw [if_pos (by omega), if_pos hlt, rd_mid, if_neg (fun e => hne x List.mem_cons_self (toList_inj e)), if_pos (by omega), wrap_succ hpl]
    exact ih
theorem putRef_loop (r : Rg) : ∀ (suf pre out : List Rg) (k : Nat), 3 * suf.length + 1 ≤ k → (pre ++ suf).length < 4611686018427387904 → out.length + suf.length < 1000000 → suf.Pairwise kLt →
    ref07_Put.l0 k (pre ++ suf) out false ((pre.length : Nat) : Int) r.f0 r.f1 r.f2 r.f3.f0 r.f3.f1 = some (out ++ putR suf r)
  | suf, pre, out, 0, hk, _, _, _ => by omega
  | [], pre, out, k + 1, _, _, ho, _ => by
    simp only [ref07_Put.l0]
    rw [if_neg (by simp), if_neg (by simp), if_pos (by simp at ho; omega)]
    rfl
  | x :: suf, pre, out, k + 1, hk, hl, ho, hp => by
    have hlt : ((pre.length : Nat) : Int) < (((pre ++ x :: suf).length : Nat) : Int) := by simp; omega
    have hpl : pre.length < 4611686018427387904 := by simp at hl; omega
    simp only [List.length_cons] at hk ho
    rw [List.pairwise_cons] at hp
    obtain ⟨j, rfl⟩ : ∃ j, k = j + 2 := ⟨k - 2, by omega⟩
    have ih := putRef_loop r suf (pre ++ [x]) (out ++ [x]) j (by omega) (by simpa using hl) (by simp; omega) hp.2
    rw [app_snoc, len_snoc, app_snoc] at ih
    have hd := fun o (h1 : o.length ≤ out.length + 2) (h : ∀ y ∈ suf, y.f0 ≠ r.f0) => putRef_done r suf (pre ++ [x]) o j (by omega) (by simpa using hl) (by omega) h
    rw [app_snoc, len_snoc] at hd
    simp only [ref07_Put.l0]
    rw [if_pos hlt, if_neg (by simp), if_pos (by omega), rd_mid]
    unfold putR
    cases hx : Op.bytesLess x.f0.toList r.f0.toList with
    | true =>
      have hrx : Op.bytesLess r.f0.toList x.f0.toList = false := less_asymm hx
      have hne : x.f0 ≠ r.f0 := fun e => by rw [e, less_irrefl] at hx; cases hx
      rw [hrx]
      simp only [ref07_Put.j2, ref07_Put.j3, Bool.false_eq_true, if_false, if_true]
      rw [if_pos (by omega), if_pos hlt, rd_mid, if_neg (fun e => hne (toList_inj e)), if_pos (by omega), wrap_succ hpl]
      exact ih
    | false =>
      simp only [Bool.false_eq_true, if_false]
      by_cases he : x.f0 = r.f0
      · have hrx : Op.bytesLess r.f0.toList x.f0.toList = false := by rw [he, less_irrefl]
        have hrest : ∀ y ∈ suf, y.f0 ≠ r.f0 := fun y hy e => lt_ne (hp.1 y hy) (he.trans e.symm)
        rw [hrx]
        simp only [ref07_Put.j2, ref07_Put.j3, Bool.false_eq_true, if_false]
        rw [if_pos (by omega), if_pos hlt, rd_mid, if_pos (by rw [he]), if_pos he, newerRef_f, Option.bind_some, wrap_succ hpl]
        cases newerB r x with
        | true =>
          simp only [if_true]
          rw [if_pos (by omega)]
          refine (hd (out ++ [r]) (by simp) hrest).trans ?_
          rw [app_snoc]
        | false =>
          simp only [Bool.false_eq_true, if_false]
          rw [if_pos (by omega)]
          refine (hd (out ++ [x]) (by simp) hrest).trans ?_
          rw [app_snoc]
      · have hrx : Op.bytesLess r.f0.toList x.f0.toList = true := by
          cases q : Op.bytesLess r.f0.toList x.f0.toList with
          | true => rfl
          | false => exact absurd (toList_inj (less_antisymm hx q)) he
        have hrest : ∀ y ∈ suf, y.f0 ≠ r.f0 := fun y hy e => by
          have := less_trans hrx (hp.1 y hy)
          rw [e, less_irrefl] at this; cases this
        rw [hrx, if_neg he]
        simp only [ref07_Put.j2, ref07_Put.j3, if_true]
        rw [if_pos (by omega), if_pos (by omega), if_pos hlt, rd_mid, if_neg (fun e => he (toList_inj e)), if_pos (by simp; omega), wrap_succ hpl]
        refine (hd (out ++ [r] ++ [x]) (by simp) hrest).trans ?_
        simp
theorem putRef_f (k : Nat) (l : List Rg) (r : Rg) (hk : 3 * l.length + 110 < k) (hl : l.length < 1000) (ho : ∀ x ∈ l, smallR x) (hr : smallR r) : ref07_Put.f k l r.f0 r.f1 r.f2 r.f3.f0 r.f3.f1 = some (putO l r) := by
  unfold ref07_Put.f putO
  rw [mayRef_f k l (by omega) (by omega) ho, oneRef_f r k hr (by omega)]
  simp only [Option.bind_some]
  obtain ⟨j, rfl⟩ : ∃ j, k = j + 1 := ⟨k - 1, by omega⟩
  cases h1 : mayB l with
  | false => simp [ref07_Put.j0]
  | true =>
    cases h2 : oneB r with
    | false => simp [ref07_Put.j0]
    | true =>
      simp only [if_true, Bool.and_self, ref07_Put.j0, Bool.not_true, Bool.false_eq_true, if_false]
      have := putRef_loop r l [] [] j (by omega) (by simp; omega) (by simp; omega) ((mayB_iff l).1 h1).2
      simp only [List.nil_append, List.length_nil] at this
      rw [putL_eq]
      exact this
theorem mergeRef_loop : ∀ (suf pre acc : List Rg) (k : Nat), 4 * suf.length + 3 * acc.length + 120 < k → (pre ++ suf).length < 4611686018427387904 → acc.length + suf.length < 900 → (∀ x ∈ acc, smallR x) → (∀ x ∈ suf, smallR x) → mayB acc = true → (∀ x ∈ suf, oneB x = true) →
    ref07_Merge.l0 k (pre ++ suf) acc ((pre.length : Nat) : Int) = some (suf.foldl putL acc)
  | suf, pre, acc, 0, hk, _, _, _, _, _, _ => by omega
  | [], pre, acc, k + 1, _, _, _, _, _, _, _ => by
    simp only [ref07_Merge.l0]
    rw [if_neg (by simp)]
    rfl
  | x :: suf, pre, acc, k + 1, hk, hl, ho, ha, hs, hm, h1 => by
    have hlt : ((pre.length : Nat) : Int) < (((pre ++ x :: suf).length : Nat) : Int) := by simp; omega
    have hpl : pre.length < 4611686018427387904 := by simp at hl; omega
    simp only [List.length_cons] at hk ho
    have hx := h1 x List.mem_cons_self
    have hsx := hs x List.mem_cons_self
    have hlen := putL_length acc x
    have ih := mergeRef_loop suf (pre ++ [x]) (putL acc x) k (by omega) (by simpa using hl) (by omega) (fun y hy => by
      rcases putL_mem hy with rfl | hy
      · exact hsx
      · exact ha y hy) (fun y hy => hs y (List.mem_cons_of_mem _ hy)) (may_put hm hx) (fun y hy => h1 y (List.mem_cons_of_mem _ hy))
    rw [app_snoc, len_snoc] at ih
    simp only [ref07_Merge.l0]
    rw [if_pos hlt, if_pos (by omega), rd_mid, putRef_f k acc x (by omega) (by omega) ha hsx, Option.bind_some, wrap_succ hpl]
    have : putO acc x = putL acc x := by simp [putO, hm, hx]
    rw [this]
    exact ih
theorem mergeRef_f (k : Nat) (a b : List Rg) (hk : 4 * b.length + 3 * a.length + 130 < k) (hl : a.length + b.length < 900) (ha : ∀ x ∈ a, smallR x) (hb : ∀ x ∈ b, smallR x) : ref07_Merge.f k a b = some (mergeO a b) := by
  unfold ref07_Merge.f mergeO
  rw [mayRef_f k a (by omega) (by omega) ha, mayRef_f k b (by omega) (by omega) hb]
  simp only [Option.bind_some]
  obtain ⟨j, rfl⟩ : ∃ j, k = j + 1 := ⟨k - 1, by omega⟩
  cases h1 : mayB a with
  | false => simp [ref07_Merge.j0]
  | true =>
    cases h2 : mayB b with
    | false => simp [ref07_Merge.j0]
    | true =>
      simp only [if_true, Bool.and_self, ref07_Merge.j0, Bool.not_true, Bool.false_eq_true, if_false, List.nil_append, List.length_nil, Nat.zero_add]
      rw [if_pos (by omega)]
      have := mergeRef_loop b [] a j (by omega) (by simp; omega) (by omega) ha hb h1 ((mayB_iff b).1 h2).1
      simpa using this
theorem may_one {r : Rg} (h : mayB [r] = true) : oneB r = true := ((mayB_iff [r]).1 h).1 r List.mem_cons_self
theorem few_all {l : List Rg} (h : fewB l = true) : ∀ x ∈ l, smallR x := few_size h
theorem few_one {r : Rg} (h : fewB [r] = true) : smallR r := few_size h r List.mem_cons_self
theorem ok_all {l : List Rg} (h : ∀ x ∈ l, smallR x) : ∀ x ∈ l, okTT x := fun x hx => okTT_of (h x hx)
theorem putO_small {l : List Rg} {r : Rg} (h : ∀ x ∈ l, smallR x) (hr : smallR r) : ∀ x ∈ putO l r, smallR x := fun x hx => by
  unfold putO at hx
  split at hx
  · rcases putL_mem hx with rfl | hx
    · exact hr
    · exact h x hx
  · cases hx
theorem putO_len (l : List Rg) (r : Rg) : (putO l r).length ≤ l.length + 1 := by
  unfold putO
  split
  · exact putL_length l r
  · simp
theorem mergeO_small {a b : List Rg} (h : ∀ x ∈ a, smallR x) (hb : ∀ x ∈ b, smallR x) : ∀ x ∈ mergeO a b, smallR x := fun x hx => by
  unfold mergeO at hx
  split at hx
  · rcases foldl_mem _ _ hx with hx | hx
    · exact hb x hx
    · exact h x hx
  · cases hx
theorem mergeO_len (a b : List Rg) : (mergeO a b).length ≤ a.length + b.length := by
  unfold mergeO
  split
  · exact foldl_length b a
  · simp
end Go.Proofs.Ytannmdngejdjkaa.L
