/- Registers: what the printed functions come to, with rounds enough. Plain. -/
import Derived.Test.YtannmdngejdjkaaLPRegLaws
import Derived.Test.YtannmdngejdjkaaLPRegAwake
import Derived.Test.YtannmdngejdjkaaLHRow
import Derived.Test.YtannmdngejdjkaaLx5
import Derived.Test.YtannmdngejdjkaaLx8
import Derived.Test.YtannmdngejdjkaaLx10
namespace Go.Proofs.Ytannmdngejdjkaa.L
open Go.RowKit Go.Proofs.YtannmdngejdjkaaW.PrintWords Go.Proofs.YtannmdngejdjkaaW.PrintLast Go.Proofs.YtannmdngejdjkaaW.PrintMore Go.Proofs.YtannmdngejdjkaaW
set_option linter.unusedVariables false
set_option linter.unusedSimpArgs false
theorem wrap_succ {n : Nat} (h : n < 4611686018427387904) : wrap64 ((n : Int) + 1) = ((n + 1 : Nat) : Int) := by unfold wrap64; omega
theorem wrap_pred {n : Nat} (h : n < 4611686018427387904) : wrap64 (((n + 1 : Nat) : Int) - 1) = (n : Int) := by unfold wrap64; omega
theorem rd_mid (pre suf : List Rg) (x : Rg) : rd_T26 (pre ++ x :: suf) ((pre.length : Nat) : Int) = x := by
  simp [rd_T26, List.getD_eq_getElem?_getD]
theorem len_snoc {α : Type} (pre : List α) (x : α) : (pre ++ [x]).length = pre.length + 1 := by simp
theorem app_snoc {α : Type} (pre suf : List α) (x : α) : (pre ++ [x]) ++ suf = pre ++ x :: suf := by simp
def okTT (x : Rg) : Prop := okT x.f0 ∧ okT x.f1
def oneB (r : Rg) : Bool := keyB r.f0.data.toList && (keyB r.f1.data.toList && (decide (0 < r.f2) && (decide (0 ≤ r.f3.f0) && (decide (r.f3.f0 < 8) && decide (0 < r.f3.f1)))))
theorem key_f {a : ByteArray} (h : okT a) : ops_Key.f a = some (keyB a.data.toList) := by
  unfold ops_Key.f
  rw [if_pos (by unfold okT maxLen at h; omega)]
theorem one_f (r : Rg) (h : okTT r) : reg_one.f r.f0 r.f1 r.f2 r.f3.f0 r.f3.f1 = some (oneB r) := by
  unfold reg_one.f oneB
  rw [key_f h.1, key_f h.2]
  simp only [Option.bind_some]
  cases keyB r.f0.data.toList
  · rfl
  cases keyB r.f1.data.toList
  · rfl
  by_cases h1 : 0 < r.f2 <;> by_cases h2 : 0 ≤ r.f3.f0 <;> by_cases h3 : r.f3.f0 < 8 <;> simp [h1, h2, h3]
def mayP : Option Rg → List Rg → Bool
  | _, [] => true
  | p, x :: l => oneB x && ((match p with | none => true | some y => Op.bytesLess y.f0.toList x.f0.toList) && mayP (some x) l)
def mayB (l : List Rg) : Bool := mayP none l
theorem may_loop : ∀ (suf pre : List Rg) (k : Nat), suf.length < k → (pre ++ suf).length < 4611686018427387904 → (∀ x ∈ suf, okTT x) →
    reg_May.l0 k (pre ++ suf) (pre ++ suf) (((pre ++ suf).length : Nat) : Int) ((pre.length : Nat) : Int) = some (mayP pre.getLast? suf)
  | suf, pre, 0, hk, _, _ => by omega
  | [], pre, k + 1, _, _, _ => by
    simp only [reg_May.l0]
    rw [if_neg (by simp)]
    rfl
  | x :: suf, pre, k + 1, hk, hl, ho => by
    have hlt : ((pre.length : Nat) : Int) < (((pre ++ x :: suf).length : Nat) : Int) := by simp; omega
    have hpl : pre.length < 4611686018427387904 := by simp at hl; omega
    have ih := may_loop suf (pre ++ [x]) k (by simp at hk; omega) (by simpa using hl) (fun y hy => ho y (List.mem_cons_of_mem _ hy))
    rw [app_snoc, List.getLast?_concat, len_snoc] at ih
    simp only [reg_May.l0]
    rw [if_pos hlt, if_pos (by omega), if_pos hlt, rd_mid, one_f x (ho x List.mem_cons_self), Option.bind_some, wrap_succ hpl]
    unfold mayP
    cases h1 : oneB x with
    | false => rfl
    | true =>
      simp only [if_true, Bool.true_and]
      rcases List.eq_nil_or_concat pre with rfl | ⟨p, y, rfl⟩
      · rw [if_neg (by simp)]
        simpa using ih
      · rw [List.concat_eq_append] at *
        have hw : wrap64 ((((p ++ [y]).length : Nat) : Int) - 1) = ((p.length : Nat) : Int) := by
          rw [List.length_append, List.length_singleton]; exact wrap_pred (by simp at hpl; omega)
        rw [if_pos (by simp), hw, if_pos (by omega), if_pos (by simp; omega), app_snoc, rd_mid, List.getLast?_concat]
        rw [app_snoc] at ih
        cases h2 : Op.bytesLess y.f0.toList x.f0.toList with
        | false => simp [h2]
        | true =>
          simp only [if_true]
          rw [ih, h2]; rfl
theorem may_f (k : Nat) (l : List Rg) (hk : l.length < k) (hl : l.length < 4611686018427387904) (ho : ∀ x ∈ l, okTT x) : reg_May.f k l = some (mayB l) := by
  have := may_loop l [] k hk (by simpa using hl) ho
  simpa [reg_May.f, mayB] using this
theorem mayP_iff : ∀ (l : List Rg) (p : Option Rg), mayP p l = true ↔ (∀ x ∈ l, oneB x = true) ∧ (p.toList ++ l).Pairwise kLt
  | [], none => by simp [mayP]
  | [], some y => by simp [mayP]
  | x :: l, none => by
    have ih := mayP_iff l (some x)
    unfold mayP
    simp only [Bool.true_and, Bool.and_eq_true, ih, List.mem_cons, forall_eq_or_imp, Option.toList, List.nil_append, List.cons_append]
    exact and_assoc.symm
  | x :: l, some y => by
    have ih := mayP_iff l (some x)
    unfold mayP
    simp only [Bool.and_eq_true, ih, List.mem_cons, forall_eq_or_imp, Option.toList, List.nil_append, List.cons_append]
    constructor
    · rintro ⟨h1, h2, h3, h4⟩
      refine ⟨⟨h1, h3⟩, ?_⟩
      rw [List.pairwise_cons]
      refine ⟨fun z hz => ?_, h4⟩
      rcases List.mem_cons.1 hz with rfl | hz
      · exact h2
      · exact less_trans h2 ((List.pairwise_cons.1 h4).1 z hz)
    · rintro ⟨⟨h1, h3⟩, h4⟩
      rw [List.pairwise_cons] at h4
      exact ⟨h1, h4.1 x List.mem_cons_self, h3, h4.2⟩
theorem mayB_iff (l : List Rg) : mayB l = true ↔ (∀ x ∈ l, oneB x = true) ∧ l.Pairwise kLt := by
  have := mayP_iff l none
  simpa [mayB] using this
theorem may_put {l : List Rg} {r : Rg} (h : mayB l = true) (hr : oneB r = true) : mayB (putL l r) = true := by
  rw [mayB_iff] at h ⊢
  refine ⟨fun x hx => ?_, putL_up r h.2⟩
  rcases putL_mem hx with rfl | hx
  · exact hr
  · exact h.1 x hx
theorem may_fold {l m : List Rg} (h : mayB l = true) (hm : ∀ x ∈ m, oneB x = true) : mayB (m.foldl putL l) = true := by
  rw [mayB_iff] at h ⊢
  refine ⟨fun x hx => ?_, foldl_up m l h.2⟩
  rcases foldl_mem m l hx with hx | hx
  · exact hm x hx
  · exact h.1 x hx
theorem with_f (l m : List Rg) (hl : l.Pairwise kLt) (hs : (l.length + m.length + 1) * 56 ≤ 140737488355328) : reg_with.f l m = some (m.foldl putL l) := by
  unfold reg_with.f
  rw [if_pos ⟨up_regUpB l hl, hs⟩]
def putO (l : List Rg) (r : Rg) : List Rg := if mayB l && oneB r then putL l r else []
def mergeO (a b : List Rg) : List Rg := if mayB a && mayB b then b.foldl putL a else []
theorem put_f (k : Nat) (l : List Rg) (r : Rg) (hk : l.length < k) (hl : l.length < 1000000) (ho : ∀ x ∈ l, okTT x) (hr : okTT r) : reg_Put.f k l r.f0 r.f1 r.f2 r.f3.f0 r.f3.f1 = some (putO l r) := by
  unfold reg_Put.f putO
  rw [may_f k l hk (by omega) ho, one_f r hr]
  simp only [Option.bind_some]
  cases h1 : mayB l with
  | false => rfl
  | true =>
    cases h2 : oneB r with
    | false => rfl
    | true =>
      simp only [if_true, Bool.and_self]
      rw [show ([⟨r.f0, r.f1, r.f2, ⟨r.f3.f0, r.f3.f1⟩⟩] : List Rg) = [r] from rfl, with_f l [r] ((mayB_iff l).1 h1).2 (by simp; omega)]
      rfl
theorem merge_f (k : Nat) (a b : List Rg) (hk : a.length < k) (hk2 : b.length < k) (hl : a.length < 1000000) (hl2 : b.length < 1000000) (ho : ∀ x ∈ a, okTT x) (ho2 : ∀ x ∈ b, okTT x) : reg_Merge.f k a b = some (mergeO a b) := by
  unfold reg_Merge.f mergeO
  rw [may_f k a hk (by omega) ho, may_f k b hk2 (by omega) ho2]
  simp only [Option.bind_some]
  cases h1 : mayB a with
  | false => rfl
  | true =>
    cases h2 : mayB b with
    | false => rfl
    | true =>
      simp only [if_true, Bool.and_self]
      rw [with_f a b ((mayB_iff a).1 h1).2 (by omega)]
      rfl
def fewB (l : List Rg) : Bool := decide (l.length ≤ 30) && l.all (fun x => decide (x.f0.size ≤ 100) && decide (x.f1.size ≤ 100))
theorem few_loop : ∀ (suf pre : List Rg) (k : Nat), suf.length < k → (pre ++ suf).length < 4611686018427387904 →
    law07_Few.l0 k (pre ++ suf) ((pre.length : Nat) : Int) = some (suf.all (fun x => decide (x.f0.size ≤ 100) && decide (x.f1.size ≤ 100)))
  | suf, pre, 0, hk, _ => by omega
  | [], pre, k + 1, _, _ => by
    simp only [law07_Few.l0]
    rw [if_neg (by simp)]
    rfl
  | x :: suf, pre, k + 1, hk, hl => by
    have hlt : ((pre.length : Nat) : Int) < (((pre ++ x :: suf).length : Nat) : Int) := by simp; omega
    have hpl : pre.length < 4611686018427387904 := by simp at hl; omega
    have ih := few_loop suf (pre ++ [x]) k (by simp at hk; omega) (by simpa using hl)
    rw [app_snoc, len_snoc] at ih
    simp only [law07_Few.l0]
    rw [if_pos hlt, if_pos (by omega), rd_mid, wrap_succ hpl, ih, List.all_cons]
    by_cases h1 : x.f0.size ≤ 100
    · rw [if_neg (by omega)]
      by_cases h2 : x.f1.size ≤ 100
      · rw [if_neg (by omega)]; simp [h1, h2]
      · rw [if_pos (by omega)]; simp [h2]
    · rw [if_pos (by omega)]; simp [h1]
theorem few_f (k : Nat) (l : List Rg) (hk : 31 < k) : law07_Few.f k l = some (fewB l) := by
  unfold law07_Few.f fewB
  by_cases h : l.length ≤ 30
  · rw [if_neg (by omega)]
    have := few_loop l [] k (by omega) (by simp; omega)
    simp only [List.nil_append, List.length_nil] at this
    rw [show ((0 : Nat) : Int) = 0 from rfl] at this
    rw [this]; simp [h]
  · rw [if_pos (by omega)]; simp [h]
theorem few_len {l : List Rg} (h : fewB l = true) : l.length ≤ 30 := by
  unfold fewB at h; simp at h; exact h.1
theorem few_size {l : List Rg} (h : fewB l = true) : ∀ x ∈ l, x.f0.size ≤ 100 ∧ x.f1.size ≤ 100 := by
  unfold fewB at h; simp at h
  intro x hx
  exact h.2 x hx
theorem okTT_of {x : Rg} (h : x.f0.size ≤ 100 ∧ x.f1.size ≤ 100) : okTT x := by
  unfold okTT okT maxLen; omega
/-- what reg.Get answers -/
def getA : Option Rg → ByteArray × ByteArray × Int × Int × Int × Bool
  | some x => (x.f0, x.f1, x.f2, x.f3.f0, x.f3.f1, true)
  | none => (⟨#[]⟩, ⟨#[]⟩, 0, 0, 0, false)
theorem get_f (l : List Rg) (key : ByteArray) : reg_Get.f l key = some (getA (getR l key)) := by
  unfold reg_Get.f getR getA
  cases l.find? (regKey key) <;> rfl
end Go.Proofs.Ytannmdngejdjkaa.L
