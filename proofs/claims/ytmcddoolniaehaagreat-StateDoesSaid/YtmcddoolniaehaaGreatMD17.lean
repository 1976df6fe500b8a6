/- Several of the walk's texts in one: SPR, SHPairCat, SHPairMerge. -/
import Derived.Deep.RegionLaw
import Derived.RegionTactic
import Derived.Test.YtmcddoolniaehaaGreatMD04
import Derived.Test.YtmcddoolniaehaaGreatMD09
import Derived.Test.YtmcddoolniaehaaGreatMD10
import Derived.Test.YtmcddoolniaehaaGreatMD11
import Derived.Test.YtmcddoolniaehaaGreatMD12
import Derived.Test.YtmcddoolniaehaaGreatMD15
import Derived.Test.YtmcddoolniaehaaGreatMD16
section
namespace Go.Proofs.YtmcddoolniaehaaGreat.S
open Go.RowKit Go.Proofs.YtmcddoolniaehaaGreatW.PrintWords Go.Proofs.YtmcddoolniaehaaGreatW.PrintLast Go.Proofs.YtmcddoolniaehaaGreatW.PrintMore Go.Proofs.YtmcddoolniaehaaGreatW
set_option linter.unusedVariables false
set_option linter.unusedSimpArgs false
theorem newer_irrefl (a : S47) : newerB a a = false := by
  unfold newerB; simp [less_irrefl]
theorem newer_asymm {a b : S47} (h : newerB a b = true) : newerB b a = false := by
  unfold newerB at h ⊢
  by_cases h1 : a.f2 = b.f2
  · rw [if_pos h1] at h
    rw [if_pos h1.symm]
    by_cases h2 : a.f3.f0 = b.f3.f0
    · rw [if_pos h2] at h
      rw [if_pos h2.symm]
      by_cases h3 : a.f3.f1 = b.f3.f1
      · rw [if_pos h3] at h
        rw [if_pos h3.symm]
        exact less_asymm h
      · rw [if_neg h3] at h
        rw [if_neg (fun e => h3 e.symm)]
        simp at h ⊢; omega
    · rw [if_neg h2] at h
      rw [if_neg (fun e => h2 e.symm)]
      simp at h ⊢; omega
  · rw [if_neg h1] at h
    rw [if_neg (fun e => h1 e.symm)]
    simp at h ⊢; omega
theorem newer_trans {a b c : S47} (h : newerB a b = true) (g : newerB b c = true) : newerB a c = true := by
  unfold newerB at h g ⊢
  by_cases h1 : a.f2 = b.f2 <;> by_cases g1 : b.f2 = c.f2
  · rw [if_pos h1] at h; rw [if_pos g1] at g; rw [if_pos (h1.trans g1)]
    by_cases h2 : a.f3.f0 = b.f3.f0 <;> by_cases g2 : b.f3.f0 = c.f3.f0
    · rw [if_pos h2] at h; rw [if_pos g2] at g; rw [if_pos (h2.trans g2)]
      by_cases h3 : a.f3.f1 = b.f3.f1 <;> by_cases g3 : b.f3.f1 = c.f3.f1
      · rw [if_pos h3] at h; rw [if_pos g3] at g; rw [if_pos (h3.trans g3)]
        exact less_trans g h
      · rw [if_neg g3] at g; rw [if_neg (by omega)]; simp at g ⊢; omega
      · rw [if_neg h3] at h; rw [if_neg (by omega)]; simp at h ⊢; omega
      · rw [if_neg h3] at h; rw [if_neg g3] at g; simp at h g; rw [if_neg (by omega)]; simp; omega
    · rw [if_neg g2] at g; rw [if_neg (by omega)]; simp at g ⊢; omega
    · rw [if_neg h2] at h; rw [if_neg (by omega)]; simp at h ⊢; omega
    · rw [if_neg h2] at h; rw [if_neg g2] at g; simp at h g; rw [if_neg (by omega)]; simp; omega
  · rw [if_neg g1] at g; rw [if_neg (by omega)]; simp at g ⊢; omega
  · rw [if_neg h1] at h; rw [if_neg (by omega)]; simp at h ⊢; omega
  · rw [if_neg h1] at h; rw [if_neg g1] at g; simp at h g; rw [if_neg (by omega)]; simp; omega
theorem newer_same {a b : S47} (h : newerB a b = false) (g : newerB b a = false) : a.f1 = b.f1 ∧ a.f2 = b.f2 ∧ a.f3.f0 = b.f3.f0 ∧ a.f3.f1 = b.f3.f1 := by
  unfold newerB at h g
  by_cases h1 : a.f2 = b.f2
  · rw [if_pos h1] at h; rw [if_pos h1.symm] at g
    by_cases h2 : a.f3.f0 = b.f3.f0
    · rw [if_pos h2] at h; rw [if_pos h2.symm] at g
      by_cases h3 : a.f3.f1 = b.f3.f1
      · rw [if_pos h3] at h; rw [if_pos h3.symm] at g
        exact ⟨toList_inj (less_antisymm g h), h1, h2, h3⟩
      · rw [if_neg h3] at h; rw [if_neg (fun e => h3 e.symm)] at g
        simp at h g; omega
    · rw [if_neg h2] at h; rw [if_neg (fun e => h2 e.symm)] at g
      simp at h g; omega
  · rw [if_neg h1] at h; rw [if_neg (fun e => h1 e.symm)] at g
    simp at h g; omega
theorem reg_ext {a b : S47} (h0 : a.f0 = b.f0) (h1 : a.f1 = b.f1) (h2 : a.f2 = b.f2) (h3 : a.f3.f0 = b.f3.f0) (h4 : a.f3.f1 = b.f3.f1) : a = b := by
  cases a with | mk a0 a1 a2 a3 => cases b with | mk b0 b1 b2 b3 => cases a3; cases b3; simp_all
abbrev Rg := S47
def getR (l : List Rg) (key : ByteArray) : Option Rg := l.find? (regKey key)
theorem regKey_iff {key : ByteArray} {x : Rg} : regKey key x = true ↔ x.f0 = key := by
  unfold regKey; rw [beq_iff_eq]
  exact ⟨toList_inj, fun h => by rw [h]⟩
theorem getR_nil (key : ByteArray) : getR [] key = none := rfl
theorem getR_cons (x : Rg) (l : List Rg) (key : ByteArray) : getR (x :: l) key = if x.f0 = key then some x else getR l key := by
  unfold getR
  rw [List.find?_cons]
  by_cases h : x.f0 = key
  · rw [if_pos h, regKey_iff.2 h]
  · rw [if_neg h, show regKey key x = false from Bool.eq_false_iff.2 fun e => h (regKey_iff.1 e)]
def Keyed (k : ByteArray) (o : Option Rg) : Prop := ∀ x, o = some x → x.f0 = k
theorem getR_keyed : ∀ (l : List Rg) (k : ByteArray), Keyed k (getR l k)
  | [], _, x, h => by simp [getR] at h
  | y :: l, k, x, h => by
    rw [getR_cons] at h
    split at h
    · cases h; assumption
    · exact getR_keyed l k x h
theorem getR_none_of {l : List Rg} {k : ByteArray} (h : ∀ x ∈ l, x.f0 ≠ k) : getR l k = none := by
  unfold getR
  rw [List.find?_eq_none]
  intro x hx e
  exact h x hx (regKey_iff.1 e)
theorem getR_mem {l : List Rg} {k : ByteArray} {x : Rg} (h : getR l k = some x) : x ∈ l := List.mem_of_find?_eq_some h
theorem lt_ne {x y : Rg} (h : kLt x y) : x.f0 ≠ y.f0 := by
  intro e
  unfold kLt at h
  rw [e, less_irrefl] at h
  cases h
def putR : List Rg → Rg → List Rg
  | [], r => [r]
  | x :: l, r => if Op.bytesLess x.f0.toList r.f0.toList then x :: putR l r else if x.f0 = r.f0 then (if newerB r x then r :: l else x :: l) else r :: x :: l
theorem putL_eq : ∀ (l : List Rg) (r : Rg), putL l r = putR l r
  | [], r => by simp [putL, regIs, regPos, putR]
  | x :: l, r => by
    have ih := putL_eq l r
    unfold putR
    cases hx : Op.bytesLess x.f0.toList r.f0.toList with
    | true =>
      rw [if_pos rfl, ← ih]
      have hp : regPos r.f0 (x :: l) = regPos r.f0 l + 1 := by simp [regPos, hx]
      have hi : regIs r.f0 (x :: l) = regIs r.f0 l := by
        unfold regIs
        rw [hp, rd_cons_succ]
        simp
      unfold putL
      rw [hi, hp, rd_cons_succ]
      cases regIs r.f0 l with
      | true =>
        simp only [if_true]
        split <;> simp
      | false => simp
    | false =>
      simp only [Bool.false_eq_true, if_false]
      have hp : regPos r.f0 (x :: l) = 0 := by simp [regPos, hx]
      by_cases he : x.f0 = r.f0
      · have hi : regIs r.f0 (x :: l) = true := by
          unfold regIs
          rw [hp, rd_cons_zero]
          simp [cmpS_zero, he]
        unfold putL
        rw [hi, hp, rd_cons_zero, if_pos he]
        simp
      · have hi : regIs r.f0 (x :: l) = false := by
          unfold regIs
          rw [hp, rd_cons_zero]
          simp [cmpS_zero, he]
        unfold putL
        rw [hi, hp, if_neg he]
        simp
theorem putL_mem {l : List Rg} {r x : Rg} (h : x ∈ putL l r) : x = r ∨ x ∈ l := by
  rw [putL_eq] at h
  induction l with
  | nil => simpa [putR] using h
  | cons y l ih =>
    unfold putR at h
    split at h
    · rcases List.mem_cons.1 h with rfl | h
      · exact .inr List.mem_cons_self
      · rcases ih h with h | h
        · exact .inl h
        · exact .inr (List.mem_cons_of_mem _ h)
    · split at h
      · split at h
        · rcases List.mem_cons.1 h with rfl | h
          · exact .inl rfl
          · exact .inr (List.mem_cons_of_mem _ h)
        · exact .inr h
      · rcases List.mem_cons.1 h with rfl | h
        · exact .inl rfl
        · exact .inr h
theorem foldl_mem : ∀ (m l : List Rg) {x : Rg}, x ∈ m.foldl putL l → x ∈ m ∨ x ∈ l
  | [], l, x, h => .inr h
  | r :: m, l, x, h => by
    rcases foldl_mem m (putL l r) h with h | h
    · exact .inl (List.mem_cons_of_mem _ h)
    · rcases putL_mem h with rfl | h
      · exact .inl List.mem_cons_self
      · exact .inr h
def joinR (x y : Rg) : Rg := if newerB y x then y else x
def joinO : Option Rg → Option Rg → Option Rg
  | none, y => y
  | some x, none => some x
  | some x, some y => some (joinR x y)
theorem joinO_none_right (x : Option Rg) : joinO x none = x := by cases x <;> rfl
theorem joinR_key {x y : Rg} {k : ByteArray} (hx : x.f0 = k) (hy : y.f0 = k) : (joinR x y).f0 = k := by unfold joinR; split <;> assumption
theorem joinO_keyed {k : ByteArray} {a b : Option Rg} (ha : Keyed k a) (hb : Keyed k b) : Keyed k (joinO a b) := by
  intro x h
  match a, b with
  | none, b => exact hb x h
  | some a, none => exact ha x h
  | some a, some b => simp only [joinO, Option.some.injEq] at h; subst h; exact joinR_key (ha a rfl) (hb b rfl)
theorem joinR_comm {x y : Rg} (h : x.f0 = y.f0) : joinR x y = joinR y x := by
  unfold joinR
  cases h1 : newerB y x with
  | true => rw [newer_asymm h1]; rfl
  | false =>
    cases h2 : newerB x y with
    | true => rfl
    | false =>
      obtain ⟨e1, e2, e3, e4⟩ := newer_same h2 h1
      exact reg_ext h e1 e2 e3 e4
theorem joinR_idem (x : Rg) : joinR x x = x := by unfold joinR; rw [newer_irrefl]; rfl
theorem joinR_assoc {x y z : Rg} (h : x.f0 = y.f0) : joinR (joinR x y) z = joinR x (joinR y z) := by
  cases yx : newerB y x with
  | true =>
    have e : joinR x y = y := by simp [joinR, yx]
    rw [e]
    cases zy : newerB z y with
    | true =>
      have e2 : joinR y z = z := by simp [joinR, zy]
      rw [e2]
      simp [joinR, newer_trans zy yx]
    | false =>
      have e2 : joinR y z = y := by simp [joinR, zy]
      rw [e2, e]
  | false =>
    have e : joinR x y = x := by simp [joinR, yx]
    rw [e]
    cases zy : newerB z y with
    | true =>
      have e2 : joinR y z = z := by simp [joinR, zy]
      rw [e2]
    | false =>
      have e2 : joinR y z = y := by simp [joinR, zy]
      rw [e2, e]
      have zx : newerB z x = false := by
        cases q : newerB z x with
        | false => rfl
        | true =>
          exfalso
          cases xy : newerB x y with
          | true => rw [newer_trans q xy] at zy; cases zy
          | false =>
            obtain ⟨e1, e2, e3, e4⟩ := newer_same xy yx
            rw [reg_ext h e1 e2 e3 e4] at q
            rw [q] at zy; cases zy
      simp [joinR, zx]
theorem joinO_comm {k : ByteArray} {a b : Option Rg} (ha : Keyed k a) (hb : Keyed k b) : joinO a b = joinO b a := by
  match a, b with
  | none, none => rfl
  | none, some b => rfl
  | some a, none => rfl
  | some a, some b => simp only [joinO]; rw [joinR_comm ((ha a rfl).trans (hb b rfl).symm)]
theorem joinO_assoc {k : ByteArray} {a b c : Option Rg} (ha : Keyed k a) (hb : Keyed k b) : joinO (joinO a b) c = joinO a (joinO b c) := by
  match a, b, c with
  | none, b, c => rfl
  | some a, none, c => rfl
  | some a, some b, none => rfl
  | some a, some b, some c => simp only [joinO]; rw [joinR_assoc ((ha a rfl).trans (hb b rfl).symm)]
theorem joinO_idem (a : Option Rg) : joinO a a = a := by
  match a with
  | none => rfl
  | some a => simp only [joinO]; rw [joinR_idem]
theorem getR_put : ∀ (l : List Rg) (r : Rg) (k : ByteArray), l.Pairwise kLt → getR (putL l r) k = joinO (getR l k) (getR [r] k)
  | [], r, k, _ => by simp [putL_eq, putR, getR_nil, joinO]
  | x :: l, r, k, hp => by
    rw [List.pairwise_cons] at hp
    have ih := getR_put l r k hp.2
    rw [putL_eq] at ih ⊢
    unfold putR
    cases hx : Op.bytesLess x.f0.toList r.f0.toList with
    | true =>
      rw [if_pos rfl, getR_cons, getR_cons x l]
      by_cases hk : x.f0 = k
      · rw [if_pos hk, if_pos hk]
        have hr : r.f0 ≠ k := by
          intro e
          rw [hk, e, less_irrefl] at hx; cases hx
        rw [getR_cons, if_neg hr, getR_nil, joinO_none_right]
      · rw [if_neg hk, if_neg hk, ih]
    | false =>
      simp only [Bool.false_eq_true, if_false]
      by_cases he : x.f0 = r.f0
      · rw [if_pos he]
        by_cases hk : r.f0 = k
        · have hxk := he.trans hk
          rw [getR_cons x l, if_pos hxk, getR_cons r [], if_pos hk]
          show _ = some (joinR x r)
          unfold joinR
          split
          · rw [getR_cons, if_pos hk]
          · rw [getR_cons, if_pos hxk]
        · have hxk : x.f0 ≠ k := fun e => hk (he.symm.trans e)
          rw [getR_cons x l, if_neg hxk, getR_cons r [], if_neg hk, getR_nil, joinO_none_right]
          split
          · rw [getR_cons, if_neg hk]
          · rw [getR_cons, if_neg hxk]
      · rw [if_neg he, getR_cons]
        by_cases hk : r.f0 = k
        · rw [if_pos hk, getR_cons r [], if_pos hk]
          have hrx : Op.bytesLess r.f0.toList x.f0.toList = true := by
            cases q : Op.bytesLess r.f0.toList x.f0.toList with
            | true => rfl
            | false => exact absurd (toList_inj (less_antisymm hx q)) he
          have hn : getR (x :: l) k = none := by
            refine getR_none_of fun y hy e => ?_
            rcases List.mem_cons.1 hy with rfl | hy
            · exact he (e.trans hk.symm)
            · have h2 := less_trans hrx (hp.1 y hy)
              rw [e, ← hk, less_irrefl] at h2
              cases h2
          rw [hn]; rfl
        · rw [if_neg hk, getR_cons r [], if_neg hk, getR_nil, joinO_none_right]
theorem getR_fold : ∀ (m l : List Rg) (k : ByteArray), l.Pairwise kLt → m.Pairwise kLt → getR (m.foldl putL l) k = joinO (getR l k) (getR m k)
  | [], l, k, _, _ => by rw [getR_nil, joinO_none_right]; rfl
  | r :: m, l, k, hl, hm => by
    rw [List.pairwise_cons] at hm
    show getR (m.foldl putL (putL l r)) k = _
    rw [getR_fold m _ k (putL_up r hl) hm.2, getR_put l r k hl, joinO_assoc (k := k) (getR_keyed _ _) (getR_keyed _ _)]
    congr 1
    rw [getR_cons r [], getR_cons r m]
    by_cases hk : r.f0 = k
    · rw [if_pos hk, if_pos hk]
      have hn : getR m k = none := getR_none_of fun y hy e => lt_ne (hm.1 y hy) (hk.trans e.symm)
      rw [hn]; rfl
    · rw [if_neg hk, if_neg hk]; rfl
theorem reg_same : ∀ (l m : List Rg), l.Pairwise kLt → m.Pairwise kLt → (∀ k, getR l k = getR m k) → l = m
  | [], [], _, _, _ => rfl
  | [], y :: m, _, _, h => by have := h y.f0; rw [getR_nil, getR_cons, if_pos rfl] at this; cases this
  | x :: l, [], _, _, h => by have := h x.f0; rw [getR_nil, getR_cons, if_pos rfl] at this; cases this
  | x :: l, y :: m, hl, hm, h => by
    rw [List.pairwise_cons] at hl hm
    have hxy : x = y := by
      have h1 := h x.f0
      rw [getR_cons, if_pos rfl] at h1
      have m1 := getR_mem h1.symm
      have h2 := h y.f0
      rw [getR_cons y, if_pos rfl] at h2
      have m2 := getR_mem h2
      rcases List.mem_cons.1 m1 with e | m1
      · exact e
      · rcases List.mem_cons.1 m2 with e | m2
        · exact e.symm
        · have a1 := hm.1 x m1
          have a2 := hl.1 y m2
          unfold kLt at a1 a2
          rw [less_asymm a1] at a2; cases a2
    subst hxy
    congr 1
    refine reg_same l m hl.2 hm.2 fun k => ?_
    by_cases hk : x.f0 = k
    · rw [getR_none_of fun y hy e => lt_ne (hl.1 y hy) (hk.trans e.symm), getR_none_of fun y hy e => lt_ne (hm.1 y hy) (hk.trans e.symm)]
    · have := h k
      rwa [getR_cons, if_neg hk, getR_cons, if_neg hk] at this
theorem wrap_succ {n : Nat} (h : n < 4611686018427387904) : wrap64 ((n : Int) + 1) = ((n + 1 : Nat) : Int) := by unfold wrap64; omega
theorem wrap_pred {n : Nat} (h : n < 4611686018427387904) : wrap64 (((n + 1 : Nat) : Int) - 1) = (n : Int) := by unfold wrap64; omega
theorem rd_mid (pre suf : List Rg) (x : Rg) : rd_T47 (pre ++ x :: suf) ((pre.length : Nat) : Int) = x := by
  simp [rd_T47, List.getD_eq_getElem?_getD]
theorem len_snoc {α : Type} (pre : List α) (x : α) : (pre ++ [x]).length = pre.length + 1 := by simp
theorem app_snoc {α : Type} (pre suf : List α) (x : α) : (pre ++ [x]) ++ suf = pre ++ x :: suf := by simp
def okTT (x : Rg) : Prop := okT x.f0 ∧ okT x.f1
def oneB (r : Rg) : Bool := keyB r.f0.data.toList && (keyB r.f1.data.toList && (decide (0 < r.f2) && (decide (0 ≤ r.f3.f0) && (decide (r.f3.f0 < 8) && decide (0 < r.f3.f1)))))
theorem key_f {a : ByteArray} (h : okT a) : ops_Key.f a = some (keyB a.data.toList) := by
  unfold ops_Key.f
  rw [if_pos (by unfold okT maxLen at h; omega)]
theorem one_f (r : Rg) (h : okTT r) : reg_one.f r.f0 r.f1 r.f2 r.f3.f0 r.f3.f1 = some (oneB r) := by
  unfold reg_one.f oneB
  rw [key_f h.1, key_f h.2]
  simp only [Option.bind_some]
  cases keyB r.f0.data.toList
  · rfl
  cases keyB r.f1.data.toList
  · rfl
  by_cases h1 : 0 < r.f2 <;> by_cases h2 : 0 ≤ r.f3.f0 <;> by_cases h3 : r.f3.f0 < 8 <;> simp [h1, h2, h3]
def mayRP : Option Rg → List Rg → Bool
  | _, [] => true
  | p, x :: l => oneB x && ((match p with | none => true | some y => Op.bytesLess y.f0.toList x.f0.toList) && mayRP (some x) l)
def mayB (l : List Rg) : Bool := mayRP none l
theorem may_loop : ∀ (suf pre : List Rg) (k : Nat), suf.length < k → (pre ++ suf).length < 4611686018427387904 → (∀ x ∈ suf, okTT x) →
    reg_May.l0 k (pre ++ suf) (pre ++ suf) (((pre ++ suf).length : Nat) : Int) ((pre.length : Nat) : Int) = some (mayRP pre.getLast? suf)
  | suf, pre, 0, hk, _, _ => by omega
  | [], pre, k + 1, _, _, _ => by
    simp only [reg_May.l0]
    rw [if_neg (by simp)]
    rfl
  | x :: suf, pre, k + 1, hk, hl, ho => by
    have hlt : ((pre.length : Nat) : Int) < (((pre ++ x :: suf).length : Nat) : Int) := by simp; omega
    have hpl : pre.length < 4611686018427387904 := by simp at hl; omega
    have ih := may_loop suf (pre ++ [x]) k (by simp at hk; omega) (by simpa using hl) (fun y hy => ho y (List.mem_cons_of_mem _ hy))
    rw [app_snoc, List.getLast?_concat, len_snoc] at ih
    simp only [reg_May.l0]
    rw [if_pos hlt, if_pos (by omega), if_pos hlt, rd_mid, one_f x (ho x List.mem_cons_self), Option.bind_some, wrap_succ hpl]
    unfold mayRP
    cases h1 : oneB x with
    | false => rfl
    | true =>
      simp only [if_true, Bool.true_and]
      rcases List.eq_nil_or_concat pre with rfl | ⟨p, y, rfl⟩
      · rw [if_neg (by simp)]
        simpa using ih
      · rw [List.concat_eq_append] at *
        have hw : wrap64 ((((p ++ [y]).length : Nat) : Int) - 1) = ((p.length : Nat) : Int) := by
          rw [List.length_append, List.length_singleton]; exact wrap_pred (by simp at hpl; omega)
        rw [if_pos (by simp), hw, if_pos (by omega), if_pos (by simp; omega), app_snoc, rd_mid, List.getLast?_concat]
        rw [app_snoc] at ih
        cases h2 : Op.bytesLess y.f0.toList x.f0.toList with
        | false => simp [h2]
        | true =>
          simp only [if_true]
          rw [ih, h2]; rfl
theorem may_f (k : Nat) (l : List Rg) (hk : l.length < k) (hl : l.length < 4611686018427387904) (ho : ∀ x ∈ l, okTT x) : reg_May.f k l = some (mayB l) := by
  have := may_loop l [] k hk (by simpa using hl) ho
  simpa [reg_May.f, mayB] using this
theorem mayRP_iff : ∀ (l : List Rg) (p : Option Rg), mayRP p l = true ↔ (∀ x ∈ l, oneB x = true) ∧ (p.toList ++ l).Pairwise kLt
  | [], none => by simp [mayRP]
  | [], some y => by simp [mayRP]
  | x :: l, none => by
    have ih := mayRP_iff l (some x)
    unfold mayRP
    simp only [Bool.true_and, Bool.and_eq_true, ih, List.mem_cons, forall_eq_or_imp, Option.toList, List.nil_append, List.cons_append]
    exact and_assoc.symm
  | x :: l, some y => by
    have ih := mayRP_iff l (some x)
    unfold mayRP
    simp only [Bool.and_eq_true, ih, List.mem_cons, forall_eq_or_imp, Option.toList, List.nil_append, List.cons_append]
    constructor
    · rintro ⟨h1, h2, h3, h4⟩
      refine ⟨⟨h1, h3⟩, ?_⟩
      rw [List.pairwise_cons]
      refine ⟨fun z hz => ?_, h4⟩
      rcases List.mem_cons.1 hz with rfl | hz
      · exact h2
      · exact less_trans h2 ((List.pairwise_cons.1 h4).1 z hz)
    · rintro ⟨⟨h1, h3⟩, h4⟩
      rw [List.pairwise_cons] at h4
      exact ⟨h1, h4.1 x List.mem_cons_self, h3, h4.2⟩
theorem mayB_iff (l : List Rg) : mayB l = true ↔ (∀ x ∈ l, oneB x = true) ∧ l.Pairwise kLt := by
  have := mayRP_iff l none
  simpa [mayB] using this
theorem may_put {l : List Rg} {r : Rg} (h : mayB l = true) (hr : oneB r = true) : mayB (putL l r) = true := by
  rw [mayB_iff] at h ⊢
  refine ⟨fun x hx => ?_, putL_up r h.2⟩
  rcases putL_mem hx with rfl | hx
  · exact hr
  · exact h.1 x hx
theorem may_fold {l m : List Rg} (h : mayB l = true) (hm : ∀ x ∈ m, oneB x = true) : mayB (m.foldl putL l) = true := by
  rw [mayB_iff] at h ⊢
  refine ⟨fun x hx => ?_, foldl_up m l h.2⟩
  rcases foldl_mem m l hx with hx | hx
  · exact hm x hx
  · exact h.1 x hx
theorem with_f (l m : List Rg) (hl : l.Pairwise kLt) (hs : (l.length + m.length + 1) * 56 ≤ 140737488355328) : reg_with.f l m = some (m.foldl putL l) := by
  unfold reg_with.f
  rw [if_pos ⟨up_regUpB l hl, hs⟩]
def putO (l : List Rg) (r : Rg) : List Rg := if mayB l && oneB r then putL l r else []
def mergeO (a b : List Rg) : List Rg := if mayB a && mayB b then b.foldl putL a else []
theorem put_f (k : Nat) (l : List Rg) (r : Rg) (hk : l.length < k) (hl : l.length < 1000000) (ho : ∀ x ∈ l, okTT x) (hr : okTT r) : reg_Put.f k l r.f0 r.f1 r.f2 r.f3.f0 r.f3.f1 = some (putO l r) := by
  unfold reg_Put.f putO
  rw [may_f k l hk (by omega) ho, one_f r hr]
  simp only [Option.bind_some]
  cases h1 : mayB l with
  | false => rfl
  | true =>
    cases h2 : oneB r with
    | false => rfl
    | true =>
      simp only [if_true, Bool.and_self]
      rw [show ([⟨r.f0, r.f1, r.f2, ⟨r.f3.f0, r.f3.f1⟩⟩] : List Rg) = [r] from rfl, with_f l [r] ((mayB_iff l).1 h1).2 (by simp; omega)]
      rfl
theorem merge_f (k : Nat) (a b : List Rg) (hk : a.length < k) (hk2 : b.length < k) (hl : a.length < 1000000) (hl2 : b.length < 1000000) (ho : ∀ x ∈ a, okTT x) (ho2 : ∀ x ∈ b, okTT x) : reg_Merge.f k a b = some (mergeO a b) := by
  unfold reg_Merge.f mergeO
  rw [may_f k a hk (by omega) ho, may_f k b hk2 (by omega) ho2]
  simp only [Option.bind_some]
  cases h1 : mayB a with
  | false => rfl
  | true =>
    cases h2 : mayB b with
    | false => rfl
    | true =>
      simp only [if_true, Bool.and_self]
      rw [with_f a b ((mayB_iff a).1 h1).2 (by omega)]
      rfl
def fewB (l : List Rg) : Bool := decide (l.length ≤ 30) && l.all (fun x => decide (x.f0.size ≤ 100) && decide (x.f1.size ≤ 100))
theorem few_loop : ∀ (suf pre : List Rg) (k : Nat), suf.length < k → (pre ++ suf).length < 4611686018427387904 →
    law07_Few.l0 k (pre ++ suf) ((pre.length : Nat) : Int) = some (suf.all (fun x => decide (x.f0.size ≤ 100) && decide (x.f1.size ≤ 100)))
  | suf, pre, 0, hk, _ => by omega
  | [], pre, k + 1, _, _ => by
    simp only [law07_Few.l0]
    rw [if_neg (by simp)]
    rfl
  | x :: suf, pre, k + 1, hk, hl => by
    have hlt : ((pre.length : Nat) : Int) < (((pre ++ x :: suf).length : Nat) : Int) := by simp; omega
    have hpl : pre.length < 4611686018427387904 := by simp at hl; omega
    have ih := few_loop suf (pre ++ [x]) k (by simp at hk; omega) (by simpa using hl)
    rw [app_snoc, len_snoc] at ih
    simp only [law07_Few.l0]
    rw [if_pos hlt, if_pos (by omega), rd_mid, wrap_succ hpl, ih, List.all_cons]
    by_cases h1 : x.f0.size ≤ 100
    · rw [if_neg (by omega)]
      by_cases h2 : x.f1.size ≤ 100
      · rw [if_neg (by omega)]; simp [h1, h2]
      · rw [if_pos (by omega)]; simp [h2]
    · rw [if_pos (by omega)]; simp [h1]
theorem few_f (k : Nat) (l : List Rg) (hk : 31 < k) : law07_Few.f k l = some (fewB l) := by
  unfold law07_Few.f fewB
  by_cases h : l.length ≤ 30
  · rw [if_neg (by omega)]
    have := few_loop l [] k (by omega) (by simp; omega)
    simp only [List.nil_append, List.length_nil] at this
    rw [show ((0 : Nat) : Int) = 0 from rfl] at this
    rw [this]; simp [h]
  · rw [if_pos (by omega)]; simp [h]
theorem few_len {l : List Rg} (h : fewB l = true) : l.length ≤ 30 := by
  unfold fewB at h; simp at h; exact h.1
theorem few_size {l : List Rg} (h : fewB l = true) : ∀ x ∈ l, x.f0.size ≤ 100 ∧ x.f1.size ≤ 100 := by
  unfold fewB at h; simp at h
  intro x hx
  exact h.2 x hx
theorem okTT_of {x : Rg} (h : x.f0.size ≤ 100 ∧ x.f1.size ≤ 100) : okTT x := by
  unfold okTT okT maxLen; omega
def getA : Option Rg → ByteArray × ByteArray × Int × Int × Int × Bool
  | some x => (x.f0, x.f1, x.f2, x.f3.f0, x.f3.f1, true)
  | none => (⟨#[]⟩, ⟨#[]⟩, 0, 0, 0, false)
theorem get_f (l : List Rg) (key : ByteArray) : reg_Get.f l key = some (getA (getR l key)) := by
  unfold reg_Get.f getR getA
  cases l.find? (regKey key) <;> rfl
def smallR (x : Rg) : Prop := x.f0.size ≤ 100 ∧ x.f1.size ≤ 100
theorem may_oneR {r : Rg} (h : mayB [r] = true) : oneB r = true := ((mayB_iff [r]).1 h).1 r List.mem_cons_self
theorem few_all {l : List Rg} (h : fewB l = true) : ∀ x ∈ l, smallR x := few_size h
theorem few_one {r : Rg} (h : fewB [r] = true) : smallR r := few_size h r List.mem_cons_self
theorem ok_all {l : List Rg} (h : ∀ x ∈ l, smallR x) : ∀ x ∈ l, okTT x := fun x hx => okTT_of (h x hx)
theorem putO_small {l : List Rg} {r : Rg} (h : ∀ x ∈ l, smallR x) (hr : smallR r) : ∀ x ∈ putO l r, smallR x := fun x hx => by
  unfold putO at hx
  split at hx
  · rcases putL_mem hx with rfl | hx
    · exact hr
    · exact h x hx
  · cases hx
theorem putO_len (l : List Rg) (r : Rg) : (putO l r).length ≤ l.length + 1 := by
  unfold putO
  split
  · exact putL_length l r
  · simp
theorem mergeO_small {a b : List Rg} (h : ∀ x ∈ a, smallR x) (hb : ∀ x ∈ b, smallR x) : ∀ x ∈ mergeO a b, smallR x := fun x hx => by
  unfold mergeO at hx
  split at hx
  · rcases foldl_mem _ _ hx with hx | hx
    · exact hb x hx
    · exact h x hx
  · cases hx
theorem mergeO_len (a b : List Rg) : (mergeO a b).length ≤ a.length + b.length := by
  unfold mergeO
  split
  · exact foldl_length b a
  · simp
end Go.Proofs.YtmcddoolniaehaaGreat.S
end
section
namespace Go.Proofs.YtmcddoolniaehaaGreat.S
open Go.RowKit Go.Proofs.YtmcddoolniaehaaGreatW.PrintWords Go.Proofs.YtmcddoolniaehaaGreatW.PrintLast Go.Proofs.YtmcddoolniaehaaGreatW.PrintMore Go.Proofs.YtmcddoolniaehaaGreatW
set_option linter.unusedVariables false
set_option linter.unusedSimpArgs false
theorem append_nil_src (w : World) (ty : TypeId) {base n : Nat} {v : Value} {xs : List Value} (hown : w.ownsRow base 43 4 v n xs) (c : Nat) : (Builtin.append_ #[24, 24] ty #[v, .slice none 0 c]).run Tryz.prog w = .ok v w := by
  obtain ⟨i0, hi, hz0, hz1, hz2⟩ := info_parts info43
  rcases hown.2 with ⟨rfl, rfl⟩ | ⟨g, cap, cur, rfl, _, _, hnc, _⟩
  · simp [Builtin.append_, run_underlying Tryz.underlying24, sizeOf, typeInfo, hi, Builtin.lenOf, Builtin.firstCells]
  · simp [Builtin.append_, run_underlying Tryz.underlying24, sizeOf, typeInfo, hi, Builtin.lenOf, Builtin.firstCells, hnc, storeCells, Result.andThen]
theorem app_pairs (w : World) (ty : TypeId) {base : Nat} {v : Value} {l1 : List Pr} (ho : w.ownsRow base 43 4 v l1.length (pairRow l1)) (A : Option Addr) (c : Nat) (l2 : List Pr) (hC : Kd.C k43 w A l2.length l2) (hlim : (l1.length + l2.length) * 48 ≤ 140737488355328) (hbase : base ≤ w.heap.size) :
    ∃ v' w', (Builtin.append_ #[24, 24] ty #[v, .slice A l2.length c]).run Tryz.prog w = .ok v' w' ∧ w'.ownsRow base 43 4 v' (l1 ++ l2).length (pairRow (l1 ++ l2)) ∧ w.grownBy w' v.ownBlock ∧ (∃ A' c', v' = .slice A' (l1 ++ l2).length c') := by
  rcases A with _ | a
  · have h0 : l2.length = 0 := by
      rcases Nat.eq_zero_or_pos l2.length with h | h
      · exact h
      · obtain ⟨ad, h', _⟩ := hC.2.2 h
        cases h'
    obtain rfl := List.eq_nil_of_length_eq_zero h0
    obtain ⟨A', c', rfl⟩ := own_slice ho
    exact ⟨_, w, append_nil_src w ty ho c, by rw [List.append_nil]; exact ho, World.grownBy.refl _ _, A', c', by rw [List.append_nil]⟩
  · obtain ⟨i0, hi, hz0, hz1, hz2⟩ := info_parts info43
    have hnews := C_news (d := k43) (enc := pairCells) pairCells_lengthK (fun h => k43_open h) hC
    obtain ⟨v', w', hr, ho', hg, _, hat⟩ := run_append_own_at (P := Tryz.prog) (w := w) base 24 ty 43 i0 _ 4 48 Tryz.underlying24 hi hz0 hz1 hz2 (by rfl) (by omega) v l1.length (pairRow l1) ho a l2.length c (pairRow l2)
      (flat_length (enc := pairCells) (sz := 4) (fun _ => rfl) l2) hnews (flat_one pairCells_one l2) (by unfold maxLen; omega) (by omega) hbase
    have ho2 : w'.ownsRow base 43 4 v' (l1 ++ l2).length (pairRow (l1 ++ l2)) := by rw [List.length_append]; unfold pairRow; rw [List.flatMap_append]; exact ho'
    obtain ⟨A', c', rfl⟩ := own_slice ho2
    exact ⟨_, w', hr, ho2, hg, A', c', rfl⟩
set_option maxHeartbeats 1000000 in
set_option maxRecDepth 100000 in
theorem grow_calls (n : Nat) (w : World) (hlim : n * 48 ≤ 140737488355328) :
    Calls Tryz.prog 118 #[.slice none 0 0, .int .i64 n] w fun e w' => ∃ A c, e = .returned (.slice A 0 c) ∧ w'.ownsRow w.heap.size 43 4 (.slice A 0 c) 0 (pairRow []) ∧ Below w.heap.size w w' := by
  rcases Nat.eq_zero_or_pos n with rfl | hn
  · go_enter Tryz.func118, Tryz.ntmps118
    go_wp2
    go_ret
    exact ⟨none, 0, rfl, own_nil _ _ _ _, Below.refl _ _⟩
  · obtain ⟨i0, hi, hz0, hz1, hz2⟩ := info_parts info43
    have hr := fun ty => Lib.run_append_nil_zeros (P := Tryz.prog) w 24 3 ty 43 i0 _ .i64 .i64 Tryz.underlying24 Tryz.underlying3 hi hz0 n hn (by omega) (by omega) (by rw [hz2]; omega)
    have hG1 := grownCap_ge w n 0 43
    have hG2 := grownCap_le_maxLen w n 0 43 (by unfold maxLen; omega)
    generalize grownCap w n 0 43 = G at hr hG1 hG2
    have HO : (w.drew.alloc (.cells (Builtin.zeroCells (Value.agg #[.string ⟨#[]⟩, .string ⟨#[]⟩, .int .i64 0, .int .i64 0]).cells n ++ Builtin.zeroCells (Value.agg #[.string ⟨#[]⟩, .string ⟨#[]⟩, .int .i64 0, .int .i64 0]).cells (G - n)) 43)).ownsRow w.heap.size 43 4 (.slice (some ⟨w.heap.size, 0, none⟩) 0 G) 0 (pairRow []) := by
      refine ⟨rfl, .inr ⟨w.heap.size, G, _, rfl, Nat.le_refl _, blk_new w.drew _, Nat.zero_le _, hG2, ?_, by simp⟩⟩
      simp only [Array.size_append, Builtin.zeroCells, Array.size_map, Array.size_range, Value.cells]
      simp
      omega
    have HA := Aside0.mk HO
    have hGm : G ≤ 9223372036854775807 := by unfold maxLen at hG2; omega
    have hnm : n ≤ 9223372036854775807 := by omega
    clear HO hi hz0 hz1 hz2 hG2
    go_enter Tryz.func118, Tryz.ntmps118
    go_wp2_with (at_builtin; refine Lib.wpList_append_run _ rfl _ _ _ _ rfl _ _ rfl rfl _ _ (hr _) ?_)
    go_ret
    exact ⟨_, _, rfl, HA.out, below_drew (below_alloc (Below.refl w.heap.size w) _)⟩
set_option maxHeartbeats 4000000 in
set_option maxRecDepth 100000 in
theorem concat_calls (A1 : Option Addr) (c1 : Nat) (l1 : List Pr) (A2 : Option Addr) (c2 : Nat) (l2 : List Pr) (vb : Nat) (w : World) (hv : w.heap[vb]? = some (.cells #[.slice A1 l1.length c1, .slice A2 l2.length c2] 24 (0, 0)))
    (h1 : Kd.C k43 w A1 l1.length l1) (h2 : Kd.C k43 w A2 l2.length l2) (hlim : (l1.length + l2.length) * 48 ≤ 140737488355328) :
    Calls Tryz.prog 98 #[.slice (some ⟨vb, 0, none⟩) 2 2] w fun e w' => ∃ A c, e = .returned (.slice A (l1 ++ l2).length c) ∧ w'.ownsRow w.heap.size 43 4 (.slice A (l1 ++ l2).length c) (l1 ++ l2).length (pairRow (l1 ++ l2)) ∧ Below w.heap.size w w' := by
  have v0 : w.cell? ⟨vb, 0, none⟩ = some (.slice A1 l1.length c1) := blk_cell hv 0
  have v1 : w.cell? ⟨vb, 1, none⟩ = some (.slice A2 l2.length c2) := blk_cell hv 1
  have HV := Aside0.mk hv
  have H1 := Aside0.mk h1
  have H2 := Aside0.mk h2
  have hn1 : l1.length ≤ 9223372036854775807 := by omega
  have hn2 : l2.length ≤ 9223372036854775807 := by omega
  have hgr := grow_calls (l1.length + l2.length) w hlim
  rw [Int.natCast_add] at hgr
  have HG := Aside0.mk hgr
  clear hv h1 h2 hgr
  go_enter Tryz.func98, Tryz.ntmps98
  go_wp2
  go_loopw [3, 11] (fun s i wr => Aside0 (wr = w) ∧ ((i = .int .i64 0 ∧ s = .int .i64 0) ∨ (i = .int .i64 1 ∧ s = .int .i64 l1.length) ∨ (i = .int .i64 2 ∧ s = .int .i64 ((l1.length : Int) + (l2.length : Int))))) (fun _ i _ => 2 - (intOf i).toNat)
  case atStart => exact ⟨⟨rfl⟩, .inl ⟨rfl, rfl⟩⟩
  case round =>
    obtain ⟨⟨hwr⟩, hc⟩ := hrel
    have hwr2 := hwr.symm
    clear hwr
    subst hwr2
    rcases hc with ⟨rfl, rfl⟩ | ⟨rfl, rfl⟩ | ⟨rfl, rfl⟩
    · have hneg : ¬ ((l1.length : Int) < 0) := by omega
      go_wp2
      go_roundw
      case rel => exact ⟨⟨by first | trivial | rfl⟩, .inr (.inl ⟨rfl, rfl⟩)⟩
      case measure => simp [intOf]
    · have hneg : ¬ ((l1.length : Int) + (l2.length : Int) < 0) := by omega
      go_wp2
      go_roundw
      case rel => exact ⟨⟨by first | trivial | rfl⟩, .inr (.inr ⟨rfl, rfl⟩)⟩
      case measure => simp [intOf]
    · clear v0 v1
      go_wp2_with fail
      refine HG.out.mono ?_
      rintro e w1 ⟨A, c, rfl, ho1, hb1⟩
      have HO1 := Aside0.mk ho1
      have HB1 := Aside0.mk hb1
      clear ho1 hb1 HG
      go_wp2
      go_loopw [6, 27] (fun v i wr => ∃ l : List Pr, Aside0 (wr.ownsRow w.heap.size 43 4 v l.length (pairRow l)) ∧ Aside0 (Below w.heap.size w wr) ∧ ((i = .int .i64 0 ∧ Aside0 (l = [])) ∨ (i = .int .i64 1 ∧ Aside0 (l = l1)) ∨ (i = .int .i64 2 ∧ Aside0 (l = l1 ++ l2)))) (fun _ i _ => 2 - (intOf i).toNat)
      case atStart => exact ⟨[], HO1, HB1, .inl ⟨rfl, ⟨rfl⟩⟩⟩
      case round =>
        clear HO1 HB1
        obtain ⟨l, HO, HB, hc⟩ := hrel
        have hvs := blk_below HV.out HB.out
        have v0 : wr.cell? ⟨vb, 0, none⟩ = some (.slice A1 l1.length c1) := blk_cell hvs 0
        have v1 : wr.cell? ⟨vb, 1, none⟩ = some (.slice A2 l2.length c2) := blk_cell hvs 1
        clear hvs
        obtain ⟨A', c', rfl⟩ := own_slice HO.out
        rcases hc with ⟨rfl, ⟨rfl⟩⟩ | ⟨rfl, ⟨rfl⟩⟩ | ⟨rfl, ⟨rfl⟩⟩
        · obtain ⟨v', w', hr, ho', hg', A3, c3, rfl⟩ := app_pairs wr 24 HO.out A1 c1 l1 (Kd.C_below H1.out HB.out) (by simp; omega) HB.out.size
          have HO3 := Aside0.mk ho'
          have HB3 := Aside0.mk (HB.out.grown hg' HB.out.size (own_base HO.out))
          clear ho' hg' HO HB
          go_wp2_with (at_builtin; refine Lib.wpList_append_run _ rfl _ _ _ _ rfl _ _ rfl rfl _ _ hr ?_)
          go_roundw
          case rel => exact ⟨l1, HO3, HB3, .inr (.inl ⟨rfl, ⟨rfl⟩⟩)⟩
          case measure => simp [intOf]
        · obtain ⟨v', w', hr, ho', hg', A3, c3, rfl⟩ := app_pairs wr 24 HO.out A2 c2 l2 (Kd.C_below H2.out HB.out) hlim HB.out.size
          have HO3 := Aside0.mk ho'
          have HB3 := Aside0.mk (HB.out.grown hg' HB.out.size (own_base HO.out))
          clear ho' hg' HO HB
          go_wp2_with (at_builtin; refine Lib.wpList_append_run _ rfl _ _ _ _ rfl _ _ rfl rfl _ _ hr ?_)
          go_roundw
          case rel => exact ⟨_, ⟨by rw [← List.length_append]; exact HO3.out⟩, HB3, .inr (.inr ⟨rfl, ⟨rfl⟩⟩)⟩
          case measure => simp [intOf]
        · go_wp2
          go_ret
          exact ⟨_, _, rfl, HO.out, HB.out⟩
end Go.Proofs.YtmcddoolniaehaaGreat.S
end
section
namespace Go.Proofs.YtmcddoolniaehaaGreat.S
open Go.RowKit Go.Maps Go.Proofs.YtmcddoolniaehaaGreatW.PrintWords Go.Proofs.YtmcddoolniaehaaGreatW.PrintLast Go.Proofs.YtmcddoolniaehaaGreatW.PrintMore Go.Proofs.YtmcddoolniaehaaGreatW
set_option linter.unusedVariables false
set_option linter.unusedSimpArgs false
def inP (l : List Pr) (p : Pr) : Bool := decide (0 < getQ (ofQ l) p)
def mcond (base a b : List Pr) (p : Pr) : Bool := (inP a p && inP b p) || !inP base p
def mergeP (base a b : List Pr) : List Pr := if mayP base && (mayP a && mayP b) then setP ((a ++ b).filter (mcond base a b)) else []
def pair_Merge.f (l0 : List (S43)) (l1 : List (S43)) (l2 : List (S43)) : Option ((List (S43))) :=
  if smallP l0 = true ∧ smallP l1 = true ∧ smallP l2 = true then some (mergeP l0 l1 l2) else none
theorem mapQ_below {w w1 : World} {gb n : Nat} {es : MapQ} (h : OwnsQ w gb n es) (hb : Below w.heap.size w w1) : OwnsQ w1 gb n es := by
  obtain ⟨es', clock, h1, h2⟩ := h
  exact ⟨es', clock, blk_below h1 hb, h2⟩
theorem mapQ_row {w : World} {gb n base m : Nat} {es : MapQ} {e : TypeId} {size : Nat} {v : Value} {xs : List Value} (h : OwnsQ w gb n es) (hr : w.ownsRow base e size v m xs) : v.ownBlock ≠ some gb := by
  intro e1
  obtain ⟨cells, h1⟩ := own_typed hr gb e1
  obtain ⟨es', clock, h2, _⟩ := h
  rw [h1] at h2
  cases h2
structure MSt (w W : World) (g0 g1 g2 go n0 n1 n2 k : Nat) (base a b F ab : List Pr) (A : Option Addr) (c : Nat) : Prop where
  m0 : OwnsQ W g0 n0 (ofQ base)
  m1 : OwnsQ W g1 n1 (ofQ a)
  m2 : OwnsQ W g2 n2 (ofQ b)
  mo : OwnsQ W go k (ofQ F)
  row : W.ownsRow w.heap.size 43 4 (.slice A ab.length c) ab.length (pairRow ab)
  bel : Below w.heap.size w W
theorem MSt.below {w W W' : World} {g0 g1 g2 go n0 n1 n2 k : Nat} {base a b F ab : List Pr} {A : Option Addr} {c : Nat} (h : MSt w W g0 g1 g2 go n0 n1 n2 k base a b F ab A c) (hb : Below W.heap.size W W') : MSt w W' g0 g1 g2 go n0 n1 n2 k base a b F ab A c :=
  ⟨mapQ_below h.m0 hb, mapQ_below h.m1 hb, mapQ_below h.m2 hb, mapQ_below h.mo hb, pw_own_below h.row hb, below_step h.bel hb⟩
theorem MSt.grow {w W W' : World} {g0 g1 g2 go n0 n1 n2 k k' : Nat} {base a b F F' ab : List Pr} {A : Option Addr} {c : Nat} (h : MSt w W g0 g1 g2 go n0 n1 n2 k base a b F ab A c) (ho : OwnsQ W' go k' (ofQ F')) (hg : W.grownBy W' (some go)) (h0 : g0 ≠ go) (h1 : g1 ≠ go) (h2 : g2 ≠ go) (hgo : w.heap.size ≤ go) : MSt w W' g0 g1 g2 go n0 n1 n2 k' base a b F' ab A c :=
  ⟨h.m0.kept hg (fun e => h0 (Option.some.inj e)), h.m1.kept hg (fun e => h1 (Option.some.inj e)), h.m2.kept hg (fun e => h2 (Option.some.inj e)), ho, h.row.kept hg (Or.inr (mapQ_row h.mo h.row)), h.bel.grown hg h.bel.size (fun j hj => by injection hj with hj; omega)⟩
theorem MSt.more {w W : World} {g0 g1 g2 go n0 n1 n2 k k' : Nat} {base a b F ab : List Pr} {A : Option Addr} {c : Nat} (h : MSt w W g0 g1 g2 go n0 n1 n2 k base a b F ab A c) (hk : k ≤ k') : MSt w W g0 g1 g2 go n0 n1 n2 k' base a b F ab A c :=
  ⟨h.m0, h.m1, h.m2, h.mo.mono hk, h.row, h.bel⟩
theorem filter_take_succ (q : Pr → Bool) (l : List Pr) (k : Nat) (h : k < l.length) (x : Pr) (hx : x = l[k]) : (l.take (k + 1)).filter q = if q x = true then (l.take k).filter q ++ [x] else (l.take k).filter q := by
  subst hx
  rw [List.take_succ_eq_append_getElem h, List.filter_append]
  cases hq : q l[k] <;> simp [hq]
set_option maxHeartbeats 8000000 in
set_option maxRecDepth 100000 in
theorem pair_Merge.calls (A0 : Option Addr) (c0 : Nat) (l0 : List (S43)) (A1 : Option Addr) (c1 : Nat) (l1 : List (S43)) (A2 : Option Addr) (c2 : Nat) (l2 : List (S43)) (r : List (S43)) (w : World) (hr0 : Kd.C k43 w A0 l0.length l0) (hc0 : l0.length ≤ c0) (hr1 : Kd.C k43 w A1 l1.length l1) (hc1 : l1.length ≤ c1) (hr2 : Kd.C k43 w A2 l2.length l2) (hc2 : l2.length ≤ c2) (h : pair_Merge.f l0 l1 l2 = some r) :
    Calls Tryz.prog 63 #[.slice A0 l0.length c0, .slice A1 l1.length c1, .slice A2 l2.length c2] w fun e w' => ∃ v0_ : Value, e = .returned (v0_) ∧ Kd.R k43 43 w' w.heap.size (fun _ => True) v0_ r ∧ Below w.heap.size w w' := by
  unfold pair_Merge.f at h
  split at h
  case isFalse => cases h
  case isTrue hh =>
  cases h
  obtain ⟨q0, q1, q2⟩ := hh
  have hlen0 := smallP_len q0
  have hlen1 := smallP_len q1
  have hlen2 := smallP_len q2
  have HMAY0 := Aside0.mk (fun (W : World) (hb : Below w.heap.size w W) => pair_May.calls (l0.length + 6) A0 c0 l0 (mayP l0) W (Kd.C_below hr0 hb) hc0 (mayP_f _ l0 (by omega) (by omega) (smallP_all q0)))
  have HMAY1 := Aside0.mk (fun (W : World) (hb : Below w.heap.size w W) => pair_May.calls (l1.length + 6) A1 c1 l1 (mayP l1) W (Kd.C_below hr1 hb) hc1 (mayP_f _ l1 (by omega) (by omega) (smallP_all q1)))
  have HMAY2 := Aside0.mk (fun (W : World) (hb : Below w.heap.size w W) => pair_May.calls (l2.length + 6) A2 c2 l2 (mayP l2) W (Kd.C_below hr2 hb) hc2 (mayP_f _ l2 (by omega) (by omega) (smallP_all q2)))
  have HOF0 := Aside0.mk (fun (W : World) (hb : Below w.heap.size w W) => of_calls A0 c0 l0 W (Kd.C_below hr0 hb) (by unfold maxLen; omega) (smallP_all q0))
  have HOF1 := Aside0.mk (fun (W : World) (hb : Below w.heap.size w W) => of_calls A1 c1 l1 W (Kd.C_below hr1 hb) (by unfold maxLen; omega) (smallP_all q1))
  have HOF2 := Aside0.mk (fun (W : World) (hb : Below w.heap.size w W) => of_calls A2 c2 l2 W (Kd.C_below hr2 hb) (by unfold maxLen; omega) (smallP_all q2))
  have HCAT := Aside0.mk (fun (W : World) (vb : Nat) (hv : W.heap[vb]? = some (.cells #[.slice A1 l1.length c1, .slice A2 l2.length c2] 24 (0, 0))) (hb : Below w.heap.size w W) => concat_calls A1 c1 l1 A2 c2 l2 vb W hv (Kd.C_below hr1 hb) (Kd.C_below hr2 hb) (by omega))
  have HS1 := Aside0.mk (smallP_all q1)
  have HS2 := Aside0.mk (smallP_all q2)
  have hu := Tryz.underlying43
  have hum := Tryz.underlying104
  have hmm := @run_makeMap Tryz.prog
  clear hr0 hr1 hr2 q0 q1 q2
  go_enter Tryz.func63, Tryz.ntmps63
  go_wp2_with fail
  refine (HMAY0.out _ (Below.refl _ _)).mono ?_
  rintro e w1 ⟨rfl, hb1⟩
  have HB1 := Aside0.mk hb1
  clear hb1 HMAY0
  cases hm0 : mayP l0 with
  | false =>
    have HI := Aside0.mk (show mergeP l0 l1 l2 = [] by simp [mergeP, hm0])
    clear hm0
    go_wp2
    go_ret
    exact ⟨_, rfl, by rw [HI.out]; exact Kd.R_nil _ _ _ _ _, HB1.out⟩
  | true =>
    go_wp2_with fail
    refine (HMAY1.out _ HB1.out).mono ?_
    rintro e w2 ⟨rfl, hb2⟩
    have HB2 := Aside0.mk (below_step HB1.out hb2)
    clear hb2 HMAY1 HB1
    cases hm1 : mayP l1 with
    | false =>
      have HI := Aside0.mk (show mergeP l0 l1 l2 = [] by simp [mergeP, hm1])
      clear hm0 hm1
      go_wp2
      go_ret
      exact ⟨_, rfl, by rw [HI.out]; exact Kd.R_nil _ _ _ _ _, HB2.out⟩
    | true =>
      go_wp2_with fail
      refine (HMAY2.out _ HB2.out).mono ?_
      rintro e w3 ⟨rfl, hb3⟩
      have HB3 := Aside0.mk (below_step HB2.out hb3)
      clear hb3 HMAY2 HB2
      cases hm2 : mayP l2 with
      | false =>
        have HI := Aside0.mk (show mergeP l0 l1 l2 = [] by simp [mergeP, hm2])
        clear hm0 hm1 hm2
        go_wp2
        go_ret
        exact ⟨_, rfl, by rw [HI.out]; exact Kd.R_nil _ _ _ _ _, HB3.out⟩
      | true =>
        have HI := Aside0.mk (show mergeP l0 l1 l2 = setP ((l1 ++ l2).filter (mcond l0 l1 l2)) by simp [mergeP, hm0, hm1, hm2])
        clear hm0 hm1 hm2
        go_wp2_with fail
        refine (HOF0.out _ HB3.out).mono ?_
        rintro e w4 ⟨g0, rfl, hg0, ho0, hb4⟩
        have HB4 := Aside0.mk (below_step HB3.out hb4)
        clear hb4 HOF0
        go_wp2_with fail
        refine (HOF1.out _ HB4.out).mono ?_
        rintro e w5 ⟨g1, rfl, hg1, ho1, hb5⟩
        have HB5 := Aside0.mk (below_step HB4.out hb5)
        replace ho0 := mapQ_below ho0 hb5
        clear hb5 HOF1
        go_wp2_with fail
        refine (HOF2.out _ HB5.out).mono ?_
        rintro e w6 ⟨g2, rfl, hg2, ho2, hb6⟩
        have HB6 := Aside0.mk (below_step HB5.out hb6)
        replace ho0 := mapQ_below ho0 hb6
        replace ho1 := mapQ_below ho1 hb6
        have hl0 := ho0.lt
        have hl1 := ho1.lt
        have hl2 := ho2.lt
        have HO0 := Aside0.mk ho0
        have HO1 := Aside0.mk ho1
        have HO2 := Aside0.mk ho2
        have hw6 := HB6.out.size
        clear hb6 HOF2 ho0 ho1 ho2 HB3 HB4 HB5
        go_wp2_with fail
        have hv7 : ((w6.alloc (.map #[] 0)).alloc (.cells #[.slice A1 l1.length c1, .slice A2 l2.length c2] 24)).heap[w6.heap.size + 1]? = some (.cells #[.slice A1 l1.length c1, .slice A2 l2.length c2] 24 (0, 0)) := by
          have := blk_new (w6.alloc (.map #[] 0)) (.cells #[.slice A1 l1.length c1, .slice A2 l2.length c2] 24)
          simpa using this
        have hb67 : Below w6.heap.size w6 ((w6.alloc (.map #[] 0)).alloc (.cells #[.slice A1 l1.length c1, .slice A2 l2.length c2] 24)) := below_alloc (below_alloc (Below.refl _ _) _) _
        refine (HCAT.out _ _ hv7 (below_step HB6.out hb67)).mono ?_
        rintro e w7 ⟨A, c, rfl, ho7, hb7⟩
        have hom0 : OwnsQ ((w6.alloc (.map #[] 0)).alloc (.cells #[.slice A1 l1.length c1, .slice A2 l2.length c2] 24)) w6.heap.size 0 [] := (World.ownsMap_made w6 Tryz.prog 43 (plainElem (H := Unit) Tryz.prog 3)).alloc _
        have hom := mapQ_below hom0 hb7
        have hb8 := below_step hb67 hb7
        have hbw := below_step HB6.out hb8
        obtain ⟨ab, hab⟩ : ∃ ab, ab = l1 ++ l2 := ⟨_, rfl⟩
        rw [← hab] at ho7 HI ⊢
        have HST := Aside0.mk (show MSt w w7 g0 g1 g2 w6.heap.size l0.length l1.length l2.length 0 l0 l1 l2 ((ab.take 0).filter (mcond l0 l1 l2)) ab A c from ⟨mapQ_below HO0.out hb8, mapQ_below HO1.out hb8, mapQ_below HO2.out hb8, hom, own_lower2 ho7 (below_step HB6.out hb67).size, hbw⟩)
        have HOK := Aside0.mk (show ∀ x ∈ ab, okPair x by
          intro x hx
          rw [hab] at hx
          rcases List.mem_append.1 hx with h | h
          · exact HS1.out x h
          · exact HS2.out x h)
        have hablen : ab.length = l1.length + l2.length := by rw [hab, List.length_append]
        have hab48 : ab.length * 64 ≤ 140737488355328 := by omega
        clear hab ho7 hb7 hom hom0 hb8 hbw hb67 hv7 HO0 HO1 HO2 HB6 HCAT HS1 HS2 hg0 hg1 hg2 hmm
        go_wp2
        go_loopw [38] (fun i wr => ∃ k : Nat, k ≤ ab.length ∧ i = .int .i64 k ∧ Aside0 (MSt w wr g0 g1 g2 w6.heap.size l0.length l1.length l2.length k l0 l1 l2 ((ab.take k).filter (mcond l0 l1 l2)) ab A c)) (fun i _ => ab.length - (intOf i).toNat)
        case atStart => exact ⟨0, Nat.zero_le _, rfl, HST⟩
        case round =>
          clear HST
          obtain ⟨k, hk, rfl, HS0⟩ := hrel
          by_cases hlt : k < ab.length
          · have hC := (C_ofown rfl HS0.out.row).1
            obtain ⟨ad, e, hx0, hx1, hx2, hx3⟩ := at_T43 hC (k : Nat) (by omega) (by omega)
            have HXK := Aside0.mk (rdP_at ab k hlt)
            have hkx : okPair (rd_T43 ab (k : Nat)) := by rw [HXK.out]; exact HOK.out _ (List.getElem_mem _)
            cases e
            simp only [Int.toNat_natCast] at hx0 hx1 hx2 hx3
            have hkm : k < maxLen := by unfold maxLen; omega
            generalize rd_T43 ab (k : Nat) = x at hx0 hx1 hx2 hx3 HXK hkx
            have HST_wa := Aside0.mk (HS0.out.below (below_alloc (Below.refl _ _) (.cells #[.string x.f0, .string x.f1, .int .i64 x.f2.f0, .int .i64 x.f2.f1] 43)))
            have HX_wa := Aside0.mk (blk_new wr (.cells #[.string x.f0, .string x.f1, .int .i64 x.f2.f0, .int .i64 x.f2.f1] 43))
            clear hC HS0
            have HCw8 := Aside0.mk (has_calls g1 l1.length (ofQ l1) (wr.alloc (.cells #[.string x.f0, .string x.f1, .int .i64 x.f2.f0, .int .i64 x.f2.f1] 43)) HST_wa.out.m1 x hkx)
            go_wp2_with fail
            refine HCw8.out.mono ?_
            rintro e w8 ⟨rfl, hb⟩
            have HST_w8 := Aside0.mk (HST_wa.out.below hb)
            have HX_w8 := Aside0.mk (blk_below HX_wa.out hb)
            have b0 : w8.cell? ⟨wr.heap.size, 0, none⟩ = some (.string x.f0) := blk_cell HX_w8.out 0
            have b1 : w8.cell? ⟨wr.heap.size, 1, none⟩ = some (.string x.f1) := blk_cell HX_w8.out 1
            have b2 : w8.cell? ⟨wr.heap.size, 2, none⟩ = some (.int .i64 x.f2.f0) := blk_cell HX_w8.out 2
            have b3 : w8.cell? ⟨wr.heap.size, 3, none⟩ = some (.int .i64 x.f2.f1) := blk_cell HX_w8.out 3
            clear hb HCw8 HST_wa HX_wa
            cases h1 : decide (0 < getQ (ofQ l1) x) with
            | true =>
              have HCw9 := Aside0.mk (has_calls g2 l2.length (ofQ l2) w8 HST_w8.out.m2 x hkx)
              go_wp2_with fail
              refine HCw9.out.mono ?_
              rintro e w9 ⟨rfl, hb⟩
              have HST_w9 := Aside0.mk (HST_w8.out.below hb)
              have HX_w9 := Aside0.mk (blk_below HX_w8.out hb)
              have b0 : w9.cell? ⟨wr.heap.size, 0, none⟩ = some (.string x.f0) := blk_cell HX_w9.out 0
              have b1 : w9.cell? ⟨wr.heap.size, 1, none⟩ = some (.string x.f1) := blk_cell HX_w9.out 1
              have b2 : w9.cell? ⟨wr.heap.size, 2, none⟩ = some (.int .i64 x.f2.f0) := blk_cell HX_w9.out 2
              have b3 : w9.cell? ⟨wr.heap.size, 3, none⟩ = some (.int .i64 x.f2.f1) := blk_cell HX_w9.out 3
              clear hb HCw9 HST_w8 HX_w8
              cases h2 : decide (0 < getQ (ofQ l2) x) with
              | true =>
                have hq : mcond l0 l1 l2 x = true := by unfold mcond inP; simp [h1, h2]
                obtain ⟨st, v2, v3, cc, r1, r2, r3, r5, ho5, hg5⟩ := incQ_at HST_w9.out.mo.drew (ofQ_up _) hkm x hkx
                rw [← ofQ_snoc] at ho5
                have HST2 : Aside0 (MSt w v3 g0 g1 g2 w6.heap.size l0.length l1.length l2.length (k + 1) l0 l1 l2 ((ab.take (k + 1)).filter (mcond l0 l1 l2)) ab (some ad) c) := ⟨by
                  rw [filter_take_succ _ ab k hlt x HXK.out, if_pos hq]
                  exact (HST_w9.out.below (below_drew (Below.refl _ _))).grow ho5 hg5 (by omega) (by omega) (by omega) hw6⟩
                clear ho5 hg5 HST_w9 HX_w9 hq h1 h2
                go_wp2_with fail
                go_region
                all_goals
                  go_wp2
                  go_roundw
                  case rel => exact ⟨k + 1, by omega, by go_num, HST2⟩
                  case measure => simp [intOf]; omega
              | false =>
                have HCw10 := Aside0.mk (has_calls g0 l0.length (ofQ l0) w9 HST_w9.out.m0 x hkx)
                go_wp2_with fail
                refine HCw10.out.mono ?_
                rintro e w10 ⟨rfl, hb⟩
                have HST_w10 := Aside0.mk (HST_w9.out.below hb)
                have HX_w10 := Aside0.mk (blk_below HX_w9.out hb)
                have b0 : w10.cell? ⟨wr.heap.size, 0, none⟩ = some (.string x.f0) := blk_cell HX_w10.out 0
                have b1 : w10.cell? ⟨wr.heap.size, 1, none⟩ = some (.string x.f1) := blk_cell HX_w10.out 1
                have b2 : w10.cell? ⟨wr.heap.size, 2, none⟩ = some (.int .i64 x.f2.f0) := blk_cell HX_w10.out 2
                have b3 : w10.cell? ⟨wr.heap.size, 3, none⟩ = some (.int .i64 x.f2.f1) := blk_cell HX_w10.out 3
                clear hb HCw10 HST_w9 HX_w9
                cases h0 : decide (0 < getQ (ofQ l0) x) with
                | true =>
                  have hq : mcond l0 l1 l2 x = false := by unfold mcond inP; simp [h1, h2, h0]
                  have HST2 : Aside0 (MSt w w10 g0 g1 g2 w6.heap.size l0.length l1.length l2.length (k + 1) l0 l1 l2 ((ab.take (k + 1)).filter (mcond l0 l1 l2)) ab (some ad) c) := ⟨by
                    rw [filter_take_succ _ ab k hlt x HXK.out, if_neg (by simp [hq])]
                    exact HST_w10.out.more (Nat.le_succ k)⟩
                  clear HST_w10 HX_w10 hq h1 h2 h0
                  go_wp2
                  go_roundw
                  case rel => exact ⟨k + 1, by omega, by go_num, HST2⟩
                  case measure => simp [intOf]; omega
                | false =>
                  have hq : mcond l0 l1 l2 x = true := by unfold mcond inP; simp [h0]
                  obtain ⟨st, v2, v3, cc, r1, r2, r3, r5, ho5, hg5⟩ := incQ_at HST_w10.out.mo.drew (ofQ_up _) hkm x hkx
                  rw [← ofQ_snoc] at ho5
                  have HST2 : Aside0 (MSt w v3 g0 g1 g2 w6.heap.size l0.length l1.length l2.length (k + 1) l0 l1 l2 ((ab.take (k + 1)).filter (mcond l0 l1 l2)) ab (some ad) c) := ⟨by
                    rw [filter_take_succ _ ab k hlt x HXK.out, if_pos hq]
                    exact (HST_w10.out.below (below_drew (Below.refl _ _))).grow ho5 hg5 (by omega) (by omega) (by omega) hw6⟩
                  clear ho5 hg5 HST_w10 HX_w10 hq h0
                  go_wp2_with fail
                  go_region
                  all_goals
                    go_wp2
                    go_roundw
                    case rel => exact ⟨k + 1, by omega, by go_num, HST2⟩
                    case measure => simp [intOf]; omega
            | false =>
              have HCw9 := Aside0.mk (has_calls g0 l0.length (ofQ l0) w8 HST_w8.out.m0 x hkx)
              go_wp2_with fail
              refine HCw9.out.mono ?_
              rintro e w9 ⟨rfl, hb⟩
              have HST_w9 := Aside0.mk (HST_w8.out.below hb)
              have HX_w9 := Aside0.mk (blk_below HX_w8.out hb)
              have b0 : w9.cell? ⟨wr.heap.size, 0, none⟩ = some (.string x.f0) := blk_cell HX_w9.out 0
              have b1 : w9.cell? ⟨wr.heap.size, 1, none⟩ = some (.string x.f1) := blk_cell HX_w9.out 1
              have b2 : w9.cell? ⟨wr.heap.size, 2, none⟩ = some (.int .i64 x.f2.f0) := blk_cell HX_w9.out 2
              have b3 : w9.cell? ⟨wr.heap.size, 3, none⟩ = some (.int .i64 x.f2.f1) := blk_cell HX_w9.out 3
              clear hb HCw9 HST_w8 HX_w8
              cases h0 : decide (0 < getQ (ofQ l0) x) with
              | true =>
                have hq : mcond l0 l1 l2 x = false := by unfold mcond inP; simp [h1, h0]
                have HST2 : Aside0 (MSt w w9 g0 g1 g2 w6.heap.size l0.length l1.length l2.length (k + 1) l0 l1 l2 ((ab.take (k + 1)).filter (mcond l0 l1 l2)) ab (some ad) c) := ⟨by
                  rw [filter_take_succ _ ab k hlt x HXK.out, if_neg (by simp [hq])]
                  exact HST_w9.out.more (Nat.le_succ k)⟩
                clear HST_w9 HX_w9 hq h1 h0
                go_wp2
                go_roundw
                case rel => exact ⟨k + 1, by omega, by go_num, HST2⟩
                case measure => simp [intOf]; omega
              | false =>
                have hq : mcond l0 l1 l2 x = true := by unfold mcond inP; simp [h0]
                obtain ⟨st, v2, v3, cc, r1, r2, r3, r5, ho5, hg5⟩ := incQ_at HST_w9.out.mo.drew (ofQ_up _) hkm x hkx
                rw [← ofQ_snoc] at ho5
                have HST2 : Aside0 (MSt w v3 g0 g1 g2 w6.heap.size l0.length l1.length l2.length (k + 1) l0 l1 l2 ((ab.take (k + 1)).filter (mcond l0 l1 l2)) ab (some ad) c) := ⟨by
                  rw [filter_take_succ _ ab k hlt x HXK.out, if_pos hq]
                  exact (HST_w9.out.below (below_drew (Below.refl _ _))).grow ho5 hg5 (by omega) (by omega) (by omega) hw6⟩
                clear ho5 hg5 HST_w9 HX_w9 hq h0
                go_wp2_with fail
                go_region
                all_goals
                  go_wp2
                  go_roundw
                  case rel => exact ⟨k + 1, by omega, by go_num, HST2⟩
                  case measure => simp [intOf]; omega
          · have hF : (ab.take k).filter (mcond l0 l1 l2) = ab.filter (mcond l0 l1 l2) := by rw [List.take_of_length_le (by omega)]
            have hfl : (ofQ (ab.filter (mcond l0 l1 l2))).length * 64 ≤ 140737488355328 := Nat.le_trans (Nat.mul_le_mul_right 64 (Nat.le_trans (ofQ_len _) (List.length_filter_le _ _))) hab48
            have hmo := HS0.out.mo
            rw [hF] at hmo
            have HL := Aside0.mk (plist_calls w6.heap.size _ _ wr hmo (ofQ_up _) (fun q hq => HOK.out _ (List.mem_filter.1 (ofQ_keys _ q hq)).1) hfl)
            have HB := Aside0.mk HS0.out.bel
            clear HS0 hmo
            go_wp2_with fail
            refine HL.out.mono ?_
            rintro e w8 ⟨v, rfl, ho8, hb8⟩
            obtain ⟨A', c', rfl⟩ := own_slice ho8
            have HO8 := Aside0.mk (own_lower2 ho8 HB.out.size)
            have HB8 := Aside0.mk (below_step HB.out hb8)
            clear ho8 hb8 HL HB
            go_wp2
            go_ret
            exact ⟨_, rfl, by rw [HI.out]; exact R_pair (by unfold setP; rw [sortP_length, List.length_map]) HO8.out, HB8.out⟩
end Go.Proofs.YtmcddoolniaehaaGreat.S
end
