/- Registers: what putting in and merging come to, key by key. Plain. -/
import Derived.Test.YtannmdngejdjkaaLPRegMath
namespace Go.Proofs.Ytannmdngejdjkaa.L
open Go.RowKit Go.Proofs.YtannmdngejdjkaaW.PrintWords Go.Proofs.YtannmdngejdjkaaW.PrintLast Go.Proofs.YtannmdngejdjkaaW.PrintMore Go.Proofs.YtannmdngejdjkaaW
set_option linter.unusedVariables false
set_option linter.unusedSimpArgs false
abbrev Rg := S26
def getR (l : List Rg) (key : ByteArray) : Option Rg := l.find? (regKey key)
theorem regKey_iff {key : ByteArray} {x : Rg} : regKey key x = true ↔ x.f0 = key := by
  unfold regKey; rw [beq_iff_eq]
  exact ⟨toList_inj, fun h => by rw [h]⟩
theorem getR_nil (key : ByteArray) : getR [] key = none := rfl
theorem getR_cons (x : Rg) (l : List Rg) (key : ByteArray) : getR (x :: l) key = if x.f0 = key then some x else getR l key := by
  unfold getR
  rw [List.find?_cons]
  by_cases h : x.f0 = key
  · rw [if_pos h, regKey_iff.2 h]
  · rw [if_neg h, show regKey key x = false from Bool.eq_false_iff.2 fun e => h (regKey_iff.1 e)]
def Keyed (k : ByteArray) (o : Option Rg) : Prop := ∀ x, o = some x → x.f0 = k
theorem getR_keyed : ∀ (l : List Rg) (k : ByteArray), Keyed k (getR l k)
  | [], _, x, h => by simp [getR] at h
  | y :: l, k, x, h => by
    rw [getR_cons] at h
    split at h
    · cases h; assumption
    · exact getR_keyed l k x h
theorem getR_none_of {l : List Rg} {k : ByteArray} (h : ∀ x ∈ l, x.f0 ≠ k) : getR l k = none := by
  unfold getR
  rw [List.find?_eq_none]
  intro x hx e
  exact h x hx (regKey_iff.1 e)
theorem getR_mem {l : List Rg} {k : ByteArray} {x : Rg} (h : getR l k = some x) : x ∈ l := List.mem_of_find?_eq_some h
theorem lt_ne {x y : Rg} (h : kLt x y) : x.f0 ≠ y.f0 := by
  intro e
  unfold kLt at h
  rw [e, less_irrefl] at h
  cases h
/-- putting in, element by element -/
def putR : List Rg → Rg → List Rg
  | [], r => [r]
  | x :: l, r => if Op.bytesLess x.f0.toList r.f0.toList then x :: putR l r else if x.f0 = r.f0 then (if newerB r x then r :: l else x :: l) else r :: x :: l
theorem putL_eq : ∀ (l : List Rg) (r : Rg), putL l r = putR l r
  | [], r => by simp [putL, regIs, regPos, putR]
  | x :: l, r => by
    have ih := putL_eq l r
    unfold putR
    cases hx : Op.bytesLess x.f0.toList r.f0.toList with
    | true =>
      rw [if_pos rfl, ← ih]
      have hp : regPos r.f0 (x :: l) = regPos r.f0 l + 1 := by simp [regPos, hx]
      have hi : regIs r.f0 (x :: l) = regIs r.f0 l := by
        unfold regIs
        rw [hp, rd_cons_succ]
        simp
      unfold putL
      rw [hi, hp, rd_cons_succ]
      cases regIs r.f0 l with
      | true =>
        simp only [if_true]
        split <;> simp
      | false => simp
    | false =>
      simp only [Bool.false_eq_true, if_false]
      have hp : regPos r.f0 (x :: l) = 0 := by simp [regPos, hx]
      by_cases he : x.f0 = r.f0
      · have hi : regIs r.f0 (x :: l) = true := by
          unfold regIs
          rw [hp, rd_cons_zero]
          simp [cmpS_zero, he]
        unfold putL
        rw [hi, hp, rd_cons_zero, if_pos he]
        simp
      · have hi : regIs r.f0 (x :: l) = false := by
          unfold regIs
          rw [hp, rd_cons_zero]
          simp [cmpS_zero, he]
        unfold putL
        rw [hi, hp, if_neg he]
        simp
theorem putL_mem {l : List Rg} {r x : Rg} (h : x ∈ putL l r) : x = r ∨ x ∈ l := by
  rw [putL_eq] at h
  induction l with
  | nil => simpa [putR] using h
  | cons y l ih =>
    unfold putR at h
    split at h
    · rcases List.mem_cons.1 h with rfl | h
      · exact .inr List.mem_cons_self
      · rcases ih h with h | h
        · exact .inl h
        · exact .inr (List.mem_cons_of_mem _ h)
    · split at h
      · split at h
        · rcases List.mem_cons.1 h with rfl | h
          · exact .inl rfl
          · exact .inr (List.mem_cons_of_mem _ h)
        · exact .inr h
      · rcases List.mem_cons.1 h with rfl | h
        · exact .inl rfl
        · exact .inr h
theorem foldl_mem : ∀ (m l : List Rg) {x : Rg}, x ∈ m.foldl putL l → x ∈ m ∨ x ∈ l
  | [], l, x, h => .inr h
  | r :: m, l, x, h => by
    rcases foldl_mem m (putL l r) h with h | h
    · exact .inl (List.mem_cons_of_mem _ h)
    · rcases putL_mem h with rfl | h
      · exact .inl List.mem_cons_self
      · exact .inr h
/-! ### the newer of two -/
def joinR (x y : Rg) : Rg := if newerB y x then y else x
def joinO : Option Rg → Option Rg → Option Rg
  | none, y => y
  | some x, none => some x
  | some x, some y => some (joinR x y)
theorem joinO_none_right (x : Option Rg) : joinO x none = x := by cases x <;> rfl
theorem joinR_key {x y : Rg} {k : ByteArray} (hx : x.f0 = k) (hy : y.f0 = k) : (joinR x y).f0 = k := by unfold joinR; split <;> assumption
theorem joinO_keyed {k : ByteArray} {a b : Option Rg} (ha : Keyed k a) (hb : Keyed k b) : Keyed k (joinO a b) := by
  intro x h
  match a, b with
  | none, b => exact hb x h
  | some a, none => exact ha x h
  | some a, some b => simp only [joinO, Option.some.injEq] at h; subst h; exact joinR_key (ha a rfl) (hb b rfl)
theorem joinR_comm {x y : Rg} (h : x.f0 = y.f0) : joinR x y = joinR y x := by
  unfold joinR
  cases h1 : newerB y x with
  | true => rw [newer_asymm h1]; rfl
  | false =>
    cases h2 : newerB x y with
    | true => rfl
    | false =>
      obtain ⟨e1, e2, e3, e4⟩ := newer_same h2 h1
      exact reg_ext h e1 e2 e3 e4
theorem joinR_idem (x : Rg) : joinR x x = x := by unfold joinR; rw [newer_irrefl]; rfl
theorem joinR_assoc {x y z : Rg} (h : x.f0 = y.f0) : joinR (joinR x y) z = joinR x (joinR y z) := by
  cases yx : newerB y x with
  | true =>
    have e : joinR x y = y := by simp [joinR, yx]
    rw [e]
    cases zy : newerB z y with
    | true =>
      have e2 : joinR y z = z := by simp [joinR, zy]
      rw [e2]
      simp [joinR, newer_trans zy yx]
    | false =>
      have e2 : joinR y z = y := by simp [joinR, zy]
      rw [e2, e]
  | false =>
    have e : joinR x y = x := by simp [joinR, yx]
    rw [e]
    cases zy : newerB z y with
    | true =>
      have e2 : joinR y z = z := by simp [joinR, zy]
      rw [e2]
    | false =>
      have e2 : joinR y z = y := by simp [joinR, zy]
      rw [e2, e]
      have zx : newerB z x = false := by
        cases q : newerB z x with
        | false => rfl
        | true =>
          exfalso
          cases xy : newerB x y with
          | true => rw [newer_trans q xy] at zy; cases zy
          | false =>
            obtain ⟨e1, e2, e3, e4⟩ := newer_same xy yx
            rw [reg_ext h e1 e2 e3 e4] at q
            rw [q] at zy; cases zy
      simp [joinR, zx]
theorem joinO_comm {k : ByteArray} {a b : Option Rg} (ha : Keyed k a) (hb : Keyed k b) : joinO a b = joinO b a := by
  match a, b with
  | none, none => rfl
  | none, some b => rfl
  | some a, none => rfl
  | some a, some b => simp only [joinO]; rw [joinR_comm ((ha a rfl).trans (hb b rfl).symm)]
theorem joinO_assoc {k : ByteArray} {a b c : Option Rg} (ha : Keyed k a) (hb : Keyed k b) : joinO (joinO a b) c = joinO a (joinO b c) := by
  match a, b, c with
  | none, b, c => rfl
  | some a, none, c => rfl
  | some a, some b, none => rfl
  | some a, some b, some c => simp only [joinO]; rw [joinR_assoc ((ha a rfl).trans (hb b rfl).symm)]
theorem joinO_idem (a : Option Rg) : joinO a a = a := by
  match a with
  | none => rfl
  | some a => simp only [joinO]; rw [joinR_idem]
/-! ### what a key has -/
theorem getR_put : ∀ (l : List Rg) (r : Rg) (k : ByteArray), l.Pairwise kLt → getR (putL l r) k = joinO (getR l k) (getR [r] k)
  | [], r, k, _ => by simp [putL_eq, putR, getR_nil, joinO]
  | x :: l, r, k, hp => by
    rw [List.pairwise_cons] at hp
    have ih := getR_put l r k hp.2
    rw [putL_eq] at ih ⊢
    unfold putR
    cases hx : Op.bytesLess x.f0.toList r.f0.toList with
    | true =>
      rw [if_pos rfl, getR_cons, getR_cons x l]
      by_cases hk : x.f0 = k
      · rw [if_pos hk, if_pos hk]
        have hr : r.f0 ≠ k := by
          intro e
          rw [hk, e, less_irrefl] at hx; cases hx
        rw [getR_cons, if_neg hr, getR_nil, joinO_none_right]
      · rw [if_neg hk, if_neg hk, ih]
    | false =>
      simp only [Bool.false_eq_true, if_false]
      by_cases he : x.f0 = r.f0
      · rw [if_pos he]
        by_cases hk : r.f0 = k
        · have hxk := he.trans hk
          rw [getR_cons x l, if_pos hxk, getR_cons r [], if_pos hk]
          show _ = some (joinR x r)
          unfold joinR
          split
          · rw [getR_cons, if_pos hk]
          · rw [getR_cons, if_pos hxk]
        · have hxk : x.f0 ≠ k := fun e => hk (he.symm.trans e)
          rw [getR_cons x l, if_neg hxk, getR_cons r [], if_neg hk, getR_nil, joinO_none_right]
          split
          · rw [getR_cons, if_neg hk]
          · rw [getR_cons, if_neg hxk]
      · rw [if_neg he, getR_cons]
        by_cases hk : r.f0 = k
        · rw [if_pos hk, getR_cons r [], if_pos hk]
          have hrx : Op.bytesLess r.f0.toList x.f0.toList = true := by
            cases q : Op.bytesLess r.f0.toList x.f0.toList with
            | true => rfl
            | false => exact absurd (toList_inj (less_antisymm hx q)) he
          have hn : getR (x :: l) k = none := by
            refine getR_none_of fun y hy e => ?_
            rcases List.mem_cons.1 hy with rfl | hy
            · exact he (e.trans hk.symm)
            · have h2 := less_trans hrx (hp.1 y hy)
              rw [e, ← hk, less_irrefl] at h2
              cases h2
          rw [hn]; rfl
        · rw [if_neg hk, getR_cons r [], if_neg hk, getR_nil, joinO_none_right]
theorem getR_fold : ∀ (m l : List Rg) (k : ByteArray), l.Pairwise kLt → m.Pairwise kLt → getR (m.foldl putL l) k = joinO (getR l k) (getR m k)
  | [], l, k, _, _ => by rw [getR_nil, joinO_none_right]; rfl
  | r :: m, l, k, hl, hm => by
    rw [List.pairwise_cons] at hm
    show getR (m.foldl putL (putL l r)) k = _
    rw [getR_fold m _ k (putL_up r hl) hm.2, getR_put l r k hl, joinO_assoc (k := k) (getR_keyed _ _) (getR_keyed _ _)]
    congr 1
    rw [getR_cons r [], getR_cons r m]
    by_cases hk : r.f0 = k
    · rw [if_pos hk, if_pos hk]
      have hn : getR m k = none := getR_none_of fun y hy e => lt_ne (hm.1 y hy) (hk.trans e.symm)
      rw [hn]; rfl
    · rw [if_neg hk, if_neg hk]; rfl
/-- rising ones are the same if each key has the same -/
theorem reg_same : ∀ (l m : List Rg), l.Pairwise kLt → m.Pairwise kLt → (∀ k, getR l k = getR m k) → l = m
  | [], [], _, _, _ => rfl
  | [], y :: m, _, _, h => by have := h y.f0; rw [getR_nil, getR_cons, if_pos rfl] at this; cases this
  | x :: l, [], _, _, h => by have := h x.f0; rw [getR_nil, getR_cons, if_pos rfl] at this; cases this
  | x :: l, y :: m, hl, hm, h => by
    rw [List.pairwise_cons] at hl hm
    have hxy : x = y := by
      have h1 := h x.f0
      rw [getR_cons, if_pos rfl] at h1
      have m1 := getR_mem h1.symm
      have h2 := h y.f0
      rw [getR_cons y, if_pos rfl] at h2
      have m2 := getR_mem h2
      rcases List.mem_cons.1 m1 with e | m1
      · exact e
      · rcases List.mem_cons.1 m2 with e | m2
        · exact e.symm
        · have a1 := hm.1 x m1
          have a2 := hl.1 y m2
          unfold kLt at a1 a2
          rw [less_asymm a1] at a2; cases a2
    subst hxy
    congr 1
    refine reg_same l m hl.2 hm.2 fun k => ?_
    by_cases hk : x.f0 = k
    · rw [getR_none_of fun y hy e => lt_ne (hl.1 y hy) (hk.trans e.symm), getR_none_of fun y hy e => lt_ne (hm.1 y hy) (hk.trans e.symm)]
    · have := h k
      rwa [getR_cons, if_neg hk, getR_cons, if_neg hk] at this
end Go.Proofs.Ytannmdngejdjkaa.L
