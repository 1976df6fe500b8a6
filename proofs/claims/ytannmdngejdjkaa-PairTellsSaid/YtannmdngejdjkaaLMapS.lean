/- Maps of strings to whole numbers as rising lists: what a put, a look-up and the sorted keys come to. Plain. -/
import Derived.Test.YtannmdngejdjkaaLx0
import Derived.Test.YtannmdngejdjkaaStrOrd
import Derived.Maps.Own
import Derived.Maps.OwnOps
import Derived.Sort.KeysCollected
namespace Go.Proofs.Ytannmdngejdjkaa.L
open Go.RowKit Go.Proofs.YtannmdngejdjkaaW.PrintWords Go.Proofs.YtannmdngejdjkaaW.PrintLast Go.Proofs.YtannmdngejdjkaaW.PrintMore Go.Proofs.YtannmdngejdjkaaW
set_option linter.unusedVariables false
set_option linter.unusedSimpArgs false
abbrev MapL := List (ByteArray × Int)
def mLt (x y : ByteArray × Int) : Prop := Op.bytesLess x.1.toList y.1.toList = true
def ent (p : ByteArray × Int) : Lit × DataW Unit := (.string p.1.data.toList, .lit (.int .i64 p.2))
def datM (es : MapL) : DataW Unit := .map (es.map ent)
def getM (es : MapL) (k : ByteArray) : Int := match es with
  | [] => 0
  | p :: l => if p.1 = k then p.2 else getM l k
def setM (es : MapL) (k : ByteArray) (n : Int) : MapL := match es with
  | [] => [(k, n)]
  | p :: l => if Op.bytesLess p.1.toList k.toList then p :: setM l k n else if p.1 = k then (k, n) :: l else (k, n) :: p :: l
theorem setM_mem {es : MapL} {k : ByteArray} {n : Int} {p : ByteArray × Int} (h : p ∈ setM es k n) : p = (k, n) ∨ p ∈ es := by
  induction es with
  | nil => simpa [setM] using h
  | cons y l ih =>
    unfold setM at h
    split at h
    · rcases List.mem_cons.1 h with rfl | h
      · exact .inr List.mem_cons_self
      · rcases ih h with h | h
        · exact .inl h
        · exact .inr (List.mem_cons_of_mem _ h)
    · split at h
      · rcases List.mem_cons.1 h with rfl | h
        · exact .inl rfl
        · exact .inr (List.mem_cons_of_mem _ h)
      · rcases List.mem_cons.1 h with rfl | h
        · exact .inl rfl
        · exact .inr h
theorem setM_up {es : MapL} {k : ByteArray} {n : Int} (h : es.Pairwise mLt) : (setM es k n).Pairwise mLt := by
  induction es with
  | nil => exact List.pairwise_singleton _ _
  | cons y l ih =>
    rw [List.pairwise_cons] at h
    unfold setM
    cases hy : Op.bytesLess y.1.toList k.toList with
    | true =>
      rw [if_pos rfl, List.pairwise_cons]
      refine ⟨fun p hp => ?_, ih h.2⟩
      rcases setM_mem hp with rfl | hp
      · exact hy
      · exact h.1 p hp
    | false =>
      rw [if_neg (by simp)]
      by_cases he : y.1 = k
      · rw [if_pos he, List.pairwise_cons]
        exact ⟨fun p hp => by have := h.1 p hp; unfold mLt at this ⊢; rw [he] at this; exact this, h.2⟩
      · rw [if_neg he, List.pairwise_cons, List.pairwise_cons]
        have hk : Op.bytesLess k.toList y.1.toList = true := by
          cases q : Op.bytesLess k.toList y.1.toList with
          | true => rfl
          | false => exact absurd (toList_inj (less_antisymm hy q)) he
        refine ⟨fun p hp => ?_, h⟩
        rcases List.mem_cons.1 hp with rfl | hp
        · exact hk
        · exact less_trans hk (h.1 p hp)
theorem getM_set (es : MapL) (k j : ByteArray) (n : Int) : getM (setM es k n) j = if j = k then n else getM es j := by
  induction es with
  | nil =>
    simp only [setM, getM]
    by_cases h : j = k
    · rw [if_pos h.symm, if_pos h]
    · rw [if_neg (fun e => h e.symm), if_neg h]
  | cons y l ih =>
    unfold setM
    cases hy : Op.bytesLess y.1.toList k.toList with
    | true =>
      rw [if_pos rfl]
      simp only [getM]
      by_cases h : y.1 = j
      · rw [if_pos h, if_pos h]
        have : j ≠ k := fun e => by rw [h, e, less_irrefl] at hy; cases hy
        rw [if_neg this]
      · rw [if_neg h, if_neg h, ih]
    | false =>
      rw [if_neg (by simp)]
      by_cases he : y.1 = k
      · rw [if_pos he]
        simp only [getM]
        by_cases h : j = k
        · rw [if_pos h.symm, if_pos h]
        · rw [if_neg (fun e => h e.symm), if_neg h, if_neg (fun e => h (e.symm.trans he))]
      · rw [if_neg he]
        simp only [getM]
        by_cases h : j = k
        · rw [if_pos h.symm, if_pos h]
        · rw [if_neg (fun e => h e.symm), if_neg h]
theorem before_less : ∀ (x y : List UInt8), Go.bytesBefore x y = Op.bytesLess x y
  | [], [] => rfl
  | [], _ :: _ => rfl
  | _ :: _, [] => rfl
  | a :: x, b :: y => by
    unfold Go.bytesBefore Op.bytesLess
    rw [before_less x y]
theorem dl_toList (a : ByteArray) : a.toList = a.data.toList := ByteArray.toList_eq a
theorem filt_all {l : MapL} {k : ByteArray} (h : ∀ p ∈ l, p.1 ≠ k) : (l.map ent).filter (fun p => !p.1.sameKey (.string k.data.toList)) = l.map ent := by
  rw [List.filter_eq_self]
  intro a ha
  obtain ⟨p, hp, rfl⟩ := List.mem_map.1 ha
  simp only [ent, Lit.sameKey, Bool.not_eq_true', beq_eq_false_iff_ne, ne_eq]
  intro e
  exact h p hp (toList_inj (by rw [dl_toList, dl_toList]; exact e))
theorem ins_front {l : MapL} {k : ByteArray} {n : Int} (h : ∀ p ∈ l, Op.bytesLess k.toList p.1.toList = true) : DataW.insert (ent (k, n)) (l.map ent) = ent (k, n) :: l.map ent := by
  cases l with
  | nil => rfl
  | cons y l =>
    have := h y List.mem_cons_self
    simp only [List.map_cons, DataW.insert]
    rw [if_pos]
    simp only [ent, Lit.before]
    rw [before_less, ← dl_toList, ← dl_toList]
    exact this
theorem put_list : ∀ (es : MapL) (k : ByteArray) (n : Int), es.Pairwise mLt → DataW.insert (ent (k, n)) ((es.map ent).filter (fun p => !p.1.sameKey (.string k.data.toList))) = (setM es k n).map ent
  | [], k, n, _ => rfl
  | y :: l, k, n, hp => by
    rw [List.pairwise_cons] at hp
    have ih := put_list l k n hp.2
    unfold setM
    cases hy : Op.bytesLess y.1.toList k.toList with
    | true =>
      have hne : y.1 ≠ k := fun e => by rw [e, less_irrefl] at hy; cases hy
      rw [if_pos rfl, List.map_cons, List.filter_cons_of_pos, DataW.insert, if_neg, ih, List.map_cons]
      · simp only [ent, Lit.before]
        rw [before_less, ← dl_toList, ← dl_toList, less_asymm hy]
        simp
      · simp only [ent, Lit.sameKey, Bool.not_eq_true', beq_eq_false_iff_ne, ne_eq]
        intro e
        exact hne (toList_inj (by rw [dl_toList, dl_toList]; exact e))
    | false =>
      rw [if_neg (by simp)]
      by_cases he : y.1 = k
      · have hgt : ∀ p ∈ l, Op.bytesLess k.toList p.1.toList = true := fun p hp' => by have := hp.1 p hp'; unfold mLt at this; rw [he] at this; exact this
        rw [if_pos he, List.map_cons, List.filter_cons_of_neg, filt_all, ins_front hgt, List.map_cons]
        · intro p hp' e
          have := hgt p hp'
          rw [e, less_irrefl] at this; cases this
        · simp [ent, Lit.sameKey, he]
      · have hk : Op.bytesLess k.toList y.1.toList = true := by
          cases q : Op.bytesLess k.toList y.1.toList with
          | true => rfl
          | false => exact absurd (toList_inj (less_antisymm hy q)) he
        have hgt : ∀ p ∈ y :: l, Op.bytesLess k.toList p.1.toList = true := fun p hp' => by
          rcases List.mem_cons.1 hp' with rfl | hp'
          · exact hk
          · exact less_trans hk (hp.1 p hp')
        rw [if_neg he, filt_all, ins_front hgt]
        · rfl
        intro p hp' e
        have := hgt p hp'
        rw [e, less_irrefl] at this; cases this
theorem put_dat {es : MapL} (k : ByteArray) (n : Int) (h : es.Pairwise mLt) : (datM es).put (.string k.data.toList) (.lit (.int .i64 n)) = datM (setM es k n) := by
  unfold datM DataW.put
  exact congrArg DataW.map (put_list es k n h)
theorem at_dat : ∀ (es : MapL) (k : ByteArray), (datM es).atKey (.string k.data.toList) (.lit (.int .i64 0)) = .lit (.int .i64 (getM es k))
  | [], k => rfl
  | y :: l, k => by
    have ih := at_dat l k
    unfold datM DataW.atKey at ih ⊢
    simp only [List.map_cons, List.find?_cons] at ih ⊢
    unfold getM
    by_cases he : y.1 = k
    · rw [if_pos he]
      have : (ent y).1.sameKey (.string k.data.toList) = true := by simp [ent, Lit.sameKey, he]
      simp only [this]; rfl
    · rw [if_neg he]
      have : (ent y).1.sameKey (.string k.data.toList) = false := by
        simp only [ent, Lit.sameKey, beq_eq_false_iff_ne, ne_eq]
        intro e
        exact he (toList_inj (by rw [dl_toList, dl_toList]; exact e))
      simp only [this]
      exact ih
theorem bytesLess_lt : ∀ (x y : List UInt8), Op.bytesLess x y = decide (x < y)
  | [], [] => by simp [Op.bytesLess]
  | _ :: _, [] => by simp [Op.bytesLess]
  | [], _ :: _ => by simp [Op.bytesLess]
  | a :: x, b :: y => by
    rw [Op.bytesLess, bytesLess_lt x y]
    simp only [List.cons_lt_cons_iff]
    by_cases h1 : a < b <;> by_cases h2 : a = b <;> by_cases h3 : x < y <;> simp [h1, h2, h3]
def keysM (es : MapL) : List (List UInt8) := es.map fun p => p.1.data.toList
theorem strKeys_dat (es : MapL) : Go.strKeys (datM es) = keysM es := by
  unfold Go.strKeys datM keysM
  simp [List.map_map, Function.comp_def, ent, Go.strOf]
theorem keys_sorted {es : MapL} (h : es.Pairwise mLt) : (keysM es).mergeSort Go.leB = keysM es := by
  apply List.mergeSort_of_pairwise
  unfold keysM
  rw [List.pairwise_map]
  refine h.imp fun {a b} hab => ?_
  unfold mLt at hab
  rw [dl_toList, dl_toList, bytesLess_lt, decide_eq_true_eq] at hab
  simp only [Go.leB, decide_eq_true_eq]
  exact List.le_of_lt hab
theorem size_dat (es : MapL) : Maps.size (datM es) = es.length := by
  simp [Maps.size, datM]
end Go.Proofs.Ytannmdngejdjkaa.L
