/- A key's elements: what slices.Compact makes of elements that rise. Plain. -/
import Derived.Test.YtannmdngejdjkaaLPPairLaws
namespace Go.Proofs.Ytannmdngejdjkaa.L
open Go.RowKit Go.Sort Go.Proofs.YtannmdngejdjkaaW.PrintWords Go.Proofs.YtannmdngejdjkaaW.PrintLast Go.Proofs.YtannmdngejdjkaaW.PrintMore Go.Proofs.YtannmdngejdjkaaW
set_option linter.unusedVariables false
set_option linter.unusedSimpArgs false
abbrev Tx := List UInt8
theorem upTo_snoc (zs : List Tx) (x : Tx) : ∀ n, n ≤ zs.length → Lib.compactUpTo (zs ++ [x]).toArray n = Lib.compactUpTo zs.toArray n := by
  intro n
  induction n with
  | zero => intro _; rfl
  | succ n ih =>
    intro hn
    rw [Lib.compactUpTo_succ, Lib.compactUpTo_succ, ih (by omega)]
    have e : ∀ j, j < zs.length → (zs ++ [x]).toArray[j]! = zs.toArray[j]! := fun j hj => by
      simp [getElem!_def, List.getElem?_append_left hj]
    have e2 : Lib.keeps (zs ++ [x]).toArray n = Lib.keeps zs.toArray n := by
      unfold Lib.keeps
      rw [e n (by omega), e (n - 1) (by omega)]
    rw [e2, e n (by omega)]
theorem compact_snoc (zs : List Tx) (x : Tx) : Lib.compact (zs ++ [x]) = if zs.getLast? = some x then Lib.compact zs else Lib.compact zs ++ [x] := by
  unfold Lib.compact
  rw [List.length_append, List.length_singleton, Lib.compactUpTo_succ, upTo_snoc zs x _ (Nat.le_refl _)]
  have e1 : (zs ++ [x]).toArray[zs.length]! = x := by simp [getElem!_def]
  rw [e1]
  rcases List.eq_nil_or_concat zs with rfl | ⟨p, y, rfl⟩
  · simp [Lib.keeps]
  · rw [List.concat_eq_append]
    have e2 : ((p ++ [y]) ++ [x]).toArray[(p ++ [y]).length - 1]! = y := by simp [getElem!_def]
    have hk : Lib.keeps ((p ++ [y]) ++ [x]).toArray (p ++ [y]).length = decide (x ≠ y) := by
      unfold Lib.keeps
      rw [e2]
      have e3 : ((p ++ [y]) ++ [x]).toArray[(p ++ [y]).length]! = x := by simp [getElem!_def]
      rw [e3]
      simp
    rw [hk, List.getLast?_concat]
    by_cases h : x = y
    · subst h; simp
    · have h' : ¬ y = x := fun e => h e.symm
      simp [h, h']
theorem compact_last' : ∀ (n : Nat) (zs : List Tx), zs.length = n → (Lib.compact zs).getLast? = zs.getLast?
  | 0, zs, h => by
    obtain rfl := List.eq_nil_of_length_eq_zero h
    rfl
  | n + 1, zs, h => by
    rcases List.eq_nil_or_concat zs with rfl | ⟨p, y, rfl⟩
    · rfl
    · rw [List.concat_eq_append] at *
      rw [compact_snoc]
      split
      · rename_i hl
        rw [List.getLast?_concat, ← hl]
        exact compact_last' n p (by simp at h; exact h)
      · rw [List.getLast?_concat, List.getLast?_concat]
theorem compact_last (zs : List Tx) : (Lib.compact zs).getLast? = zs.getLast? := compact_last' _ zs rfl
def tLt (a b : Tx) : Prop := Op.bytesLess a b = true
def tLe (a b : Tx) : Prop := Op.bytesLess a b = true ∨ a = b
theorem compact_spec : ∀ (n : Nat) (zs : List Tx), zs.length = n → zs.Pairwise tLe → (Lib.compact zs).Pairwise tLt ∧ (∀ x, x ∈ Lib.compact zs ↔ x ∈ zs)
  | 0, zs, h, _ => by
    obtain rfl := List.eq_nil_of_length_eq_zero h
    exact ⟨List.Pairwise.nil, fun x => Iff.rfl⟩
  | n + 1, zs, h, hp => by
    rcases List.eq_nil_or_concat zs with rfl | ⟨p, y, rfl⟩
    · simp at h
    · rw [List.concat_eq_append] at *
      have hp2 := List.pairwise_append.1 hp
      obtain ⟨h1, h2⟩ := compact_spec n p (by simp at h; exact h) hp2.1
      rw [compact_snoc]
      split
      · rename_i hl
        refine ⟨h1, fun x => ?_⟩
        rw [h2, List.mem_append, List.mem_singleton]
        constructor
        · exact .inl
        · rintro (h | h)
          · exact h
          · rw [h]; exact List.mem_of_getLast? hl
      · rename_i hl
        refine ⟨List.pairwise_append.2 ⟨h1, List.pairwise_singleton _ _, fun a ha b hb => ?_⟩, fun x => by rw [List.mem_append, h2, List.mem_append]⟩
        rw [List.mem_singleton.1 hb]
        rcases hp2.2.2 a ((h2 a).1 ha) y (List.mem_singleton.2 rfl) with h | h
        · exact h
        · subst h
          exfalso
          -- a is the last one of the compacted list too
          rcases List.eq_nil_or_concat p with rfl | ⟨q, z, rfl⟩
          · have := (h2 a).1 ha; cases this
          · rw [List.concat_eq_append] at *
            rw [List.getLast?_concat] at hl
            have hza : z ≠ a := fun e => hl (by rw [e])
            have hmem := (h2 a).1 ha
            have hzle : tLe z a := hp2.2.2 z (by simp) a (by simp)
            rcases List.mem_append.1 hmem with hm | hm
            · have haz := (List.pairwise_append.1 hp2.1).2.2 a hm z (by simp)
              rcases haz with h3 | h3
              · rcases hzle with h4 | h4
                · have := less_trans h3 h4; rw [less_irrefl] at this; cases this
                · exact hza h4
              · exact hza h3.symm
            · exact hza (List.mem_singleton.1 hm).symm
theorem tLt_ext : ∀ {l l' : List Tx}, l.Pairwise tLt → l'.Pairwise tLt → (∀ x, x ∈ l ↔ x ∈ l') → l = l'
  | [], [], _, _, _ => rfl
  | [], y :: l', _, _, h => by have := (h y).2 List.mem_cons_self; cases this
  | x :: l, [], _, _, h => by have := (h x).1 List.mem_cons_self; cases this
  | x :: l, y :: l', h1, h2, h => by
    rw [List.pairwise_cons] at h1 h2
    have irr : ∀ z, ¬ tLt z z := fun z hz => by unfold tLt at hz; rw [less_irrefl] at hz; cases hz
    have hxy : x = y := by
      rcases List.mem_cons.1 ((h x).1 List.mem_cons_self) with e | hx
      · exact e
      · rcases List.mem_cons.1 ((h y).2 List.mem_cons_self) with e | hy
        · exact e.symm
        · exact absurd (less_trans (h2.1 x hx) (h1.1 y hy)) (irr y)
    subst hxy
    rw [tLt_ext h1.2 h2.2 (fun z => ?_)]
    have hz := h z
    rw [List.mem_cons, List.mem_cons] at hz
    constructor
    · intro hm
      rcases hz.1 (.inr hm) with e | hm'
      · subst e; exact absurd (h1.1 z hm) (irr z)
      · exact hm'
    · intro hm
      rcases hz.2 (.inr hm) with e | hm'
      · subst e; exact absurd (h2.1 z hm) (irr z)
      · exact hm'
/-- among pairs of one key, the elements rise -/
theorem elemL_le {l : List Pr} (key : ByteArray) (hu : l.Pairwise pLt) : (elemL l key).Pairwise tLe := by
  unfold elemL
  rw [List.pairwise_map]
  have h1 : (l.filter (keyIs key)).Pairwise pLt := hu.sublist List.filter_sublist
  refine h1.imp_of_mem fun {a b} ha hb hab => ?_
  have ka := (List.mem_filter.1 ha).2
  have kb := (List.mem_filter.1 hb).2
  unfold keyIs at ka kb
  have e : a.f0 = b.f0 := toList_inj ((beq_iff_eq.1 ka).trans (beq_iff_eq.1 kb).symm)
  have hlt : cmpP a b < 0 := by
    have := hab
    unfold pLt ltP at this
    simpa using this
  unfold cmpP or4 at hlt
  have e0 : cS a.f0 b.f0 = 0 := (cS_ok.eq _ _).2 e
  rw [if_pos e0] at hlt
  unfold tLe
  rw [← dl_toList, ← dl_toList]
  by_cases h2 : cS a.f1 b.f1 = 0
  · right
    rw [(cS_ok.eq _ _).1 h2]
  · rw [if_neg h2] at hlt
    exact .inl (cS_neg.1 hlt)
def elemC (l : List Pr) (key : ByteArray) : List Tx := Lib.compact (elemL l key)
theorem elemsP_eq (l : List Pr) (key : ByteArray) : elemsP l key = (elemC l key).map fun b => ⟨b.toArray⟩ := rfl
theorem elemC_spec {l : List Pr} (key : ByteArray) (hu : l.Pairwise pLt) : (elemC l key).Pairwise tLt ∧ ∀ x, x ∈ elemC l key ↔ ∃ p ∈ l, p.f0 = key ∧ p.f1.data.toList = x := by
  obtain ⟨h1, h2⟩ := compact_spec _ (elemL l key) rfl (elemL_le key hu)
  refine ⟨h1, fun x => ?_⟩
  unfold elemC
  rw [h2]
  unfold elemL
  simp only [List.mem_map, List.mem_filter]
  constructor
  · rintro ⟨p, ⟨hp, hk⟩, rfl⟩
    exact ⟨p, hp, toList_inj (beq_iff_eq.1 hk), rfl⟩
  · rintro ⟨p, hp, rfl, rfl⟩
    exact ⟨p, ⟨hp, by unfold keyIs; simp⟩, rfl⟩
theorem elemC_len (l : List Pr) (key : ByteArray) : (elemC l key).length ≤ l.length := Nat.le_trans (compact_len _) (elemL_len l key)
/-- of a list that rises, without one that is in it -/
theorem erase_len : ∀ {l : List Tx} {x : Tx}, l.Pairwise tLt → x ∈ l → l.length = (l.filter fun y => decide (y ≠ x)).length + 1
  | [], x, _, h => by cases h
  | y :: l, x, hp, h => by
    rw [List.pairwise_cons] at hp
    by_cases e : y = x
    · subst e
      have : l.filter (fun z => decide (z ≠ y)) = l := by
        rw [List.filter_eq_self]
        intro a ha
        have := hp.1 a ha
        rw [decide_eq_true_eq]
        intro e
        rw [e] at this
        unfold tLt at this; rw [less_irrefl] at this; cases this
      rw [List.filter_cons_of_neg (by simp), this, List.length_cons]
    · have hm : x ∈ l := by
        rcases List.mem_cons.1 h with h | h
        · exact absurd h.symm e
        · exact h
      have ih := erase_len hp.2 hm
      rw [List.filter_cons_of_pos (by simpa using e), List.length_cons, List.length_cons, ih]
end Go.Proofs.Ytannmdngejdjkaa.L
