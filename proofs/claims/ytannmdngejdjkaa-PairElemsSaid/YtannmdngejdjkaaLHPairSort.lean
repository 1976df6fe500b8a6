/- slices.SortFunc at pairs, by pair.order: one sorted list, whatever order they stood in. By the shelf's contract; no walk. -/
import Derived.Test.YtannmdngejdjkaaLHPairOrd
import Derived.Test.YtannmdngejdjkaaLHFlat
import Derived.Test.YtannmdngejdjkaaShelfQ
import Derived.Sort.OwnSorted
namespace Go.Proofs.Ytannmdngejdjkaa.L
open Go.RowKit Go.Maps Go.Sort Go.Lib Go.Proofs.YtannmdngejdjkaaW.PrintWords Go.Proofs.YtannmdngejdjkaaW.PrintLast Go.Proofs.YtannmdngejdjkaaW.PrintMore Go.Proofs.YtannmdngejdjkaaW
set_option linter.unusedVariables false
set_option linter.unusedSimpArgs false
/-- what tells which one of two comes first -/
structure CmpOk {α : Type} (f : α → α → Int) : Prop where
  eq : ∀ x y, f x y = 0 ↔ x = y
  anti : ∀ x y, f x y < 0 ↔ 0 < f y x
  trans : ∀ x y z, f x y < 0 → f y z < 0 → f x z < 0
theorem cmpOk_lex {α β : Type} {f : α → α → Int} {g : β → β → Int} (hf : CmpOk f) (hg : CmpOk g) : CmpOk (fun (x y : α × β) => if f x.1 y.1 = 0 then g x.2 y.2 else f x.1 y.1) where
  eq x y := by
    split
    · rename_i h
      have h1 := (hf.eq _ _).1 h
      rw [hg.eq]
      exact ⟨fun h2 => Prod.ext h1 h2, fun h2 => by rw [h2]⟩
    · rename_i h
      exact ⟨fun h2 => absurd h2 h, fun h2 => absurd ((hf.eq _ _).2 (by rw [h2])) h⟩
  anti x y := by
    have e : f x.1 y.1 = 0 ↔ f y.1 x.1 = 0 := by rw [hf.eq, hf.eq]; exact ⟨Eq.symm, Eq.symm⟩
    by_cases h : f x.1 y.1 = 0
    · rw [if_pos h, if_pos (e.1 h)]; exact hg.anti _ _
    · rw [if_neg h, if_neg (fun h2 => h (e.2 h2))]; exact hf.anti _ _
  trans x y z h1 h2 := by
    by_cases a : f x.1 y.1 = 0
    · rw [if_pos a] at h1
      have a' := (hf.eq _ _).1 a
      rw [a']
      by_cases b : f y.1 z.1 = 0
      · rw [if_pos b] at h2 ⊢
        exact hg.trans _ _ _ h1 h2
      · rw [if_neg b] at h2 ⊢
        exact h2
    · rw [if_neg a] at h1
      by_cases b : f y.1 z.1 = 0
      · have b' := (hf.eq _ _).1 b
        rw [← b', if_neg a]
        exact h1
      · rw [if_neg b] at h2
        have h3 := hf.trans _ _ _ h1 h2
        rw [if_neg (by omega)]
        exact h3
theorem cmpOk_map {α β : Type} {f : β → β → Int} (t : α → β) (ht : ∀ x y, t x = t y → x = y) (hf : CmpOk f) : CmpOk (fun x y => f (t x) (t y)) where
  eq x y := by rw [hf.eq]; exact ⟨ht x y, fun h => by rw [h]⟩
  anti x y := hf.anti _ _
  trans x y z h1 h2 := hf.trans _ _ _ h1 h2
theorem cI_ok : CmpOk cI where
  eq x y := by unfold cI; split <;> (try split) <;> omega
  anti x y := by unfold cI; split <;> (try split) <;> (try split) <;> omega
  trans x y z h1 h2 := by
    unfold cI at *
    have a : x < y := by
      by_cases h : x < y
      · exact h
      · rw [if_neg h] at h1; split at h1 <;> omega
    have b : y < z := by
      by_cases h : y < z
      · exact h
      · rw [if_neg h] at h2; split at h2 <;> omega
    rw [if_pos (by omega)]; omega
theorem cS_neg {x y : ByteArray} : cS x y < 0 ↔ Op.bytesLess x.toList y.toList = true := by
  unfold cS
  split
  · rename_i h; simp [h]
  · split <;> simp_all
theorem cS_ok : CmpOk cS where
  eq x y := by
    constructor
    · intro h
      unfold cS at h
      split at h
      · omega
      · rename_i h1
        split at h
        · omega
        · rename_i h2
          exact toList_inj (less_antisymm (by simpa using h1) (by simpa using h2))
    · intro h
      subst h
      unfold cS
      rw [less_irrefl]; simp
  anti x y := by
    rw [cS_neg]
    unfold cS
    constructor
    · intro h
      rw [less_asymm h]; simp [h]
    · intro h
      split at h
      · omega
      · split at h
        · assumption
        · omega
  trans x y z h1 h2 := by
    rw [cS_neg] at *
    exact less_trans h1 h2
theorem cmpP_ok : CmpOk cmpP := by
  have h := cmpOk_map (fun (x : Pr) => (x.f0, (x.f1, (x.f2.f0, x.f2.f1)))) (fun x y h => by
    obtain ⟨a, b, c, d⟩ := x
    obtain ⟨a', b', c', d'⟩ := y
    simp at h
    obtain ⟨rfl, rfl, rfl, rfl⟩ := h
    rfl) (cmpOk_lex cS_ok (cmpOk_lex cS_ok (cmpOk_lex cI_ok cI_ok)))
  have e : cmpP = fun (x y : Pr) => if cS x.f0 y.f0 = 0 then if cS x.f1 y.f1 = 0 then if cI x.f2.f0 y.f2.f0 = 0 then cI x.f2.f1 y.f2.f1 else cI x.f2.f0 y.f2.f0 else cS x.f1 y.f1 else cS x.f0 y.f0 := rfl
  rw [e]
  exact h
theorem ltP_swo : SWO (ltOf cmpP) where
  irrefl x := by
    unfold ltOf
    have := (cmpP_ok.eq x x).2 rfl
    simp [this]
  trans x y z h1 h2 := by
    unfold ltOf at *
    simp only [decide_eq_true_eq] at *
    exact cmpP_ok.trans x y z h1 h2
  ntrans x y z h1 h2 := by
    unfold ltOf at *
    simp only [decide_eq_false_iff_not] at *
    intro h
    rcases Int.lt_trichotomy (cmpP y z) 0 with q | q | q
    · exact h2 q
    · rw [(cmpP_ok.eq y z).1 q] at h1; exact h1 h
    · have q' := (cmpP_ok.anti z y).2 q
      exact h1 (cmpP_ok.trans x z y h q')
theorem ltP_tot (x y : Pr) (h1 : ltOf cmpP x y = false) (h2 : ltOf cmpP y x = false) : x = y := by
  unfold ltOf at *
  simp only [decide_eq_false_iff_not] at *
  rcases Int.lt_trichotomy (cmpP x y) 0 with q | q | q
  · exact absurd q h1
  · exact (cmpP_ok.eq x y).1 q
  · exact absurd ((cmpP_ok.anti y x).2 q) h2
/-- pairs, sorted -/
def sortP (l : List Pr) : List Pr := l.mergeSort fun x y => !(ltOf cmpP) y x
theorem pairCells_length (p : Pr) : (pairCells p).length = 4 := rfl
theorem pairCells_one : ∀ (p : Pr), ∀ u ∈ pairCells p, u.oneCell' = true := by
  intro p u hu
  simp [pairCells] at hu
  rcases hu with rfl | rfl | rfl | rfl <;> rfl
abbrev pairRow (l : List Pr) : List Value := l.flatMap pairCells
theorem cmpLaysP (blk off size : Nat) (w : World) : CmpLays Try.prog 85 #[] pairCells 4 cmpP blk off size w :=
  fun _ _ _ _ x y => order_exact x y _
instance : Inhabited Pr := ⟨⟨ByteArray.empty, ByteArray.empty, ⟨0, 0⟩⟩⟩
theorem flat_at : ∀ (l : List Pr) (t : Nat), t < l.length * 4 → (pairRow l)[t]? = (pairCells (l.toArray[t / 4]!))[t % 4]?
  | [], t, h => by simp at h
  | p :: l, t, h => by
    rw [pairRow, List.flatMap_cons]
    rcases Nat.lt_or_ge t 4 with h4 | h4
    · rw [List.getElem?_append_left (by rw [pairCells_length]; exact h4)]
      have e1 : t / 4 = 0 := by omega
      have e2 : t % 4 = t := by omega
      rw [e1, e2]; simp
    · rw [List.getElem?_append_right (by rw [pairCells_length]; exact h4), pairCells_length]
      have e1 : t / 4 = (t - 4) / 4 + 1 := by omega
      have e2 : t % 4 = (t - 4) % 4 := by omega
      have ih := flat_at l (t - 4) (by simp at h; omega)
      rw [ih, e1, e2]
      congr 2
      simp [getElem!_def]
theorem flatK_row (l : List Pr) : flatK pairCells 4 l.toArray = (pairRow l).toArray := by
  have hl : (pairRow l).length = l.length * 4 := flat_length (enc := pairCells) (sz := 4) (fun _ => rfl) l
  refine ext_get! (by simp [hl]) fun t ht => ?_
  have ht' : t < l.length * 4 := by simpa using ht
  rw [get_flatK _ _ _ t (by simpa using ht')]
  have h1 := flat_at l t ht'
  have h2 : t < (pairRow l).length := by rw [hl]; exact ht'
  rw [getElem!_pos _ t (by simpa using h2)]
  have h3 : t % 4 < (pairCells (l.toArray[t / 4]!)).length := by rw [pairCells_length]; omega
  rw [getElem!_pos _ (t % 4) h3]
  rw [List.getElem?_eq_getElem h2, List.getElem?_eq_getElem h3] at h1
  simpa using h1.symm
theorem holds_id {w : World} {g : Nat} {cur : Array Value} {e : TypeId} {F : List Value} (hb : w.heap[g]? = some (.cells cur e (0, 0))) (ht : cur.toList.take F.length = F) : Holds id w g 0 F.toArray := by
  intro j hj
  have hj' : j < F.length := by simpa using hj
  refine ⟨?_, by simp [World.frozen?, hb]⟩
  have h1 : (cur.toList.take F.length)[j]? = F[j]? := by rw [ht]
  rw [List.getElem?_take_of_lt hj'] at h1
  simp only [World.cell?, hb, Nat.zero_add]
  simp only [Option.isSome_none, Bool.false_eq_true, if_false]
  rw [← Array.getElem?_toList, h1]
  simp [hj']
theorem heap_put_id {w : World} {g n : Nat} {os : Array Obj} {cur : Array Value} {e : TypeId} {fr : Nat × Nat} (d : Array Value) (hb : w.heap[g]? = some (.cells cur e fr)) :
    (grow (putRow id (Sort.ahead w n) g 0 d) os).heap[g]? = some (.cells (putCells id 0 d cur) e fr) := by
  have hg : g < w.heap.size := (Array.getElem?_eq_some_iff.1 hb).1
  rw [heap_grow_old _ _ (by simpa using hg)]
  simp [putRow, mapBlock, Sort.ahead, Array.getElem?_modify, hb, onCells]
theorem grown_put_id {w : World} {g n : Nat} {os : Array Obj} (d : Array Value) : w.grownBy (grow (putRow id (Sort.ahead w n) g 0 d) os) (some g) := by
  refine ⟨rfl, rfl, rfl, by simp, fun k hk hne => ?_⟩
  rw [heap_grow_old _ _ (by simpa using hk)]
  have : g ≠ k := fun e => hne (by rw [e])
  simp [putRow, mapBlock, Sort.ahead, Array.getElem?_modify, this]
theorem take_put_id (cur : Array Value) (F : List Value) (h : F.length ≤ cur.size) : (putCells id 0 F.toArray cur).toList.take F.length = F := by
  apply List.ext_getElem?
  intro j
  by_cases hj : j < F.length
  · rw [List.getElem?_take_of_lt hj, Array.getElem?_toList]
    simp [putCells, hj, show j < cur.size by omega]
  · rw [List.getElem?_take_eq_none (by omega), List.getElem?_eq_none (by omega)]
theorem sortP_length (l : List Pr) : (sortP l).length = l.length := List.length_mergeSort l
/-- slices.SortFunc at pairs -/
theorem sort_pairs (base : Nat) (A : Option Addr) (c : Nat) (ks : List Pr) (w : World) (hrow : w.ownsRow base 57 4 (.slice A ks.length c) ks.length (pairRow ks)) (hlt : ks.length < 4611686018427387904) :
    Calls Try.prog 93 #[.slice A ks.length c, .func (.func 85) #[] #[]] w fun e w' => e = .returned (.tuple #[]) ∧ w'.ownsRow base 57 4 (.slice A ks.length c) ks.length (pairRow (sortP ks)) ∧ w.grownBy w' (Value.slice A ks.length c).ownBlock := by
  rcases Nat.eq_zero_or_pos ks.length with h0 | hpos
  · obtain rfl := List.eq_nil_of_length_eq_zero h0
    have h := AnyF.slices_SortFunc_none Try.sortP A c (.func (.func 85) #[] #[]) w
    refine Calls.mono h ?_
    rintro e w' ⟨rfl, rfl⟩
    have e : sortP [] = [] := List.eq_nil_of_length_eq_zero (by rw [sortP_length]; rfl)
    rw [e]
    exact ⟨rfl, hrow, World.grownBy.refl _ _⟩
  · rcases hrow.2 with ⟨hnil, h0⟩ | ⟨g, cap, cur, he, hbase, hb, h1, h2, h3, h4⟩
    · injection hnil with _ hn _; omega
    · cases he
      have hl : (pairRow ks).length = ks.length * 4 := flat_length (enc := pairCells) (sz := 4) (fun _ => rfl) ks
      have hl2 : (pairRow (sortP ks)).length = ks.length * 4 := by rw [flat_length (enc := pairCells) (sz := 4) (fun _ => rfl) (sortP ks), sortP_length]
      have hH : HoldsK pairCells 4 w g 0 ks.toArray := by
        unfold HoldsK
        rw [flatK_row]
        exact holds_id hb (by rw [hl]; exact h4)
      have hgl : g < w.heap.size := blk_lt hb
      have eg : ∀ args w, (callFunc 85 args).run Try.prog w = .ok (.enter 85 args) w := enters_of Try.func85 (by kernel_rfl) rfl
      have h := AnyQ.slices_SortFunc_total Try.sortP 4 Try.isAgg57 Try.sizeOf57 pairCells (fun _ => rfl) pairCells_one cmpP ltP_swo 85 #[] g 0 c ks.toArray w eg (cmpLaysP g 0 _ w) hH hgl hlt ltP_tot
      refine Calls.mono h ?_
      rintro e w' ⟨rfl, nn, os, rfl⟩
      have hs : sortWorldK pairCells 4 w g 0 nn (ks.toArray.toList.mergeSort fun x y => !(ltOf cmpP) y x).toArray os = grow (putRow id (Sort.ahead w nn) g 0 (pairRow (sortP ks)).toArray) os := by
        unfold sortWorldK putRowK
        rw [flatK_row]; rfl
      rw [hs]
      refine ⟨rfl, ⟨hl2, .inr ⟨g, c, _, rfl, hbase, heap_put_id _ hb, h1, h2, by simp [putCells, h3], ?_⟩⟩, grown_put_id _⟩
      rw [← hl2]
      exact take_put_id cur _ (by rw [hl2, h3]; exact Nat.mul_le_mul_right 4 h1)
end Go.Proofs.Ytannmdngejdjkaa.L
