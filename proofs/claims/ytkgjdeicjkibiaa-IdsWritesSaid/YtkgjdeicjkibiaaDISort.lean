/- slices.SortFunc at ids, by ids.order: one sorted list, whatever order they stood in. By the shelf's contract; no walk. -/
import Derived.Test.YtkgjdeicjkibiaaDICmp
import Derived.Test.YtkgjdeicjkibiaaDIKey
import Derived.Test.YtkgjdeicjkibiaaShelfQ
import Derived.Sort.OwnSorted
namespace Go.Proofs.Ytkgjdeicjkibiaa.D
open Go.RowKit Go.Maps Go.Sort Go.Lib Go.Proofs.YtkgjdeicjkibiaaW.PrintWords Go.Proofs.YtkgjdeicjkibiaaW.PrintLast Go.Proofs.YtkgjdeicjkibiaaW.PrintMore Go.Proofs.YtkgjdeicjkibiaaW
set_option linter.unusedVariables false
set_option linter.unusedSimpArgs false
section
variable {α : Type} {enc : α → List Value} {sz : Nat}
theorem flat_length (hl : ∀ x, (enc x).length = sz) : ∀ ps : List α, (ps.flatMap enc).length = ps.length * sz
  | [] => by simp
  | x :: ps => by
    rw [List.flatMap_cons, List.length_append, hl, flat_length hl ps, List.length_cons, Nat.add_mul, Nat.one_mul, Nat.add_comm]
end
abbrev IdS := {x : Id // okId x}
def encS (x : IdS) : List Value := cellsI x.1
theorem encS_length (x : IdS) : (encS x).length = 32 := cellsI_ok x.2
theorem encS_one : ∀ (p : IdS), ∀ u ∈ encS p, u.oneCell' = true := fun p => cellsI_one p.1
def cmpS (x y : IdS) : Int := cmpI x.1 y.1
theorem ltOf_S (x y : IdS) : ltOf cmpS x y = ltI x.1 y.1 := by
  unfold ltOf cmpS cmpI
  cases h : ltI x.1 y.1 with
  | true => rfl
  | false => cases h2 : ltI y.1 x.1 <;> rfl
theorem ltS_tot (x y : IdS) (h1 : ltOf cmpS x y = false) (h2 : ltOf cmpS y x = false) : x = y := by
  rw [ltOf_S] at h1 h2
  exact Subtype.ext (ltI_total h1 h2)
theorem ltS_swo : SWO (ltOf cmpS) where
  irrefl x := by rw [ltOf_S]; exact ltI_irrefl _
  trans x y z h1 h2 := by rw [ltOf_S] at *; exact ltI_trans h1 h2
  ntrans x y z h1 h2 := by
    rw [ltOf_S] at *
    cases h : ltI x.1 z.1 with
    | false => rfl
    | true =>
      cases h3 : ltI y.1 x.1 with
      | true => rw [ltI_trans h3 h] at h2; cases h2
      | false =>
        have e := ltI_total h1 h3
        rw [e] at h
        rw [h] at h2; cases h2
def sortS (l : List IdS) : List IdS := l.mergeSort fun x y => !(ltOf cmpS) y x
abbrev rowS (l : List IdS) : List Value := l.flatMap encS
instance : Inhabited IdS := ⟨⟨List.replicate 32 0, rfl⟩⟩
theorem cmpLaysI (blk off size : Nat) (w : World) : CmpLays Try.prog 37 #[] encS 32 cmpS blk off size w :=
  fun _ _ _ _ x y => order_exact x.2 y.2 _
theorem flat_at : ∀ (l : List IdS) (t : Nat), t < l.length * 32 → (rowS l)[t]? = (encS (l.toArray[t / 32]!))[t % 32]?
  | [], t, h => by simp at h
  | p :: l, t, h => by
    rw [rowS, List.flatMap_cons]
    rcases Nat.lt_or_ge t 32 with h4 | h4
    · rw [List.getElem?_append_left (by rw [encS_length]; exact h4)]
      have e1 : t / 32 = 0 := by omega
      have e2 : t % 32 = t := by omega
      rw [e1, e2]; simp
    · rw [List.getElem?_append_right (by rw [encS_length]; exact h4), encS_length]
      have e1 : t / 32 = (t - 32) / 32 + 1 := by omega
      have e2 : t % 32 = (t - 32) % 32 := by omega
      have ih := flat_at l (t - 32) (by simp at h; omega)
      rw [ih, e1, e2]
      congr 2
      simp [getElem!_def]
theorem flatK_row (l : List IdS) : flatK encS 32 l.toArray = (rowS l).toArray := by
  have hl : (rowS l).length = l.length * 32 := flat_length (enc := encS) (sz := 32) encS_length l
  refine ext_get! (by simp [hl]) fun t ht => ?_
  have ht' : t < l.length * 32 := by simpa using ht
  rw [get_flatK _ _ _ t (by simpa using ht')]
  have h1 := flat_at l t ht'
  have h2 : t < (rowS l).length := by rw [hl]; exact ht'
  rw [getElem!_pos _ t (by simpa using h2)]
  have h3 : t % 32 < (encS (l.toArray[t / 32]!)).length := by rw [encS_length]; omega
  rw [getElem!_pos _ (t % 32) h3]
  rw [List.getElem?_eq_getElem h2, List.getElem?_eq_getElem h3] at h1
  simpa using h1.symm
theorem holds_id {w : World} {g : Nat} {cur : Array Value} {e : TypeId} {F : List Value} (hb : w.heap[g]? = some (.cells cur e (0, 0))) (ht : cur.toList.take F.length = F) : Holds id w g 0 F.toArray := by
  intro j hj
  have hj' : j < F.length := by simpa using hj
  refine ⟨?_, by simp [World.frozen?, hb]⟩
  have h1 : (cur.toList.take F.length)[j]? = F[j]? := by rw [ht]
  rw [List.getElem?_take_of_lt hj'] at h1
  simp only [World.cell?, hb, Nat.zero_add]
  simp only [Option.isSome_none, Bool.false_eq_true, if_false]
  rw [← Array.getElem?_toList, h1]
  simp [hj']
theorem heap_put_id {w : World} {g n : Nat} {os : Array Obj} {cur : Array Value} {e : TypeId} {fr : Nat × Nat} (d : Array Value) (hb : w.heap[g]? = some (.cells cur e fr)) :
    (grow (putRow id (Sort.ahead w n) g 0 d) os).heap[g]? = some (.cells (putCells id 0 d cur) e fr) := by
  have hg : g < w.heap.size := (Array.getElem?_eq_some_iff.1 hb).1
  rw [heap_grow_old _ _ (by simpa using hg)]
  simp [putRow, mapBlock, Sort.ahead, Array.getElem?_modify, hb, onCells]
theorem grown_put_id {w : World} {g n : Nat} {os : Array Obj} (d : Array Value) : w.grownBy (grow (putRow id (Sort.ahead w n) g 0 d) os) (some g) := by
  refine ⟨rfl, rfl, rfl, by simp, fun k hk hne => ?_⟩
  rw [heap_grow_old _ _ (by simpa using hk)]
  have : g ≠ k := fun e => hne (by rw [e])
  simp [putRow, mapBlock, Sort.ahead, Array.getElem?_modify, this]
theorem take_put_id (cur : Array Value) (F : List Value) (h : F.length ≤ cur.size) : (putCells id 0 F.toArray cur).toList.take F.length = F := by
  apply List.ext_getElem?
  intro j
  by_cases hj : j < F.length
  · rw [List.getElem?_take_of_lt hj, Array.getElem?_toList]
    simp [putCells, hj, show j < cur.size by omega]
  · rw [List.getElem?_take_eq_none (by omega), List.getElem?_eq_none (by omega)]
theorem sortS_length (l : List IdS) : (sortS l).length = l.length := List.length_mergeSort l
abbrev rowI (l : List Id) : List Value := l.flatMap cellsI
theorem rowI_length {l : List Id} (h : ∀ x ∈ l, okId x) : (rowI l).length = l.length * 32 := by
  induction l with
  | nil => rfl
  | cons x l ih =>
    have h1 := ih (fun y hy => h y (List.mem_cons_of_mem _ hy))
    unfold rowI at h1 ⊢
    rw [List.flatMap_cons, List.length_append, cellsI_ok (h x List.mem_cons_self), h1, List.length_cons]; omega
def toS (l : List Id) (h : ∀ x ∈ l, okId x) : List IdS := l.pmap (fun x hx => ⟨x, hx⟩) h
theorem toS_val (l : List Id) (h : ∀ x ∈ l, okId x) : (toS l h).map Subtype.val = l := by
  unfold toS
  rw [List.map_pmap]
  simp
theorem rowS_val (l : List IdS) : rowS l = rowI (l.map Subtype.val) := by
  unfold rowS rowI
  rw [List.flatMap_map]
  rfl
theorem sortS_val (l : List Id) (h : ∀ x ∈ l, okId x) (hn : l.Nodup) : (sortS (toS l h)).map Subtype.val = sortI l := by
  have hperm : (sortS (toS l h)).Perm (toS l h) := List.mergeSort_perm _ _
  have hnS : (toS l h).Nodup := by
    have : ((toS l h).map Subtype.val).Nodup := by rw [toS_val]; exact hn
    exact (List.pairwise_map.1 this).imp fun {a b} hab e => hab (by rw [e])
  have hns : (sortS (toS l h)).Nodup := hperm.nodup_iff.2 hnS
  have hp : (sortS (toS l h)).Pairwise (fun x y => (!(ltOf cmpS) y x) = true) := by
    refine List.pairwise_mergeSort ?_ ?_ _
    · intro a b c h1 h2
      simp only [Bool.not_eq_true'] at *
      exact ltS_swo.ntrans c b a h2 h1
    · intro a b
      simp only [Bool.or_eq_true, Bool.not_eq_true']
      cases h : ltOf cmpS b a with
      | false => exact .inl rfl
      | true =>
        right
        rw [ltOf_S] at h ⊢
        exact ltI_asymm h
  refine up_ext ?_ (up_sortI l) fun x => ?_
  · unfold UpI
    rw [List.pairwise_map]
    refine (hp.and hns).imp fun {a b} hab => ?_
    have h1 := hab.1
    rw [Bool.not_eq_true', ltOf_S] at h1
    cases h2 : ltI a.1 b.1 with
    | true => rfl
    | false => exact absurd (Subtype.ext (ltI_total h2 h1)) hab.2
  · rw [mem_sortI, (hperm.map Subtype.val).mem_iff, toS_val]
/-- slices.SortFunc at ids -/
theorem sort_ids (base : Nat) (A : Option Addr) (c : Nat) (ks : List Id) (hok : ∀ x ∈ ks, okId x) (hn : ks.Nodup) (w : World) (hrow : w.ownsRow base 23 32 (.slice A ks.length c) ks.length (rowI ks)) (hlt : ks.length < 4611686018427387904) :
    Calls Try.prog 42 #[.slice A ks.length c, .func (.func 37) #[] #[]] w fun e w' => e = .returned (.tuple #[]) ∧ w'.ownsRow base 23 32 (.slice A ks.length c) ks.length (rowI (sortI ks)) ∧ w.grownBy w' (Value.slice A ks.length c).ownBlock := by
  rcases Nat.eq_zero_or_pos ks.length with h0 | hpos
  · obtain rfl := List.eq_nil_of_length_eq_zero h0
    have h := AnyF.slices_SortFunc_none Try.sortI A c (.func (.func 37) #[] #[]) w
    refine Calls.mono h ?_
    rintro e w' ⟨rfl, rfl⟩
    exact ⟨rfl, hrow, World.grownBy.refl _ _⟩
  · rcases hrow.2 with ⟨hnil, h0⟩ | ⟨g, cap, cur, he, hbase, hb, h1, h2, h3, h4⟩
    · injection hnil with _ hn _; omega
    · cases he
      have eS := toS_val ks hok
      have hlS : (toS ks hok).length = ks.length := by have := congrArg List.length eS; rwa [List.length_map] at this
      have eR : rowS (toS ks hok) = rowI ks := by rw [rowS_val, eS]
      have eT : rowS (sortS (toS ks hok)) = rowI (sortI ks) := by rw [rowS_val, sortS_val ks hok hn]
      have hl : (rowS (toS ks hok)).length = ks.length * 32 := by rw [flat_length (enc := encS) (sz := 32) encS_length, hlS]
      have hl2 : (rowS (sortS (toS ks hok))).length = ks.length * 32 := by rw [flat_length (enc := encS) (sz := 32) encS_length, sortS_length, hlS]
      rw [← eR] at h4
      rw [← eT]
      have hH : HoldsK encS 32 w g 0 (toS ks hok).toArray := by
        unfold HoldsK
        rw [flatK_row]
        exact holds_id hb (by rw [hl]; exact h4)
      have hgl : g < w.heap.size := blk_lt hb
      have eg : ∀ args w, (callFunc 37 args).run Try.prog w = .ok (.enter 37 args) w := enters_of Try.func37 (by kernel_rfl) rfl
      have h := AnyQ.slices_SortFunc_total Try.sortI 32 Try.isAgg23 Try.sizeOf23 encS encS_length encS_one cmpS ltS_swo 37 #[] g 0 c (toS ks hok).toArray w eg (cmpLaysI g 0 _ w) hH hgl (by rw [List.size_toArray, hlS]; exact hlt) ltS_tot
      rw [List.size_toArray, hlS] at h
      refine Calls.mono h ?_
      rintro e w' ⟨rfl, nn, os, rfl⟩
      have hs : sortWorldK encS 32 w g 0 nn ((toS ks hok).toArray.toList.mergeSort fun x y => !(ltOf cmpS) y x).toArray os = grow (putRow id (Sort.ahead w nn) g 0 (rowS (sortS (toS ks hok))).toArray) os := by
        unfold sortWorldK putRowK
        rw [flatK_row]; rfl
      rw [hs]
      refine ⟨rfl, ⟨hl2, .inr ⟨g, c, _, rfl, hbase, heap_put_id _ hb, h1, h2, by simp [putCells, h3], ?_⟩⟩, grown_put_id _⟩
      rw [← hl2]
      exact take_put_id cur _ (by rw [hl2, h3]; exact Nat.mul_le_mul_right 32 h1)
end Go.Proofs.Ytkgjdeicjkibiaa.D
