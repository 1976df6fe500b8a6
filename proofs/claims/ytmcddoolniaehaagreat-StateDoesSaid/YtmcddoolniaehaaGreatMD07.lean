/- Several of the walk's texts in one: ShelfQ, SHPairSort, SHPairOf, SHPairList. -/
import Derived.Shelf.SlSortCmp.WholeK
import Derived.Shelf.SlSortCmp.NoneTotal
import Derived.Test.YtmcddoolniaehaaGreatProg
import Derived.Sort.OwnSorted
import Derived.RegionTactic
import Derived.Deep.RegionLaw
import Derived.Maps.RangeWalk
import Derived.Sort.KeysCollected
import Derived.OwnWalk
import Derived.Test.YtmcddoolniaehaaGreatMD04
import Derived.Test.YtmcddoolniaehaaGreatMD06
section
namespace Go.Proofs
open Go.Shelf
def Tryz.sortP_ren : Go.Shelf.Ren := ⟨fun | 6 => 114 | 15 => 126 | 14 => 125 | 28 => 144 | 29 => 145 | 20 => 136 | 21 => 137 | 22 => 138 | 23 => 139 | 24 => 140 | 25 => 141 | 26 => 142 | 27 => 143 | 46 => 158 | 47 => 159 | 48 => 160 | 49 => 161 | 50 => 162 | 57 => 167 | n => n, fun | 22 => 24 | 24 => 43 | 25 => 130 | 3 => 3 | 39 => 115 | 0 => 0 | 53 => 159 | 55 => 76 | 4 => 4 | 46 => 153 | 45 => 152 | 50 => 139 | 5 => 5 | 9 => 9 | 66 => 167 | 70 => 171 | 76 => 176 | 77 => 177 | n => n, fun | n => n⟩
theorem Tryz.sortP : Go.Proofs.SlLaysF0.n6 Tryz.prog Tryz.sortP_ren := {
  mixed := by kernel_rfl
  f6 := ⟨Tryz.f114.name, by decide, Tryz.func114.trans (congrArg some (by kernel_rfl))⟩
  f14 := ⟨Tryz.f125.name, by decide, Tryz.func125.trans (congrArg some (by kernel_rfl))⟩
  f15 := Tryz.func126.trans (congrArg some (by kernel_rfl))
  f20 := ⟨Tryz.f136.name, by decide, Tryz.func136.trans (congrArg some (by kernel_rfl))⟩
  f21 := ⟨Tryz.f137.name, by decide, Tryz.func137.trans (congrArg some (by kernel_rfl))⟩
  f22 := ⟨Tryz.f138.name, by decide, Tryz.func138.trans (congrArg some (by kernel_rfl))⟩
  f23 := ⟨Tryz.f139.name, by decide, Tryz.func139.trans (congrArg some (by kernel_rfl))⟩
  f24 := ⟨Tryz.f140.name, by decide, Tryz.func140.trans (congrArg some (by kernel_rfl))⟩
  f25 := ⟨Tryz.f141.name, by decide, Tryz.func141.trans (congrArg some (by kernel_rfl))⟩
  f26 := ⟨Tryz.f142.name, by decide, Tryz.func142.trans (congrArg some (by kernel_rfl))⟩
  f27 := ⟨Tryz.f143.name, by decide, Tryz.func143.trans (congrArg some (by kernel_rfl))⟩
  f28 := Tryz.func144.trans (congrArg some (by kernel_rfl))
  f29 := Tryz.func145.trans (congrArg some (by kernel_rfl))
  f46 := ⟨Tryz.f158.name, by decide, Tryz.func158.trans (congrArg some (by kernel_rfl))⟩
  f47 := Tryz.func159.trans (congrArg some (by kernel_rfl))
  f48 := Tryz.func160.trans (congrArg some (by kernel_rfl))
  f49 := ⟨Tryz.f161.name, by decide, Tryz.func161.trans (congrArg some (by kernel_rfl))⟩
  f50 := ⟨Tryz.f162.name, by decide, Tryz.func162.trans (congrArg some (by kernel_rfl))⟩
  f57 := ⟨Tryz.f167.name, by decide, Tryz.func167.trans (congrArg some (by kernel_rfl))⟩
  t0 := Tryz.underlying0
  a0 := Tryz.isAgg0
  z0 := Tryz.sizeOf0
  v0 := Tryz.zeroValue0
  t3 := Tryz.underlying3
  a3 := Tryz.isAgg3
  z3 := Tryz.sizeOf3
  v3 := Tryz.zeroValue3
  t4 := Tryz.underlying4
  a4 := Tryz.isAgg4
  z4 := Tryz.sizeOf4
  v4 := Tryz.zeroValue4
  t5 := Tryz.underlying5
  a5 := Tryz.isAgg5
  z5 := Tryz.sizeOf5
  v5 := Tryz.zeroValue5
  t9 := Tryz.underlying9
  a9 := Tryz.isAgg9
  z9 := Tryz.sizeOf9
  v9 := Tryz.zeroValue9
  t22 := Tryz.underlying24
  a22 := Tryz.isAgg24
  z22 := Tryz.sizeOf24
  v22 := Tryz.zeroValue24
  t25 := Tryz.underlying130
  a25 := Tryz.isAgg130
  z25 := Tryz.sizeOf130
  v25 := Tryz.zeroValue130
  t39 := Tryz.underlying115
  a39 := Tryz.isAgg115
  z39 := Tryz.sizeOf115
  v39 := Tryz.zeroValue115
  t45 := Tryz.underlying152
  a45 := Tryz.isAgg152
  z45 := Tryz.sizeOf152
  v45 := Tryz.zeroValue152
  t46 := Tryz.underlying153
  a46 := Tryz.isAgg153
  z46 := Tryz.sizeOf153
  v46 := Tryz.zeroValue153
  t50 := Tryz.underlying139
  a50 := Tryz.isAgg139
  z50 := Tryz.sizeOf139
  v50 := Tryz.zeroValue139
  t53 := Tryz.underlying159
  a53 := Tryz.isAgg159
  z53 := Tryz.sizeOf159
  v53 := Tryz.zeroValue159
  t55 := Tryz.underlying76
  a55 := Tryz.isAgg76
  z55 := Tryz.sizeOf76
  v55 := Tryz.zeroValue76
  t66 := Tryz.underlying167
  a66 := Tryz.isAgg167
  z66 := Tryz.sizeOf167
  v66 := Tryz.zeroValue167
  t70 := Tryz.underlying171
  a70 := Tryz.isAgg171
  z70 := Tryz.sizeOf171
  v70 := Tryz.zeroValue171
  t76 := Tryz.underlying176
  a76 := Tryz.isAgg176
  z76 := Tryz.sizeOf176
  v76 := Tryz.zeroValue176
  t77 := Tryz.underlying177
  a77 := Tryz.isAgg177
  z77 := Tryz.sizeOf177
  v77 := Tryz.zeroValue177 }
end Go.Proofs
end
section
namespace Go.Proofs.YtmcddoolniaehaaGreat.S
open Go.RowKit Go.Maps Go.Sort Go.Lib Go.Proofs.YtmcddoolniaehaaGreatW.PrintWords Go.Proofs.YtmcddoolniaehaaGreatW.PrintLast Go.Proofs.YtmcddoolniaehaaGreatW.PrintMore Go.Proofs.YtmcddoolniaehaaGreatW
set_option linter.unusedVariables false
set_option linter.unusedSimpArgs false
structure CmpOk {α : Type} (f : α → α → Int) : Prop where
  eq : ∀ x y, f x y = 0 ↔ x = y
  anti : ∀ x y, f x y < 0 ↔ 0 < f y x
  trans : ∀ x y z, f x y < 0 → f y z < 0 → f x z < 0
theorem cmpOk_lex {α β : Type} {f : α → α → Int} {g : β → β → Int} (hf : CmpOk f) (hg : CmpOk g) : CmpOk (fun (x y : α × β) => if f x.1 y.1 = 0 then g x.2 y.2 else f x.1 y.1) where
  eq x y := by
    split
    · rename_i h
      have h1 := (hf.eq _ _).1 h
      rw [hg.eq]
      exact ⟨fun h2 => Prod.ext h1 h2, fun h2 => by rw [h2]⟩
    · rename_i h
      exact ⟨fun h2 => absurd h2 h, fun h2 => absurd ((hf.eq _ _).2 (by rw [h2])) h⟩
  anti x y := by
    have e : f x.1 y.1 = 0 ↔ f y.1 x.1 = 0 := by rw [hf.eq, hf.eq]; exact ⟨Eq.symm, Eq.symm⟩
    by_cases h : f x.1 y.1 = 0
    · rw [if_pos h, if_pos (e.1 h)]; exact hg.anti _ _
    · rw [if_neg h, if_neg (fun h2 => h (e.2 h2))]; exact hf.anti _ _
  trans x y z h1 h2 := by
    by_cases a : f x.1 y.1 = 0
    · rw [if_pos a] at h1
      have a' := (hf.eq _ _).1 a
      rw [a']
      by_cases b : f y.1 z.1 = 0
      · rw [if_pos b] at h2 ⊢
        exact hg.trans _ _ _ h1 h2
      · rw [if_neg b] at h2 ⊢
        exact h2
    · rw [if_neg a] at h1
      by_cases b : f y.1 z.1 = 0
      · have b' := (hf.eq _ _).1 b
        rw [← b', if_neg a]
        exact h1
      · rw [if_neg b] at h2
        have h3 := hf.trans _ _ _ h1 h2
        rw [if_neg (by omega)]
        exact h3
theorem cmpOk_map {α β : Type} {f : β → β → Int} (t : α → β) (ht : ∀ x y, t x = t y → x = y) (hf : CmpOk f) : CmpOk (fun x y => f (t x) (t y)) where
  eq x y := by rw [hf.eq]; exact ⟨ht x y, fun h => by rw [h]⟩
  anti x y := hf.anti _ _
  trans x y z h1 h2 := hf.trans _ _ _ h1 h2
theorem cI_ok : CmpOk cI where
  eq x y := by unfold cI; split <;> (try split) <;> omega
  anti x y := by unfold cI; split <;> (try split) <;> (try split) <;> omega
  trans x y z h1 h2 := by
    unfold cI at *
    have a : x < y := by
      by_cases h : x < y
      · exact h
      · rw [if_neg h] at h1; split at h1 <;> omega
    have b : y < z := by
      by_cases h : y < z
      · exact h
      · rw [if_neg h] at h2; split at h2 <;> omega
    rw [if_pos (by omega)]; omega
theorem cS_neg {x y : ByteArray} : cS x y < 0 ↔ Op.bytesLess x.toList y.toList = true := by
  unfold cS
  split
  · rename_i h; simp [h]
  · split <;> simp_all
theorem cS_ok : CmpOk cS where
  eq x y := by
    constructor
    · intro h
      unfold cS at h
      split at h
      · omega
      · rename_i h1
        split at h
        · omega
        · rename_i h2
          exact toList_inj (less_antisymm (by simpa using h1) (by simpa using h2))
    · intro h
      subst h
      unfold cS
      rw [less_irrefl]; simp
  anti x y := by
    rw [cS_neg]
    unfold cS
    constructor
    · intro h
      rw [less_asymm h]; simp [h]
    · intro h
      split at h
      · omega
      · split at h
        · assumption
        · omega
  trans x y z h1 h2 := by
    rw [cS_neg] at *
    exact less_trans h1 h2
theorem cmpP_ok : CmpOk cmpP := by
  have h := cmpOk_map (fun (x : Pr) => (x.f0, (x.f1, (x.f2.f0, x.f2.f1)))) (fun x y h => by
    obtain ⟨a, b, c, d⟩ := x
    obtain ⟨a', b', c', d'⟩ := y
    simp at h
    obtain ⟨rfl, rfl, rfl, rfl⟩ := h
    rfl) (cmpOk_lex cS_ok (cmpOk_lex cS_ok (cmpOk_lex cI_ok cI_ok)))
  have e : cmpP = fun (x y : Pr) => if cS x.f0 y.f0 = 0 then if cS x.f1 y.f1 = 0 then if cI x.f2.f0 y.f2.f0 = 0 then cI x.f2.f1 y.f2.f1 else cI x.f2.f0 y.f2.f0 else cS x.f1 y.f1 else cS x.f0 y.f0 := rfl
  rw [e]
  exact h
theorem ltP_swo : SWO (ltOf cmpP) where
  irrefl x := by
    unfold ltOf
    have := (cmpP_ok.eq x x).2 rfl
    simp [this]
  trans x y z h1 h2 := by
    unfold ltOf at *
    simp only [decide_eq_true_eq] at *
    exact cmpP_ok.trans x y z h1 h2
  ntrans x y z h1 h2 := by
    unfold ltOf at *
    simp only [decide_eq_false_iff_not] at *
    intro h
    rcases Int.lt_trichotomy (cmpP y z) 0 with q | q | q
    · exact h2 q
    · rw [(cmpP_ok.eq y z).1 q] at h1; exact h1 h
    · have q' := (cmpP_ok.anti z y).2 q
      exact h1 (cmpP_ok.trans x z y h q')
theorem ltP_tot (x y : Pr) (h1 : ltOf cmpP x y = false) (h2 : ltOf cmpP y x = false) : x = y := by
  unfold ltOf at *
  simp only [decide_eq_false_iff_not] at *
  rcases Int.lt_trichotomy (cmpP x y) 0 with q | q | q
  · exact absurd q h1
  · exact (cmpP_ok.eq x y).1 q
  · exact absurd ((cmpP_ok.anti y x).2 q) h2
def sortP (l : List Pr) : List Pr := l.mergeSort fun x y => !(ltOf cmpP) y x
theorem pairCells_length (p : Pr) : (pairCells p).length = 4 := rfl
theorem pairCells_one : ∀ (p : Pr), ∀ u ∈ pairCells p, u.oneCell' = true := by
  intro p u hu
  simp [pairCells] at hu
  rcases hu with rfl | rfl | rfl | rfl <;> rfl
abbrev pairRow (l : List Pr) : List Value := l.flatMap pairCells
theorem cmpLaysP (blk off size : Nat) (w : World) : CmpLays Tryz.prog 115 #[] pairCells 4 cmpP blk off size w :=
  fun _ _ _ _ x y => order_exact x y _
instance : Inhabited Pr := ⟨⟨ByteArray.empty, ByteArray.empty, ⟨0, 0⟩⟩⟩
theorem flat_at : ∀ (l : List Pr) (t : Nat), t < l.length * 4 → (pairRow l)[t]? = (pairCells (l.toArray[t / 4]!))[t % 4]?
  | [], t, h => by simp at h
  | p :: l, t, h => by
    rw [pairRow, List.flatMap_cons]
    rcases Nat.lt_or_ge t 4 with h4 | h4
    · rw [List.getElem?_append_left (by rw [pairCells_length]; exact h4)]
      have e1 : t / 4 = 0 := by omega
      have e2 : t % 4 = t := by omega
      rw [e1, e2]; simp
    · rw [List.getElem?_append_right (by rw [pairCells_length]; exact h4), pairCells_length]
      have e1 : t / 4 = (t - 4) / 4 + 1 := by omega
      have e2 : t % 4 = (t - 4) % 4 := by omega
      have ih := flat_at l (t - 4) (by simp at h; omega)
      rw [ih, e1, e2]
      congr 2
      simp [getElem!_def]
theorem flatK_row (l : List Pr) : flatK pairCells 4 l.toArray = (pairRow l).toArray := by
  have hl : (pairRow l).length = l.length * 4 := flat_length (enc := pairCells) (sz := 4) (fun _ => rfl) l
  refine ext_get! (by simp [hl]) fun t ht => ?_
  have ht' : t < l.length * 4 := by simpa using ht
  rw [get_flatK _ _ _ t (by simpa using ht')]
  have h1 := flat_at l t ht'
  have h2 : t < (pairRow l).length := by rw [hl]; exact ht'
  rw [getElem!_pos _ t (by simpa using h2)]
  have h3 : t % 4 < (pairCells (l.toArray[t / 4]!)).length := by rw [pairCells_length]; omega
  rw [getElem!_pos _ (t % 4) h3]
  rw [List.getElem?_eq_getElem h2, List.getElem?_eq_getElem h3] at h1
  simpa using h1.symm
theorem holds_id {w : World} {g : Nat} {cur : Array Value} {e : TypeId} {F : List Value} (hb : w.heap[g]? = some (.cells cur e (0, 0))) (ht : cur.toList.take F.length = F) : Holds id w g 0 F.toArray := by
  intro j hj
  have hj' : j < F.length := by simpa using hj
  refine ⟨?_, by simp [World.frozen?, hb]⟩
  have h1 : (cur.toList.take F.length)[j]? = F[j]? := by rw [ht]
  rw [List.getElem?_take_of_lt hj'] at h1
  simp only [World.cell?, hb, Nat.zero_add]
  simp only [Option.isSome_none, Bool.false_eq_true, if_false]
  rw [← Array.getElem?_toList, h1]
  simp [hj']
theorem heap_put_id {w : World} {g n : Nat} {os : Array Obj} {cur : Array Value} {e : TypeId} {fr : Nat × Nat} (d : Array Value) (hb : w.heap[g]? = some (.cells cur e fr)) :
    (grow (putRow id (Sort.ahead w n) g 0 d) os).heap[g]? = some (.cells (putCells id 0 d cur) e fr) := by
  have hg : g < w.heap.size := (Array.getElem?_eq_some_iff.1 hb).1
  rw [heap_grow_old _ _ (by simpa using hg)]
  simp [putRow, mapBlock, Sort.ahead, Array.getElem?_modify, hb, onCells]
theorem grown_put_id {w : World} {g n : Nat} {os : Array Obj} (d : Array Value) : w.grownBy (grow (putRow id (Sort.ahead w n) g 0 d) os) (some g) := by
  refine ⟨rfl, rfl, rfl, by simp, fun k hk hne => ?_⟩
  rw [heap_grow_old _ _ (by simpa using hk)]
  have : g ≠ k := fun e => hne (by rw [e])
  simp [putRow, mapBlock, Sort.ahead, Array.getElem?_modify, this]
theorem take_put_id (cur : Array Value) (F : List Value) (h : F.length ≤ cur.size) : (putCells id 0 F.toArray cur).toList.take F.length = F := by
  apply List.ext_getElem?
  intro j
  by_cases hj : j < F.length
  · rw [List.getElem?_take_of_lt hj, Array.getElem?_toList]
    simp [putCells, hj, show j < cur.size by omega]
  · rw [List.getElem?_take_eq_none (by omega), List.getElem?_eq_none (by omega)]
theorem sortP_length (l : List Pr) : (sortP l).length = l.length := List.length_mergeSort l
theorem sort_pairs (base : Nat) (A : Option Addr) (c : Nat) (ks : List Pr) (w : World) (hrow : w.ownsRow base 43 4 (.slice A ks.length c) ks.length (pairRow ks)) (hlt : ks.length < 4611686018427387904) :
    Calls Tryz.prog 114 #[.slice A ks.length c, .func (.func 115) #[] #[]] w fun e w' => e = .returned (.tuple #[]) ∧ w'.ownsRow base 43 4 (.slice A ks.length c) ks.length (pairRow (sortP ks)) ∧ w.grownBy w' (Value.slice A ks.length c).ownBlock := by
  rcases Nat.eq_zero_or_pos ks.length with h0 | hpos
  · obtain rfl := List.eq_nil_of_length_eq_zero h0
    have h := AnyF.slices_SortFunc_none Tryz.sortP A c (.func (.func 115) #[] #[]) w
    refine Calls.mono h ?_
    rintro e w' ⟨rfl, rfl⟩
    have e : sortP [] = [] := List.eq_nil_of_length_eq_zero (by rw [sortP_length]; rfl)
    rw [e]
    exact ⟨rfl, hrow, World.grownBy.refl _ _⟩
  · rcases hrow.2 with ⟨hnil, h0⟩ | ⟨g, cap, cur, he, hbase, hb, h1, h2, h3, h4⟩
    · injection hnil with _ hn _; omega
    · cases he
      have hl : (pairRow ks).length = ks.length * 4 := flat_length (enc := pairCells) (sz := 4) (fun _ => rfl) ks
      have hl2 : (pairRow (sortP ks)).length = ks.length * 4 := by rw [flat_length (enc := pairCells) (sz := 4) (fun _ => rfl) (sortP ks), sortP_length]
      have hH : HoldsK pairCells 4 w g 0 ks.toArray := by
        unfold HoldsK
        rw [flatK_row]
        exact holds_id hb (by rw [hl]; exact h4)
      have hgl : g < w.heap.size := blk_lt hb
      have eg : ∀ args w, (callFunc 115 args).run Tryz.prog w = .ok (.enter 115 args) w := enters_of Tryz.func115 (by kernel_rfl) rfl
      have h := AnyQ.slices_SortFunc_total Tryz.sortP 4 Tryz.isAgg43 Tryz.sizeOf43 pairCells (fun _ => rfl) pairCells_one cmpP ltP_swo 115 #[] g 0 c ks.toArray w eg (cmpLaysP g 0 _ w) hH hgl hlt ltP_tot
      refine Calls.mono h ?_
      rintro e w' ⟨rfl, nn, os, rfl⟩
      have hs : sortWorldK pairCells 4 w g 0 nn (ks.toArray.toList.mergeSort fun x y => !(ltOf cmpP) y x).toArray os = grow (putRow id (Sort.ahead w nn) g 0 (pairRow (sortP ks)).toArray) os := by
        unfold sortWorldK putRowK
        rw [flatK_row]; rfl
      rw [hs]
      refine ⟨rfl, ⟨hl2, .inr ⟨g, c, _, rfl, hbase, heap_put_id _ hb, h1, h2, by simp [putCells, h3], ?_⟩⟩, grown_put_id _⟩
      rw [← hl2]
      exact take_put_id cur _ (by rw [hl2, h3]; exact Nat.mul_le_mul_right 4 h1)
end Go.Proofs.YtmcddoolniaehaaGreat.S
end
section
namespace Go.Proofs.YtmcddoolniaehaaGreat.S
open Go.RowKit Go.Maps Go.Proofs.YtmcddoolniaehaaGreatW.PrintWords Go.Proofs.YtmcddoolniaehaaGreatW.PrintLast Go.Proofs.YtmcddoolniaehaaGreatW.PrintMore Go.Proofs.YtmcddoolniaehaaGreatW
set_option linter.unusedVariables false
set_option linter.unusedSimpArgs false
def incQ (es : MapQ) (p : Pr) : MapQ := setQ es p (wrap64 (getQ es p + 1))
def ofQ (l : List Pr) : MapQ := l.foldl incQ []
theorem incQ_up {es : MapQ} (p : Pr) (h : es.Pairwise qLt) : (incQ es p).Pairwise qLt := setQ_up h
theorem ofQ_up (l : List Pr) : (ofQ l).Pairwise qLt := by
  have : ∀ (l : List Pr) (es : MapQ), es.Pairwise qLt → (l.foldl incQ es).Pairwise qLt := by
    intro l
    induction l with
    | nil => intro es h; exact h
    | cons p l ih => intro es h; exact ih _ (incQ_up p h)
  exact this l [] List.Pairwise.nil
theorem rdP_at (l : List Pr) (k : Nat) (h : k < l.length) : rd_T43 l (k : Int) = l[k] := by
  simp [rd_T43, List.getD_eq_getElem?_getD, List.getElem?_eq_getElem h]
theorem ofQ_take (l : List Pr) (k : Nat) (h : k < l.length) : ofQ (l.take (k + 1)) = incQ (ofQ (l.take k)) (rd_T43 l (k : Nat)) := by
  unfold ofQ
  rw [List.take_succ_eq_append_getElem h, List.foldl_append, rdP_at l k h]; rfl
theorem incQ_at {w : World} {gb n : Nat} {es : MapQ} (hown : OwnsQ w gb n es) (hup : es.Pairwise qLt) (hn : n < maxLen) (p : Pr) (hp : okPair p) :
    ∃ (st : Nat) (w2 w3 : World) (c : Int),
      (Instr.lookup 104 (.map (some gb)) (.agg #[.string p.f0, .string p.f1, .int .i64 p.f2.f0, .int .i64 p.f2.f1]) false).run Tryz.prog w = .ok (.int .i64 c) w ∧
      (Instr.mapEntry 104 (.map (some gb)) (.agg #[.string p.f0, .string p.f1, .int .i64 p.f2.f0, .int .i64 p.f2.f1])).run Tryz.prog w = .ok (.tuple #[.int .i64 c, .int .i64 (st : Nat)]) w2 ∧
      (Instr.lookup 104 (.map (some gb)) (.agg #[.string p.f0, .string p.f1, .int .i64 p.f2.f0, .int .i64 p.f2.f1]) false).run Tryz.prog w2 = .ok (.int .i64 c) w2 ∧
      (Instr.entryStore 104 (.map (some gb)) (.int .i64 (st : Nat)) (.int .i64 (wrap64 (c + 1)))).run Tryz.prog w2 = .ok () w3 ∧
      OwnsQ w3 gb (n + 1) (incQ es p) ∧ w.grownBy w3 (some gb) := by
  obtain ⟨st, w2, r1, r2, r3, hg, r4⟩ := incQ_run hown hup hn p hp
  obtain ⟨w3, r5, h3, g3⟩ := r4 (wrap64 (getQ es p + 1)) (wrap64_wf _)
  exact ⟨st, w2, w3, getQ es p, r1, r2, r3, r5, h3, g3⟩
set_option maxHeartbeats 4000000 in
set_option maxRecDepth 100000 in
theorem of_calls (A0 : Option Addr) (c0 : Nat) (l : List Pr) (w : World) (hr0 : Kd.C k43 w A0 l.length l) (hlim : l.length < maxLen) (hok : ∀ x ∈ l, okPair x) :
    Calls Tryz.prog 84 #[.slice A0 l.length c0] w fun e w' => ∃ gb, e = .returned (.map (some gb)) ∧ w.heap.size ≤ gb ∧ OwnsQ w' gb l.length (ofQ l) ∧ Below w.heap.size w w' := by
  have HR := Aside0.mk hr0
  have HL := Aside0.mk hr0.2.1
  have HK := Aside0.mk hok
  clear hr0 hok
  have hu := Tryz.underlying43
  have hum := Tryz.underlying104
  have hmm := @run_makeMap Tryz.prog
  go_enter Tryz.func84, Tryz.ntmps84
  go_wp2
  go_loopw [9] (fun i wr => ∃ k : Nat, k ≤ l.length ∧ i = .int .i64 k ∧ Aside0 (OwnsQ wr w.heap.size k (ofQ (l.take k))) ∧ Aside0 (Below w.heap.size w wr)) (fun i _ => l.length - (intOf i).toNat)
  case atStart => exact ⟨0, Nat.zero_le _, rfl, ⟨World.ownsMap_made w Tryz.prog 43 (plainElem (H := Unit) Tryz.prog 3)⟩, ⟨below_alloc (Below.refl _ _) _⟩⟩
  case round =>
    clear hmm
    obtain ⟨k, hk, rfl, hO, HB⟩ := hrel
    by_cases hlt : k < l.length
    · obtain ⟨ad, e, hx0, hx1, hx2, hx3⟩ := at_T43 HR.out k (by omega) (by omega)
      cases e
      replace hx0 := (HB.out.cell (World.block_lt_of_cell? w _ hx0)).trans hx0
      replace hx1 := (HB.out.cell (World.block_lt_of_cell? w _ hx1)).trans hx1
      replace hx2 := (HB.out.cell (World.block_lt_of_cell? w _ hx2)).trans hx2
      replace hx3 := (HB.out.cell (World.block_lt_of_cell? w _ hx3)).trans hx3
      simp only [Int.toNat_natCast, add_plain] at hx0 hx1 hx2 hx3
      have hl63 := HL.out
      have hkp : okPair (rd_T43 l (k : Nat)) := by rw [rdP_at l k hlt]; exact HK.out _ (List.getElem_mem _)
      have HS := Aside0.mk (ofQ_take l k hlt)
      have hglt := hO.out.lt
      obtain ⟨st, w2, w3, c, r1, r2, r3, r5, h3, g3⟩ := incQ_at ((hO.out.alloc (.cells #[.string (rd_T43 l (k : Nat)).f0, .string (rd_T43 l (k : Nat)).f1, .int .i64 (rd_T43 l (k : Nat)).f2.f0, .int .i64 (rd_T43 l (k : Nat)).f2.f1] 43)).drew) (ofQ_up _) (by omega) (rd_T43 l (k : Nat)) hkp
      have HO3 : Aside0 (OwnsQ w3 w.heap.size (k + 1) (ofQ (l.take (k + 1)))) := ⟨by rw [HS.out]; exact h3⟩
      have HB3 := Aside0.mk ((below_drew (below_alloc HB.out _)).grown g3 (by simp; omega) (fun j hj => by simp at hj; omega))
      clear h3 g3 HS hO HB HR hkp
      go_wp2_with fail
      go_region
      all_goals
        go_wp2
        go_roundw
        case rel => exact ⟨k + 1, by omega, by go_num, HO3, HB3⟩
        case measure => simp [intOf]; omega
    · have HE := Aside0.mk (show l.take k = l ∧ k = l.length from ⟨List.take_of_length_le (by omega), by omega⟩)
      go_wp2
      go_ret
      refine ⟨_, rfl, Nat.le_refl _, ?_, HB.out⟩
      have := hO.out
      rw [HE.out.1, HE.out.2] at this
      exact this
end Go.Proofs.YtmcddoolniaehaaGreat.S
end
section
namespace Go.Proofs.YtmcddoolniaehaaGreat.S
open Go.RowKit Go.Maps Go.Sort Go.Proofs.YtmcddoolniaehaaGreatW.PrintWords Go.Proofs.YtmcddoolniaehaaGreatW.PrintLast Go.Proofs.YtmcddoolniaehaaGreatW.PrintMore Go.Proofs.YtmcddoolniaehaaGreatW
set_option linter.unusedVariables false
set_option linter.unusedSimpArgs false
theorem sortP_pair (l : List Pr) : (sortP l).Pairwise (fun x y => (!(ltOf cmpP) y x) = true) := by
  refine List.pairwise_mergeSort ?_ ?_ l
  · intro a b c h1 h2
    simp only [Bool.not_eq_true'] at *
    exact ltP_swo.ntrans c b a h2 h1
  · intro a b
    simp only [Bool.or_eq_true, Bool.not_eq_true']
    cases h : ltOf cmpP b a with
    | false => exact .inl rfl
    | true =>
      right
      cases h2 : ltOf cmpP a b with
      | false => rfl
      | true =>
        have := ltP_swo.trans a b a h2 h
        rw [ltP_swo.irrefl] at this; cases this
theorem sorted_unique {l l' : List Pr} (h : l.Perm l') (h1 : l.Pairwise (fun x y => (!(ltOf cmpP) y x) = true)) (h2 : l'.Pairwise (fun x y => (!(ltOf cmpP) y x) = true)) : l = l' := by
  refine List.Perm.eq_of_pairwise (le := fun x y => (!(ltOf cmpP) y x) = true) (fun a b _ _ q1 q2 => ?_) h1 h2 h
  simp only [Bool.not_eq_true'] at q1 q2
  exact ltP_tot a b q2 q1
theorem sortP_perm {l l' : List Pr} (h : l.Perm l') : sortP l = sortP l' :=
  sorted_unique (((List.mergeSort_perm l _).trans h).trans (List.mergeSort_perm l' _).symm) (sortP_pair l) (sortP_pair l')
theorem keysQ_nodup {es : MapQ} (h : es.Pairwise qLt) : (es.map Prod.fst).Nodup := by
  show (es.map Prod.fst).Pairwise (· ≠ ·)
  rw [List.pairwise_map]
  refine h.imp fun {a b} hab e => ?_
  unfold qLt at hab
  rw [e, less_irrefl] at hab
  cases hab
theorem strKeysQ (es : MapQ) : Go.strKeys (datQ es) = es.map fun p => kbP p.1 := by
  unfold Go.strKeys datQ
  simp [List.map_map, Function.comp_def, entQ, Go.strOf]
theorem collQ_perm {es : MapQ} (hup : es.Pairwise qLt) (hok : ∀ p ∈ es, okPair p.1) {left : Lit → Bool} {ks : List Pr} (hks : ∀ x ∈ ks, okPair x) (h : Collected (datQ es) left (ks.map kbP)) (hl : ∀ kl, left kl = false) : ks.Perm (es.map Prod.fst) := by
  have hp : (es.map entQ).Pairwise (fun p q => p.1 ≠ q.1) := by
    rw [List.pairwise_map]
    refine hup.imp fun {a b} hab e => ?_
    unfold qLt at hab
    simp only [entQ, Lit.string.injEq] at e
    rw [e, less_irrefl] at hab
    cases hab
  have h1 := perm_strKeys hp (fun p hp => by obtain ⟨q, _, rfl⟩ := List.mem_map.1 hp; exact ⟨_, rfl⟩) h.1 (fun x => by rw [h.2 x, hl]; simp [datQ])
  have h2 : (ks.map kbP).Perm (es.map fun p => kbP p.1) := by
    have := strKeysQ es
    unfold datQ at this
    rwa [this] at h1
  have hn : ks.Nodup := (List.pairwise_map.1 h.1).imp fun {a b} hab e => hab (by rw [e])
  refine (List.perm_ext_iff_of_nodup hn (keysQ_nodup hup)).2 fun x => ?_
  constructor
  · intro hx
    have : kbP x ∈ es.map fun p => kbP p.1 := h2.mem_iff.1 (List.mem_map_of_mem hx)
    obtain ⟨p, hp, e⟩ := List.mem_map.1 this
    rw [← kbP_inj (hok p hp) (hks x hx) e]
    exact List.mem_map_of_mem hp
  · intro hx
    obtain ⟨p, hp, rfl⟩ := List.mem_map.1 hx
    have : kbP p.1 ∈ ks.map kbP := h2.mem_iff.2 (List.mem_map.2 ⟨p, hp, rfl⟩)
    obtain ⟨y, hy, e⟩ := List.mem_map.1 this
    rw [← kbP_inj (hks y hy) (hok p hp) e]
    exact hy
theorem cells4_new (w4 : World) (o : Obj) (p : Pr) : ∀ j u, (pairCells p)[j]? = some u → ((w4.alloc o).alloc (.cells #[.string p.f0, .string p.f1, .int .i64 p.f2.f0, .int .i64 p.f2.f1] 43)).cell? ((⟨w4.heap.size + 1, 0, none⟩ : Addr).add j) = some u := by
  have hb : ((w4.alloc o).alloc (.cells #[.string p.f0, .string p.f1, .int .i64 p.f2.f0, .int .i64 p.f2.f1] 43)).heap[w4.heap.size + 1]? = some (.cells #[.string p.f0, .string p.f1, .int .i64 p.f2.f0, .int .i64 p.f2.f1] 43 (0, 0)) := by
    have := blk_new (w4.alloc o) (.cells #[.string p.f0, .string p.f1, .int .i64 p.f2.f0, .int .i64 p.f2.f1] 43)
    simpa using this
  intro j u hj
  rw [add_plain, blk_cell hb j]
  match j, hj with
  | 0, hj => exact hj
  | 1, hj => exact hj
  | 2, hj => exact hj
  | 3, hj => exact hj
  | j + 4, hj => simp [pairCells] at hj
set_option maxHeartbeats 4000000 in
set_option maxRecDepth 100000 in
theorem plist_calls (gb n : Nat) (es : MapQ) (w : World) (hown : OwnsQ w gb n es) (hup : es.Pairwise qLt) (hok : ∀ p ∈ es, okPair p.1) (hlim : es.length * 64 ≤ 140737488355328) :
    Calls Tryz.prog 85 #[.map (some gb)] w fun e w' => ∃ v, e = .returned v ∧ w'.ownsRow w.heap.size 43 4 v es.length (pairRow (sortP (es.map Prod.fst))) ∧ Below w.heap.size w w' := by
  obtain ⟨j0, hj, hy0, hy1, hy2⟩ := info_parts info43
  have hbl := hown.lt
  have HO := Aside0.mk hown
  have hsize : Maps.size (datQ es) = es.length := size_datQ es
  have HOK := Aside0.mk hok
  have hu := Tryz.underlying43
  clear hown hok
  go_enter Tryz.func85, Tryz.ntmps85
  go_wp2_with (first
    | (at_range; refine wpList_range_own _ rfl _ 104 rfl 43 3 lawP Tryz.underlying104 _ gb n _ rfl HO.out ?_; intro w1 hrg0 hg0 hs0))
  go_frame
  go_loopw [3] (fun v wr => ∃ (left : Lit → Bool) (cnt : Nat) (ks : List Pr), Aside0 (wr.ranges Tryz.prog 43 (plainElem (H := Unit) Tryz.prog 3) gb w.heap.size n (datQ es) left cnt) ∧ Aside0 (ks.length + cnt ≤ es.length) ∧
      Aside0 (wr.ownsRow w.heap.size 43 4 v ks.length (pairRow ks)) ∧ Aside0 (Collected (datQ es) left (ks.map kbP)) ∧ Aside0 (∀ x ∈ ks, okPair x) ∧ Aside0 (Below w.heap.size w wr))
    (fun _ wr => wr.rangeLeft gb w.heap.size)
  case atStart => exact ⟨_, _, [], ⟨hrg0⟩, ⟨by simp [hsize]⟩, ⟨own_nil _ _ _ _⟩, ⟨Collected.start _⟩, ⟨fun x hx => by cases hx⟩, ⟨(Below.refl _ _).grown hg0 (Nat.le_refl _) (fun j hj => by cases hj)⟩⟩
  case round =>
    clear hrg0 hg0 hs0
    obtain ⟨left, cnt, ks, hrg, hcs, hrow, hC, hks, hnx⟩ := hrel
    obtain ⟨A, c, rfl⟩ := own_slice hrow.out
    go_wp2_with (first
      | (at_next; refine wpList_next_ranges _ rfl _ rfl 43 lawP (plainElem Tryz.prog 3) valP (Value.int .i64) (fun key kl hk => by obtain ⟨x, hx, _⟩ := keyOf_inv hk; exact ⟨x, hx⟩) (fun v y hv => by obtain ⟨c, rfl, _⟩ := plainElem_int_inv Tryz.underlying3 hv; exact ⟨c, rfl⟩) gb w.heap.size n _ _ _ rfl hrg.out ?_ ?_))
    · intro hc0 hl0
      have hperm : ks.Perm (es.map Prod.fst) := collQ_perm hup HOK.out hks.out hC.out hl0
      have hlen : ks.length = es.length := by rw [hperm.length_eq]; simp
      have HSK := Aside0.mk (sort_pairs w.heap.size A c ks wr hrow.out (by omega))
      have HF := Aside0.mk (And.intro hlen (sortP_perm hperm))
      have hsl : ks.length ≤ 9223372036854775807 := by omega
      have HOB := Aside0.mk (own_base hrow.out)
      clear hc0 hl0 hrg hC hcs hperm hlen hrow
      go_wp2_with (first | (go_at_call 114; refine HSK.out.mono ?_; rintro e w3 ⟨rfl, hrow3, hg3⟩))
      go_ret
      refine ⟨_, rfl, ?_, hnx.out.grown hg3 hnx.out.size HOB.out⟩
      rw [← HF.out.2, ← HF.out.1]
      exact hrow3
    · intro x cv kl yd yp w2 cnt2 hkey hlk hv hat hrg2 hlt hg2 hs2 hen
      obtain ⟨x', ex, rfl, hokx⟩ := keyOf_inv hkey
      obtain rfl : x = x' := by
        unfold valP at ex
        injection ex with ex
        obtain ⟨a, b, c, d⟩ := x
        obtain ⟨a', b', c', d'⟩ := x'
        simp at ex
        obtain ⟨rfl, rfl, rfl, rfl⟩ := ex
        rfl
      have HROW2 := Aside0.mk (hrow.out.kept hg2 (Or.inr (row_ne_iter hrow.out hrg.out).symm))
      have HRG2 := Aside0.mk hrg2
      have HC2 : Aside0 (Collected (datQ es) (fun z => left z && !z.sameKey (.string (kbP x))) ((ks ++ [x]).map kbP)) := ⟨by rw [List.map_append]; exact hC.out.step hlk hat⟩
      have HK2 : Aside0 (∀ y ∈ ks ++ [x], okPair y) := ⟨fun y hy => by
        rcases List.mem_append.1 hy with h | h
        · exact hks.out y h
        · obtain rfl : y = x := by simpa using h
          exact hokx⟩
      have HLT := Aside0.mk hlt
      have HG2 := Aside0.mk hg2
      have hnew : ks.length + 1 ≤ es.length := by have := hcs.out; omega
      have hb48 : (ks.length + 1) * 48 ≤ 140737488355328 := Nat.le_trans (Nat.mul_le_mul_right 48 hnew) (by omega)
      have hml : ks.length + 1 ≤ maxLen := by unfold maxLen; omega
      have hw2 := Nat.le_trans hnx.out.size hg2.size
      have hnw := Aside0.mk (cells4_new w2 (.cells #[.string x.f0, .string x.f1, .int .i64 x.f2.f0, .int .i64 x.f2.f1] 43) x)
      have hones := pairCells_one x
      unfold valP at hen
      clear hs2 hkey hlk hv hat hrg2 hlt hg2 ex hC
      go_wp2_with (first
        | (at_builtin; refine wpList_append_own _ rfl _ _ 24 rfl w.heap.size 43 j0 _ 4 48 Tryz.underlying24 hj hy0 hy1 hy2 rfl (by decide) _ _ _ rfl ((HROW2.out.alloc _).alloc _) ⟨w2.heap.size + 1, 0, none⟩ 1 1 (pairCells x) rfl rfl hnw.out hones hml hb48 (by simp; omega) ?_; intro v' w3 hown' hg3 hnil3; go_frame))
      have HRG3 := Aside0.mk (((HRG2.out.alloc _).alloc _).kept hg3 (row_ne_low HROW2.out hbl) (row_ne_iter HROW2.out HRG2.out))
      have HB3 := Aside0.mk ((below_alloc (below_alloc (hnx.out.grown HG2.out hnx.out.size (fun j hj => by cases hj; exact Nat.le_refl _)) _) _).grown hg3 (by simp; omega) (own_base HROW2.out))
      have HO3 : Aside0 (w3.ownsRow w.heap.size 43 4 v' (ks ++ [x]).length (pairRow (ks ++ [x]))) := ⟨by rw [List.length_append]; unfold pairRow; rw [List.flatMap_append]; simpa using hown'⟩
      have HN3 : Aside0 ((ks ++ [x]).length + cnt2 ≤ es.length) := ⟨by have := HLT.out; have := hcs.out; simp; omega⟩
      clear hown' hnil3
      go_roundw
      case rel => exact ⟨_, cnt2, ks ++ [x], HRG3, HN3, HO3, HC2, HK2, HB3⟩
      case measure => rw [HRG3.out.left_eq, hrg.out.left_eq]; exact HLT.out
end Go.Proofs.YtmcddoolniaehaaGreat.S
end
