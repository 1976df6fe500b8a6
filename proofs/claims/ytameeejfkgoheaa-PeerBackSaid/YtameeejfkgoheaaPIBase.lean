/- Several texts in one: PIPure, PIBase. -/
import Derived.Test.YtameeejfkgoheaaStrOrd
import Derived.Test.YtameeejfkgoheaaProg
import Derived.Below
import Derived.Deep.Draws
import Derived.Deep.AppendLies
import Derived.Maps.AppendAt
import Derived.OwnWalk
import Derived.Laws.BytesArg
import Derived.Laws.MakeOwn
import Derived.Laws.OwnMore
import Derived.Deep.OwnRows
import Derived.Tactics
import Derived.Lib.ConvBytes
import Derived.Laws.Slices
import Derived.WalkKit
import Derived.KernelRfl
import Derived.RowKit3
import Derived.Deep.LoopGhost
import Derived.Deep.QuietTactic
import Derived.BigQuiet
import Derived.WideLaws
import Derived.Deep.DeepCutAuto
import Derived.Deep.CutBlock
import Derived.Deep.RegionHeld3
import Derived.Laws.Rows
import Derived.Lib.AppendStr
import Derived.ArgAppend
import Derived.Laws.IdiomCopy
import Derived.OrdersHeld
import Derived.Laws.BitsLemmas
import Derived.RowKit
import Derived.Test.YtameeejfkgoheaaWWords
import Derived.Test.YtameeejfkgoheaaWLast
import Derived.Test.YtameeejfkgoheaaWTab
import Derived.Test.YtameeejfkgoheaaWFour
import Derived.Test.YtameeejfkgoheaaWQPut
import Derived.Test.YtameeejfkgoheaaWApart
import Derived.Test.YtameeejfkgoheaaWArr
import Derived.Test.YtameeejfkgoheaaWZeros
import Derived.Test.YtameeejfkgoheaaWFoot
import Derived.Test.YtameeejfkgoheaaWKept
import Derived.Test.YtameeejfkgoheaaWShare
import Derived.Test.YtameeejfkgoheaaWN
import Derived.Test.YtameeejfkgoheaaWFootNe
import Derived.Test.YtameeejfkgoheaaWAt
import Derived.Test.YtameeejfkgoheaaWEqStruct
import Derived.Test.YtameeejfkgoheaaWRepsOne
import Derived.Test.YtameeejfkgoheaaWInv
import Derived.Test.YtameeejfkgoheaaWInvWords
import Derived.Test.YtameeejfkgoheaaWGuard
import Derived.Test.YtameeejfkgoheaaWNEv
import Derived.Test.YtameeejfkgoheaaWMore
import Derived.Deep.MidRow
import Derived.Lib.BytesEntry
section
/- Ids as lists of bytes: their order, sets of them as lists that rise. Plain. -/
namespace Go.Proofs.Ytameeejfkgoheaa.P
open Go.Proofs.YtameeejfkgoheaaW
set_option linter.unusedVariables false
set_option linter.unusedSimpArgs false
abbrev Id := List UInt8
def ltI (a b : Id) : Bool := Op.bytesLess a b
def insI (x : Id) : List Id → List Id
  | [] => [x]
  | y :: l => if ltI x y then x :: y :: l else if x = y then y :: l else y :: insI x l
def sortI (l : List Id) : List Id := l.foldr insI []
def UpI (l : List Id) : Prop := l.Pairwise (fun a b => ltI a b = true)
theorem ltI_irrefl (a : Id) : ltI a a = false := less_irrefl a
theorem ltI_trans {a b c : Id} (h : ltI a b = true) (h' : ltI b c = true) : ltI a c = true := less_trans h h'
theorem ltI_total {a b : Id} (h : ltI a b = false) (h' : ltI b a = false) : a = b := less_antisymm h h'
theorem ltI_asymm {a b : Id} (h : ltI a b = true) : ltI b a = false := less_asymm h
theorem ltI_ne {a b : Id} (h : ltI a b = true) : a ≠ b := fun e => by rw [e, ltI_irrefl] at h; cases h
theorem mem_insI (x y : Id) : ∀ l : List Id, y ∈ insI x l ↔ y = x ∨ y ∈ l
  | [] => by simp [insI]
  | z :: l => by
    unfold insI
    split
    · simp
    · split
      · rename_i h; subst h; simp
      · simp only [List.mem_cons, mem_insI x y l]
        constructor
        · rintro (h | h | h)
          · exact .inr (.inl h)
          · exact .inl h
          · exact .inr (.inr h)
        · rintro (h | h | h)
          · exact .inr (.inl h)
          · exact .inl h
          · exact .inr (.inr h)
theorem up_insI (x : Id) : ∀ l : List Id, UpI l → UpI (insI x l)
  | [], _ => List.pairwise_singleton _ _
  | z :: l, h => by
    unfold UpI at h
    rw [List.pairwise_cons] at h
    unfold insI
    cases h1 : ltI x z with
    | true =>
      rw [if_pos rfl]
      refine List.pairwise_cons.2 ⟨fun y hy => ?_, List.pairwise_cons.2 h⟩
      rcases List.mem_cons.1 hy with rfl | hy
      · exact h1
      · exact ltI_trans h1 (h.1 y hy)
    | false =>
      rw [if_neg (by simp)]
      by_cases h2 : x = z
      · rw [if_pos h2]
        exact List.pairwise_cons.2 h
      · rw [if_neg h2]
        refine List.pairwise_cons.2 ⟨fun y hy => ?_, up_insI x l h.2⟩
        rcases (mem_insI x y l).1 hy with rfl | hy
        · cases h3 : ltI z y with
          | true => rfl
          | false => exact absurd (ltI_total h1 h3) h2
        · exact h.1 y hy
theorem mem_sortI (y : Id) : ∀ l : List Id, y ∈ sortI l ↔ y ∈ l
  | [] => by simp [sortI]
  | x :: l => by
    have ih := mem_sortI y l
    unfold sortI at ih ⊢
    rw [List.foldr_cons, mem_insI, ih, List.mem_cons]
theorem up_sortI : ∀ l : List Id, UpI (sortI l)
  | [] => List.Pairwise.nil
  | x :: l => up_insI x _ (up_sortI l)
theorem up_ext : ∀ {a b : List Id}, UpI a → UpI b → (∀ x, x ∈ a ↔ x ∈ b) → a = b
  | [], [], _, _, _ => rfl
  | [], y :: b, _, _, h => by have := (h y).2 List.mem_cons_self; cases this
  | x :: a, [], _, _, h => by have := (h x).1 List.mem_cons_self; cases this
  | x :: a, y :: b, ha, hb, h => by
    have ha' := List.pairwise_cons.1 ha
    have hb' := List.pairwise_cons.1 hb
    have e : x = y := by
      rcases List.mem_cons.1 ((h x).1 List.mem_cons_self) with e | h1
      · exact e
      · rcases List.mem_cons.1 ((h y).2 List.mem_cons_self) with e | h2
        · exact e.symm
        · have q1 := ha'.1 y h2
          have q2 := hb'.1 x h1
          rw [ltI_asymm q1] at q2; cases q2
    subst e
    rw [up_ext ha'.2 hb'.2 fun z => ?_]
    constructor
    · intro hz
      rcases List.mem_cons.1 ((h z).1 (List.mem_cons_of_mem _ hz)) with rfl | q
      · have := ha'.1 z hz; rw [ltI_irrefl] at this; cases this
      · exact q
    · intro hz
      rcases List.mem_cons.1 ((h z).2 (List.mem_cons_of_mem _ hz)) with rfl | q
      · have := hb'.1 z hz; rw [ltI_irrefl] at this; cases this
      · exact q
theorem sortI_ext {a b : List Id} (h : ∀ x, x ∈ a ↔ x ∈ b) : sortI a = sortI b := up_ext (up_sortI a) (up_sortI b) fun x => by rw [mem_sortI, mem_sortI, h x]
theorem sortI_up {a : List Id} (h : UpI a) : sortI a = a := up_ext (up_sortI a) h fun x => mem_sortI x a
theorem len_insI (x : Id) : ∀ l : List Id, (insI x l).length ≤ l.length + 1
  | [] => by simp [insI]
  | z :: l => by
    unfold insI
    split
    · simp
    · split
      · simp
      · simp only [List.length_cons]; have := len_insI x l; omega
theorem len_sortI : ∀ l : List Id, (sortI l).length ≤ l.length
  | [] => by simp [sortI]
  | x :: l => by
    have := len_sortI l
    have h := len_insI x (sortI l)
    simp only [sortI, List.foldr_cons, List.length_cons] at h this ⊢
    omega
/-- those of one list that another one has, or has not -/
def someI (a b : List Id) (want : Bool) : List Id := sortI (a.filter fun x => decide (x ∈ b) == want)
theorem mem_someI (a b : List Id) (want : Bool) (x : Id) : x ∈ someI a b want ↔ x ∈ a ∧ decide (x ∈ b) = want := by
  unfold someI
  rw [mem_sortI, List.mem_filter, beq_iff_eq]
theorem len_someI (a b : List Id) (want : Bool) : (someI a b want).length ≤ a.length := Nat.le_trans (len_sortI _) (List.length_filter_le _ _)
def bothI (a b : List Id) : List Id := sortI (a ++ b)
theorem mem_bothI (a b : List Id) (x : Id) : x ∈ bothI a b ↔ x ∈ a ∨ x ∈ b := by unfold bothI; rw [mem_sortI, List.mem_append]
def okId (x : Id) : Prop := x.length = 32
theorem ok_sortI {l : List Id} (h : ∀ x ∈ l, okId x) : ∀ x ∈ sortI l, okId x := fun x hx => h x ((mem_sortI x l).1 hx)
theorem ok_someI {a b : List Id} {want : Bool} (h : ∀ x ∈ a, okId x) : ∀ x ∈ someI a b want, okId x := fun x hx => h x ((mem_someI a b want x).1 hx).1
theorem ok_bothI {a b : List Id} (h : ∀ x ∈ a, okId x) (h' : ∀ x ∈ b, okId x) : ∀ x ∈ bothI a b, okId x := fun x hx => ((mem_bothI a b x).1 hx).elim (h x) (h' x)
end Go.Proofs.Ytameeejfkgoheaa.P
end
section
/- Ids as values, in rows, and as keys of a map: what the walks read. -/
namespace Go.Proofs.Ytameeejfkgoheaa.P
open Go.RowKit Go.Proofs.YtameeejfkgoheaaW.PrintWords Go.Proofs.YtameeejfkgoheaaW.PrintLast Go.Proofs.YtameeejfkgoheaaW.PrintMore Go.Proofs.YtameeejfkgoheaaW
set_option linter.unusedVariables false
set_option linter.unusedSimpArgs false
def cellI (b : UInt8) : Value := .int .u8 (b.toNat : Int)
def cellsI (x : Id) : List Value := x.map cellI
def arrI (x : Id) : Array Value := (cellsI x).toArray
abbrev valI (x : Id) : Value := .agg (arrI x)
theorem cellsI_length (x : Id) : (cellsI x).length = x.length := List.length_map _
theorem cellsI_ok {x : Id} (h : okId x) : (cellsI x).length = 32 := (cellsI_length x).trans h
theorem cellsI_one (x : Id) : ∀ u ∈ cellsI x, u.oneCell' = true := fun u hu => by
  obtain ⟨b, _, rfl⟩ := List.mem_map.1 hu
  rfl
theorem cellI_inj {a b : UInt8} (h : cellI a = cellI b) : a = b := by
  unfold cellI at h
  injection h with _ h
  exact UInt8.toNat.inj (by omega)
theorem cellsI_inj : ∀ {x y : Id}, cellsI x = cellsI y → x = y
  | [], [], _ => rfl
  | [], _ :: _, h => by cases h
  | _ :: _, [], h => by cases h
  | a :: x, b :: y, h => by
    unfold cellsI at h
    rw [List.map_cons, List.map_cons] at h
    injection h with h1 h2
    rw [cellI_inj h1, cellsI_inj h2]
theorem valI_inj {x y : Id} (h : valI x = valI y) : x = y := by
  injection h with h
  exact cellsI_inj (by simpa [arrI] using h)
def kI : Kd Id where
  sz := 32
  E := []
  K := fun _ x cs => cs = cellsI x ∧ okId x
  M := fun _ _ _ x cs => cs = cellsI x ∧ okId x
  K_len := fun h => by rw [h.1]; exact cellsI_ok h.2
  K_one := fun h u hu => by rw [h.1] at hu; exact cellsI_one _ u hu
  K_below := fun _ h => h
  K_of_M := fun h => h
  M_mono := fun _ h => h
  M_bound := fun h => h
  M_move := fun _ h => h
  M_lower := fun _ h => h
def rdI (l : List Id) (i : Nat) : Id := l.getD i []
theorem rdI_at (l : List Id) (k : Nat) (h : k < l.length) : rdI l k = l[k] := by
  simp [rdI, List.getD_eq_getElem?_getD, List.getElem?_eq_getElem h]
theorem add_off (b o j : Nat) : (⟨b, o, none⟩ : Addr).add j = ⟨b, o + j, none⟩ := by unfold Addr.add; split <;> simp_all
/-- an element of a row of ids -/
theorem at_I {w : World} {A : Option Addr} {n : Nat} {xs : List Id} (h : Kd.C kI w A n xs) (i : Nat) (hi : i < n) : ∃ b o, A = some ⟨b, o, none⟩ ∧ w.rangeAt b (o + i * 32) (cellsI (rdI xs i)) ∧ okId (rdI xs i) := by
  obtain ⟨hl, _, hr⟩ := h
  obtain ⟨ad, e, hc⟩ := hr (by omega)
  have hi' : i < xs.length := by omega
  obtain ⟨c, hcl, ⟨rfl, hok⟩, hcell⟩ := hc i _ (List.getElem?_eq_getElem hi')
  obtain ⟨c0, hcl0, ⟨rfl, hok0⟩, hcell0⟩ := hc 0 _ (List.getElem?_eq_getElem (show 0 < xs.length by omega))
  have hn : ad.spot = none := by
    have hlt : 0 < (cellsI xs[0]).length := by rw [cellsI_ok hok0]; omega
    have h0 := hcell0 0 _ (List.getElem?_eq_getElem hlt)
    simp only [Nat.zero_mul, Nat.add_zero] at h0
    have h1 : ad.add 0 = ad := by unfold Addr.add; rw [if_pos rfl]
    rw [h1] at h0
    unfold World.cell? at h0
    cases hsp : ad.spot with
    | none => rfl
    | some s =>
      rw [hsp] at h0
      revert h0
      split <;> simp
  obtain ⟨b, o, sp⟩ := ad
  cases hn
  refine ⟨b, o, e, ?_, ?_⟩
  · rw [rdI_at xs i hi']
    intro j v hv
    have := hcell j v hv
    rw [add_off] at this
    rw [Nat.add_assoc]
    exact this
  · rw [rdI_at xs i hi']; exact hok
theorem range_below {w w1 : World} {b o : Nat} {cs : List Value} (h : w.rangeAt b o cs) (hb : Below w.heap.size w w1) : w1.rangeAt b o cs := fun j v hv => pw_cell_below hb (h j v hv)
theorem range_of_blk {w : World} {g t : Nat} {cs : List Value} (h : w.heap[g]? = some (.cells cs.toArray t (0, 0))) : w.rangeAt g 0 cs := fun j v hv => by
  rw [Nat.zero_add]
  unfold World.cell?
  rw [h]
  simp [hv]
theorem there_of_blk {w : World} {g t : Nat} {cs : List Value} (h : w.heap[g]? = some (.cells cs.toArray t (0, 0))) : w.there g 0 cs.length := fun j hj => by
  rw [Nat.zero_add]
  refine ⟨?_, blk_frozen h j⟩
  unfold World.cell?
  rw [h]
  simp [hj]
theorem info_I {x : Id} (h : okId x) : (Try.prog.info? 71).map (·.size) = some (cellsI x).length := by rw [cellsI_ok h]; kernel_rfl
/-- an id is read -/
theorem load_I {w : World} {b o : Nat} {x : Id} (h : w.rangeAt b o (cellsI x)) (hx : okId x) : (Instr.loadAt 71 (.pointer (some ⟨b, o, none⟩))).run Try.prog w = .ok (valI x) w :=
  run_loadAt_mid w b o 71 (cellsI x) _ h Try.underlying71 rfl (info_I hx)
theorem store_I {w : World} {b o : Nat} {x : Id} (h : w.there b o 32) (hx : okId x) : (Instr.storeAt 71 (.pointer (some ⟨b, o, none⟩)) (valI x)).run Try.prog w = .ok () (w.setCells b o (cellsI x)) := by
  have := run_storeAt_mid (P := Try.prog) w b o 71 (cellsI x).toArray (by rw [List.size_toArray, cellsI_ok hx]; exact h) (by rw [List.size_toArray]; exact info_I hx) (all_oneCell_toArray (cellsI_one x))
  rw [List.toList_toArray] at this
  exact this
/-- which one of two comes first -/
def cmpI (x y : Id) : Int := if ltI x y then -1 else if ltI y x then 1 else 0
theorem compare_I : ∀ x y : Id, Lib.compareBytes x y = cmpI x y
  | [], [] => by simp [Lib.compareBytes, cmpI, ltI, Op.bytesLess]
  | [], _ :: _ => by simp [Lib.compareBytes, cmpI, ltI, Op.bytesLess]
  | _ :: _, [] => by simp [Lib.compareBytes, cmpI, ltI, Op.bytesLess]
  | a :: x, b :: y => by
    have ih := compare_I x y
    unfold cmpI ltI at ih ⊢
    unfold Lib.compareBytes
    rw [ih]
    simp only [Op.bytesLess]
    by_cases h1 : a < b
    · have h2 : ¬ b < a := fun q => by have := UInt8.lt_iff_toNat_lt.1 q; have := UInt8.lt_iff_toNat_lt.1 h1; omega
      simp [h1, h2]
    · by_cases h2 : b < a
      · have h3 : ¬ a = b := fun e => by subst e; exact h1 h2
        have h4 : ¬ b = a := fun e => h3 e.symm
        simp [h1, h2, h3, h4]
      · have h3 : a = b := by
          have q1 : ¬ a.toNat < b.toNat := fun q => h1 (UInt8.lt_iff_toNat_lt.2 q)
          have q2 : ¬ b.toNat < a.toNat := fun q => h2 (UInt8.lt_iff_toNat_lt.2 q)
          exact UInt8.toNat.inj (by omega)
        subst h3
        simp [h1]
theorem bytesOf_I (x : Id) : Lib.bytesOf (x.map fun b => (b.toNat : Int)) = x := by
  unfold Lib.bytesOf
  rw [List.map_map]
  conv => rhs; rw [← List.map_id x]
  apply List.map_congr_left
  intro b _
  simp
/-- the bytes of a slice of an id are read -/
theorem run_bytesOf_I {w : World} {b n c : Nat} {x : Id} (h : w.rangeAt b 0 (cellsI x)) (hn : x.length = n) : (Extern.Bytes.bytesOf (.slice (some ⟨b, 0, none⟩) n c)).run Try.prog w = .ok ⟨x.toArray⟩ w := by
  subst hn
  have := Lib.run_loadBytesX (P := Try.prog) w (x.map fun b => (b.toNat : Int)) ⟨b, 0, none⟩ .empty (fun j y hj => by
    rw [add_off, Nat.zero_add]
    have h1 := h j (.int .u8 y) (by
      unfold cellsI
      rw [List.getElem?_map] at hj ⊢
      obtain ⟨z, hz, rfl⟩ := Option.map_eq_some_iff.1 hj
      rw [hz]; rfl)
    rw [Nat.zero_add] at h1
    exact h1)
  rw [List.length_map, bytesOf_I] at this
  simp only [Extern.Bytes.bytesOf]
  rw [this]
  congr 1
  apply ByteArray.ext
  show (#[] : Array UInt8) ++ x.toArray = x.toArray
  simp
theorem run_compare_I {w : World} {b b' n n' c c' : Nat} {x y : Id} (h : w.rangeAt b 0 (cellsI x)) (h' : w.rangeAt b' 0 (cellsI y)) (hn : x.length = n) (hn' : y.length = n') :
    (Extern.BytealgCompare.compare #[.slice (some ⟨b, 0, none⟩) n c, .slice (some ⟨b', 0, none⟩) n' c']).run Try.prog w = .ok (.int .i64 (cmpI x y)) w := by
  change Sem.run Try.prog (do pure (goInt (Extern.BytealgCompare.cmp (← Extern.Bytes.bytesOf (.slice (some ⟨b, 0, none⟩) n c)) (← Extern.Bytes.bytesOf (.slice (some ⟨b', 0, none⟩) n' c'))))) w = _
  simp only [Sem.run_bind, Sem.run_pure, run_bytesOf_I h hn, run_bytesOf_I h' hn', Result.andThen]
  rw [Lib.cmp_eq, ← compare_I]
  rfl
end Go.Proofs.Ytameeejfkgoheaa.P
end
