/- Ids as values, in rows, and as keys of a map: what the walks read. -/
import Derived.Test.YtkgjdeicjkibiaaProg
import Derived.Below
import Derived.Deep.Draws
import Derived.Deep.AppendLies
import Derived.Maps.AppendAt
import Derived.OwnWalk
import Derived.Laws.BytesArg
import Derived.Laws.MakeOwn
import Derived.Laws.OwnMore
import Derived.Deep.OwnRows
import Derived.Tactics
import Derived.Lib.ConvBytes
import Derived.Laws.Slices
import Derived.WalkKit
import Derived.KernelRfl
import Derived.RowKit3
import Derived.Deep.LoopGhost
import Derived.Deep.QuietTactic
import Derived.BigQuiet
import Derived.WideLaws
import Derived.Deep.DeepCutAuto
import Derived.Deep.CutBlock
import Derived.Deep.RegionHeld3
import Derived.Laws.Rows
import Derived.Lib.AppendStr
import Derived.ArgAppend
import Derived.Laws.IdiomCopy
import Derived.OrdersHeld
import Derived.Laws.BitsLemmas
import Derived.RowKit
import Derived.Test.YtkgjdeicjkibiaaWWords
import Derived.Test.YtkgjdeicjkibiaaWLast
import Derived.Test.YtkgjdeicjkibiaaWTab
import Derived.Test.YtkgjdeicjkibiaaWFour
import Derived.Test.YtkgjdeicjkibiaaWQPut
import Derived.Test.YtkgjdeicjkibiaaWApart
import Derived.Test.YtkgjdeicjkibiaaWArr
import Derived.Test.YtkgjdeicjkibiaaWZeros
import Derived.Test.YtkgjdeicjkibiaaWFoot
import Derived.Test.YtkgjdeicjkibiaaWKept
import Derived.Test.YtkgjdeicjkibiaaWShare
import Derived.Test.YtkgjdeicjkibiaaWN
import Derived.Test.YtkgjdeicjkibiaaWFootNe
import Derived.Test.YtkgjdeicjkibiaaWAt
import Derived.Test.YtkgjdeicjkibiaaWEqStruct
import Derived.Test.YtkgjdeicjkibiaaWRepsOne
import Derived.Test.YtkgjdeicjkibiaaWInv
import Derived.Test.YtkgjdeicjkibiaaWInvWords
import Derived.Test.YtkgjdeicjkibiaaWGuard
import Derived.Test.YtkgjdeicjkibiaaWNEv
import Derived.Test.YtkgjdeicjkibiaaWMore
import Derived.Deep.MidRow
import Derived.Lib.BytesEntry
import Derived.Test.YtkgjdeicjkibiaaDIPure
namespace Go.Proofs.Ytkgjdeicjkibiaa.D
open Go.RowKit Go.Proofs.YtkgjdeicjkibiaaW.PrintWords Go.Proofs.YtkgjdeicjkibiaaW.PrintLast Go.Proofs.YtkgjdeicjkibiaaW.PrintMore Go.Proofs.YtkgjdeicjkibiaaW
set_option linter.unusedVariables false
set_option linter.unusedSimpArgs false
def cellI (b : UInt8) : Value := .int .u8 (b.toNat : Int)
def cellsI (x : Id) : List Value := x.map cellI
def arrI (x : Id) : Array Value := (cellsI x).toArray
abbrev valI (x : Id) : Value := .agg (arrI x)
theorem cellsI_length (x : Id) : (cellsI x).length = x.length := List.length_map _
theorem cellsI_ok {x : Id} (h : okId x) : (cellsI x).length = 32 := (cellsI_length x).trans h
theorem cellsI_one (x : Id) : ∀ u ∈ cellsI x, u.oneCell' = true := fun u hu => by
  obtain ⟨b, _, rfl⟩ := List.mem_map.1 hu
  rfl
theorem cellI_inj {a b : UInt8} (h : cellI a = cellI b) : a = b := by
  unfold cellI at h
  injection h with _ h
  exact UInt8.toNat.inj (by omega)
theorem cellsI_inj : ∀ {x y : Id}, cellsI x = cellsI y → x = y
  | [], [], _ => rfl
  | [], _ :: _, h => by cases h
  | _ :: _, [], h => by cases h
  | a :: x, b :: y, h => by
    unfold cellsI at h
    rw [List.map_cons, List.map_cons] at h
    injection h with h1 h2
    rw [cellI_inj h1, cellsI_inj h2]
theorem valI_inj {x y : Id} (h : valI x = valI y) : x = y := by
  injection h with h
  exact cellsI_inj (by simpa [arrI] using h)
def kI : Kd Id where
  sz := 32
  E := []
  K := fun _ x cs => cs = cellsI x ∧ okId x
  M := fun _ _ _ x cs => cs = cellsI x ∧ okId x
  K_len := fun h => by rw [h.1]; exact cellsI_ok h.2
  K_one := fun h u hu => by rw [h.1] at hu; exact cellsI_one _ u hu
  K_below := fun _ h => h
  K_of_M := fun h => h
  M_mono := fun _ h => h
  M_bound := fun h => h
  M_move := fun _ h => h
  M_lower := fun _ h => h
def rdI (l : List Id) (i : Nat) : Id := l.getD i []
theorem rdI_at (l : List Id) (k : Nat) (h : k < l.length) : rdI l k = l[k] := by
  simp [rdI, List.getD_eq_getElem?_getD, List.getElem?_eq_getElem h]
theorem add_off (b o j : Nat) : (⟨b, o, none⟩ : Addr).add j = ⟨b, o + j, none⟩ := by unfold Addr.add; split <;> simp_all
/-- an element of a row of ids -/
theorem at_I {w : World} {A : Option Addr} {n : Nat} {xs : List Id} (h : Kd.C kI w A n xs) (i : Nat) (hi : i < n) : ∃ b o, A = some ⟨b, o, none⟩ ∧ w.rangeAt b (o + i * 32) (cellsI (rdI xs i)) ∧ okId (rdI xs i) := by
  obtain ⟨hl, _, hr⟩ := h
  obtain ⟨ad, e, hc⟩ := hr (by omega)
  have hi' : i < xs.length := by omega
  obtain ⟨c, hcl, ⟨rfl, hok⟩, hcell⟩ := hc i _ (List.getElem?_eq_getElem hi')
  obtain ⟨c0, hcl0, ⟨rfl, hok0⟩, hcell0⟩ := hc 0 _ (List.getElem?_eq_getElem (show 0 < xs.length by omega))
  have hn : ad.spot = none := by
    have hlt : 0 < (cellsI xs[0]).length := by rw [cellsI_ok hok0]; omega
    have h0 := hcell0 0 _ (List.getElem?_eq_getElem hlt)
    simp only [Nat.zero_mul, Nat.add_zero] at h0
    have h1 : ad.add 0 = ad := by unfold Addr.add; rw [if_pos rfl]
    rw [h1] at h0
    unfold World.cell? at h0
    cases hsp : ad.spot with
    | none => rfl
    | some s =>
      rw [hsp] at h0
      revert h0
      split <;> simp
  obtain ⟨b, o, sp⟩ := ad
  cases hn
  refine ⟨b, o, e, ?_, ?_⟩
  · rw [rdI_at xs i hi']
    intro j v hv
    have := hcell j v hv
    rw [add_off] at this
    rw [Nat.add_assoc]
    exact this
  · rw [rdI_at xs i hi']; exact hok
theorem range_below {w w1 : World} {b o : Nat} {cs : List Value} (h : w.rangeAt b o cs) (hb : Below w.heap.size w w1) : w1.rangeAt b o cs := fun j v hv => pw_cell_below hb (h j v hv)
theorem range_of_blk {w : World} {g t : Nat} {cs : List Value} (h : w.heap[g]? = some (.cells cs.toArray t (0, 0))) : w.rangeAt g 0 cs := fun j v hv => by
  rw [Nat.zero_add]
  unfold World.cell?
  rw [h]
  simp [hv]
theorem there_of_blk {w : World} {g t : Nat} {cs : List Value} (h : w.heap[g]? = some (.cells cs.toArray t (0, 0))) : w.there g 0 cs.length := fun j hj => by
  rw [Nat.zero_add]
  refine ⟨?_, blk_frozen h j⟩
  unfold World.cell?
  rw [h]
  simp [hj]
theorem info_I {x : Id} (h : okId x) : (Try.prog.info? 23).map (·.size) = some (cellsI x).length := by rw [cellsI_ok h]; kernel_rfl
/-- an id is read -/
theorem load_I {w : World} {b o : Nat} {x : Id} (h : w.rangeAt b o (cellsI x)) (hx : okId x) : (Instr.loadAt 23 (.pointer (some ⟨b, o, none⟩))).run Try.prog w = .ok (valI x) w :=
  run_loadAt_mid w b o 23 (cellsI x) _ h Try.underlying23 rfl (info_I hx)
theorem store_I {w : World} {b o : Nat} {x : Id} (h : w.there b o 32) (hx : okId x) : (Instr.storeAt 23 (.pointer (some ⟨b, o, none⟩)) (valI x)).run Try.prog w = .ok () (w.setCells b o (cellsI x)) := by
  have := run_storeAt_mid (P := Try.prog) w b o 23 (cellsI x).toArray (by rw [List.size_toArray, cellsI_ok hx]; exact h) (by rw [List.size_toArray]; exact info_I hx) (all_oneCell_toArray (cellsI_one x))
  rw [List.toList_toArray] at this
  exact this
/-- which one of two comes first -/
def cmpI (x y : Id) : Int := if ltI x y then -1 else if ltI y x then 1 else 0
theorem compare_I : ∀ x y : Id, Lib.compareBytes x y = cmpI x y
  | [], [] => by simp [Lib.compareBytes, cmpI, ltI, Op.bytesLess]
  | [], _ :: _ => by simp [Lib.compareBytes, cmpI, ltI, Op.bytesLess]
  | _ :: _, [] => by simp [Lib.compareBytes, cmpI, ltI, Op.bytesLess]
  | a :: x, b :: y => by
    have ih := compare_I x y
    unfold cmpI ltI at ih ⊢
    unfold Lib.compareBytes
    rw [ih]
    simp only [Op.bytesLess]
    by_cases h1 : a < b
    · have h2 : ¬ b < a := fun q => by have := UInt8.lt_iff_toNat_lt.1 q; have := UInt8.lt_iff_toNat_lt.1 h1; omega
      simp [h1, h2]
    · by_cases h2 : b < a
      · have h3 : ¬ a = b := fun e => by subst e; exact h1 h2
        have h4 : ¬ b = a := fun e => h3 e.symm
        simp [h1, h2, h3, h4]
      · have h3 : a = b := by
          have q1 : ¬ a.toNat < b.toNat := fun q => h1 (UInt8.lt_iff_toNat_lt.2 q)
          have q2 : ¬ b.toNat < a.toNat := fun q => h2 (UInt8.lt_iff_toNat_lt.2 q)
          exact UInt8.toNat.inj (by omega)
        subst h3
        simp [h1]
theorem bytesOf_I (x : Id) : Lib.bytesOf (x.map fun b => (b.toNat : Int)) = x := by
  unfold Lib.bytesOf
  rw [List.map_map]
  conv => rhs; rw [← List.map_id x]
  apply List.map_congr_left
  intro b _
  simp
/-- the bytes of a slice of an id are read -/
theorem run_bytesOf_I {w : World} {b n c : Nat} {x : Id} (h : w.rangeAt b 0 (cellsI x)) (hn : x.length = n) : (Extern.Bytes.bytesOf (.slice (some ⟨b, 0, none⟩) n c)).run Try.prog w = .ok ⟨x.toArray⟩ w := by
  subst hn
  have := Lib.run_loadBytesX (P := Try.prog) w (x.map fun b => (b.toNat : Int)) ⟨b, 0, none⟩ .empty (fun j y hj => by
    rw [add_off, Nat.zero_add]
    have h1 := h j (.int .u8 y) (by
      unfold cellsI
      rw [List.getElem?_map] at hj ⊢
      obtain ⟨z, hz, rfl⟩ := Option.map_eq_some_iff.1 hj
      rw [hz]; rfl)
    rw [Nat.zero_add] at h1
    exact h1)
  rw [List.length_map, bytesOf_I] at this
  simp only [Extern.Bytes.bytesOf]
  rw [this]
  congr 1
  apply ByteArray.ext
  show (#[] : Array UInt8) ++ x.toArray = x.toArray
  simp
theorem run_compare_I {w : World} {b b' n n' c c' : Nat} {x y : Id} (h : w.rangeAt b 0 (cellsI x)) (h' : w.rangeAt b' 0 (cellsI y)) (hn : x.length = n) (hn' : y.length = n') :
    (Extern.BytealgCompare.compare #[.slice (some ⟨b, 0, none⟩) n c, .slice (some ⟨b', 0, none⟩) n' c']).run Try.prog w = .ok (.int .i64 (cmpI x y)) w := by
  change Sem.run Try.prog (do pure (goInt (Extern.BytealgCompare.cmp (← Extern.Bytes.bytesOf (.slice (some ⟨b, 0, none⟩) n c)) (← Extern.Bytes.bytesOf (.slice (some ⟨b', 0, none⟩) n' c'))))) w = _
  simp only [Sem.run_bind, Sem.run_pure, run_bytesOf_I h hn, run_bytesOf_I h' hn', Result.andThen]
  rw [Lib.cmp_eq, ← compare_I]
  rfl
end Go.Proofs.Ytkgjdeicjkibiaa.D
