/- reg.Get: the first register of a key. By hand: the closure, the search, the call. -/
import Derived.Test.YtannmdngejdjkaaLx0
import Derived.Lib.SliceRun
namespace Go.Proofs.Ytannmdngejdjkaa.L
open Go.RowKit Go.Proofs.YtannmdngejdjkaaW.PrintWords Go.Proofs.YtannmdngejdjkaaW.PrintLast Go.Proofs.YtannmdngejdjkaaW.PrintMore
set_option linter.unusedVariables false
set_option linter.unusedSimpArgs false

/-- the first one of a list that meets p, behind k others -/
def firstAt {α : Type} (p : α → Bool) : Nat → List α → Int
  | _, [] => -1
  | k, x :: l => if p x then (k : Int) else firstAt p (k + 1) l
theorem firstAt_drop {α : Type} (p : α → Bool) (l : List α) : ∀ (k : Nat), k ≤ l.length → (∀ j, j < k → ∀ h : j < l.length, p l[j] = false) → firstAt p k (l.drop k) = firstAt p 0 l := by
  intro k
  induction k with
  | zero => intro _ _; rfl
  | succ k ih =>
    intro hk hp
    rw [← ih (by omega) (fun j hj h => hp j (by omega) h)]
    rw [List.drop_eq_getElem_cons (show k < l.length by omega)]
    simp [firstAt, hp k (by omega) (by omega)]
def regEnc (x : S26) : Value := .agg #[.string x.f0, .string x.f1, .int .i64 x.f2, .int .i64 x.f3.f0, .int .i64 x.f3.f1]
def regKey (key : ByteArray) (x : S26) : Bool := x.f0.toList == key.toList

theorem reg_clo (key : ByteArray) (B : Nat) (w : World) (hB : B < w.heap.size) (hcell : w.cell? ⟨B, 0, none⟩ = some (.string key)) (x : S26) :
    Calls Try.prog 65 #[.agg #[.string x.f0, .string x.f1, .int .i64 x.f2, .int .i64 x.f3.f0, .int .i64 x.f3.f1], .pointer (some ⟨B, 0, none⟩)] w fun e w' => e = .returned (.bool (regKey key x)) ∧ Below w.heap.size w w' := by
  have hne : B ≠ w.heap.size := by omega
  have H := Aside0.mk (show regKey key x = (x.f0.toList == key.toList) from rfl)
  go_enter Try.func65, Try.ntmps65
  go_wp2
  go_ret
  exact ⟨rfl, below_alloc (Below.refl _ _) _⟩

theorem reg_idx (key : ByteArray) (B : Nat) (w : World) (hB : B < w.heap.size) (hcell : w.cell? ⟨B, 0, none⟩ = some (.string key)) (A0 : Option Addr) (c0 : Nat) (l0 : List S26) (hr0 : Kd.C k26 w A0 l0.length l0) :
    Calls Try.prog 64 #[.slice A0 l0.length c0, .func (.func 65) #[] #[.pointer (some ⟨B, 0, none⟩)]] w fun e w' => e = .returned (.int .i64 (firstAt (regKey key) 0 l0)) ∧ Below w.heap.size w w' := by
  have HR := Aside0.mk hr0
  have HC := Aside0.mk hcell
  have HL := Aside0.mk hr0.2.1
  clear hr0 hcell
  go_enter Try.func64, Try.ntmps64
  go_wp2
  go_loopw [8] (fun i wr => ∃ k : Nat, k ≤ l0.length ∧ i = .int .i64 k ∧ Aside0 (∀ j, j < k → ∀ h : j < l0.length, regKey key l0[j] = false) ∧ Aside0 (Below w.heap.size w wr)) (fun i _ => l0.length - (intOf i).toNat)
  case atStart => exact ⟨0, Nat.zero_le _, rfl, ⟨fun j hj => by omega⟩, ⟨Below.refl _ _⟩⟩
  case round =>
    obtain ⟨k, hk, rfl, ha, HB⟩ := hrel
    by_cases hlt : k < l0.length
    · obtain ⟨ad, e, hx0, hx1, hx2, hx3, hx4⟩ := at_T26 HR.out k (by omega) (by omega)
      cases e
      replace hx0 := (HB.out.cell (World.block_lt_of_cell? w _ hx0)).trans hx0
      replace hx1 := (HB.out.cell (World.block_lt_of_cell? w _ hx1)).trans hx1
      replace hx2 := (HB.out.cell (World.block_lt_of_cell? w _ hx2)).trans hx2
      replace hx3 := (HB.out.cell (World.block_lt_of_cell? w _ hx3)).trans hx3
      replace hx4 := (HB.out.cell (World.block_lt_of_cell? w _ hx4)).trans hx4
      simp only [Int.toNat_natCast] at hx0 hx1 hx2 hx3 hx4
      have HX := Aside0.mk (show rd_T26 l0 k = l0[k] by simp [rd_T26, List.getD_eq_getElem?_getD, List.getElem?_eq_getElem hlt])
      have h63 := HL.out
      have hBr : B < wr.heap.size := Nat.lt_of_lt_of_le hB HB.out.size
      have hcl := reg_clo key B wr hBr ((HB.out.cell (p := ⟨B, 0, none⟩) hB).trans HC.out) (rd_T26 l0 k)
      have HCL := Aside0.mk hcl
      clear hcl
      cases hq : regKey key (rd_T26 l0 k) with
      | true =>
        have HF := Aside0.mk (show firstAt (regKey key) 0 l0 = (k : Int) by
          rw [← firstAt_drop (regKey key) l0 k hk ha.out, List.drop_eq_getElem_cons hlt]
          rw [HX.out] at hq
          simp [firstAt, hq])
        go_wp2_with fail
        refine HCL.out.mono ?_
        rintro e w' ⟨rfl, hb⟩
        have HB' := Aside0.mk (below_step HB.out hb)
        clear hx0 hx1 hx2 hx3 hx4 HB hb HCL hBr
        go_wp2
        go_ret
        exact ⟨by rw [HF.out]; rfl, HB'.out⟩
      | false =>
        have HF := Aside0.mk (show ∀ j, j < k + 1 → ∀ h : j < l0.length, regKey key l0[j] = false by
          intro j hj h
          rcases Nat.lt_or_ge j k with q | q
          · exact ha.out j q h
          · obtain rfl : j = k := by omega
            rw [← HX.out]; exact hq)
        go_wp2_with fail
        refine HCL.out.mono ?_
        rintro e w' ⟨rfl, hb⟩
        have HB' := Aside0.mk (below_step HB.out hb)
        clear hx0 hx1 hx2 hx3 hx4 HB hb HCL hBr ha
        go_wp2
        go_roundw
        case rel => exact ⟨k + 1, by omega, by go_num, HF, HB'⟩
        case measure => simp [intOf]; omega
    · have HF := Aside0.mk (show firstAt (regKey key) 0 l0 = -1 by
        obtain rfl : k = l0.length := by omega
        rw [← firstAt_drop (regKey key) l0 _ (Nat.le_refl _) ha.out, List.drop_length]; rfl)
      go_wp2
      go_ret
      exact ⟨by rw [HF.out]; rfl, HB.out⟩

theorem firstAt_find {α : Type} (p : α → Bool) : ∀ (l : List α) (k : Nat), (firstAt p k l = -1 ∧ l.find? p = none) ∨ ∃ (j : Nat) (h : j < l.length), firstAt p k l = ((k + j : Nat) : Int) ∧ l.find? p = some l[j]
  | [], _ => .inl ⟨rfl, rfl⟩
  | x :: l, k => by
    unfold firstAt
    cases hp : p x with
    | true => exact .inr ⟨0, by simp, by simp, by simp [hp]⟩
    | false =>
      simp only [List.find?_cons, hp]
      rcases firstAt_find p l (k + 1) with ⟨h1, h2⟩ | ⟨j, h, h1, h2⟩
      · exact .inl ⟨by simpa using h1, h2⟩
      · exact .inr ⟨j + 1, by simp; omega, by rw [if_neg (by simp)]; rw [h1]; congr 1; omega, by simpa using h2⟩
def reg_Get.f (l0 : List (S26)) (a1 : ByteArray) : Option (ByteArray × ByteArray × Int × Int × Int × Bool) :=
  match l0.find? (regKey a1) with
  | some x => some (x.f0, x.f1, x.f2, x.f3.f0, x.f3.f1, true)
  | none => some (⟨#[]⟩, ⟨#[]⟩, 0, 0, 0, false)
set_option maxRecDepth 100000 in
theorem reg_Get.calls (A0 : Option Addr) (c0 : Nat) (l0 : List (S26)) (a1 : ByteArray) (r1 : ByteArray) (r2 : ByteArray) (r3 : Int) (r4 : Int) (r5 : Int) (r6 : Bool) (w : World) (hr0 : Kd.C k26 w A0 l0.length l0) (hc0 : l0.length ≤ c0) (h : reg_Get.f l0 a1 = some (r1, r2, r3, r4, r5, r6)) :
    Calls Try.prog 28 #[.slice A0 l0.length c0, .string a1] w fun e w' => e = .returned (.tuple #[.agg #[.string r1, .string r2, .int .i64 r3, .int .i64 r4, .int .i64 r5], .bool r6]) ∧ Below w.heap.size w w' := by
  have hu := Try.underlying26
  have HW := Aside0.mk (Below.refl w.heap.size w)
  have HR := Aside0.mk hr0
  have HL := Aside0.mk hr0.2.1
  have HI := fun W => reg_idx a1 w.heap.size W
  rcases firstAt_find (regKey a1) l0 0 with ⟨h1, h2⟩ | ⟨j, hj, h1, h2⟩
  · have H2 : (⟨#[]⟩, ⟨#[]⟩, 0, 0, 0, false) = (r1, r2, r3, r4, r5, r6) := by simpa [reg_Get.f, h2] using h
    simp only [Prod.mk.injEq] at H2
    obtain ⟨rfl, rfl, rfl, rfl, rfl, rfl⟩ := H2
    have H1 := Aside0.mk h1
    clear h h1 h2 hr0 hc0
    go_enter Try.func28, Try.ntmps28
    go_wp2_with fail
    refine (HI _ ?h1 ?h2 A0 c0 l0 (Kd.C_below HR.out (below_alloc (below_alloc HW.out _) _))).mono ?_
    case h1 => simp; omega
    case h2 => simp
    rintro e w' ⟨rfl, hb⟩
    have hk := blk_below (blk_new _ _) hb
    have hlt := blk_lt hk
    have HB := Aside0.mk (below_step (below_alloc (below_alloc HW.out _) _) hb)
    clear hb HI HW
    rw [H1.out]
    simp only [World.size_alloc] at hk hlt
    have hc0 := (blk_cell hk 0).trans rfl
    have hc1 := (blk_cell hk 1).trans rfl
    have hc2 := (blk_cell hk 2).trans rfl
    have hc3 := (blk_cell hk 3).trans rfl
    have hc4 := (blk_cell hk 4).trans rfl
    have hf0 := blk_frozen hk 0
    have hf1 := blk_frozen hk 1
    have hf2 := blk_frozen hk 2
    have hf3 := blk_frozen hk 3
    have hf4 := blk_frozen hk 4
    clear hk
    go_wp2
    refine bodyPost_ret (v := .tuple #[.agg #[.string ⟨#[]⟩, .string ⟨#[]⟩, .int .i64 0, .int .i64 0, .int .i64 0], .bool false]) (by simp [results, Try.results28, go_sem, hc0, hc1, hc2, hc3, hc4]) rfl ⟨rfl, ?_⟩
    exact below_set (below_set (below_set (below_set (below_set HB.out (by omega)) (by omega)) (by omega)) (by omega)) (by omega)
  · have H2 : (l0[j].f0, l0[j].f1, l0[j].f2, l0[j].f3.f0, l0[j].f3.f1, true) = (r1, r2, r3, r4, r5, r6) := by simpa [reg_Get.f, h2] using h
    have HX := Aside0.mk (show rd_T26 l0 j = l0[j] by simp [rd_T26, List.getD_eq_getElem?_getD, List.getElem?_eq_getElem hj])
    rw [← HX.out] at H2
    simp only [Prod.mk.injEq] at H2
    obtain ⟨rfl, rfl, rfl, rfl, rfl, rfl⟩ := H2
    have H1 := Aside0.mk (show firstAt (regKey a1) 0 l0 = (j : Int) by rw [h1]; simp)
    clear h h1 h2 hr0 hc0 HX
    obtain ⟨ad, e, hx0, hx1, hx2, hx3, hx4⟩ := at_T26 HR.out j (by omega) (by omega)
    cases e
    simp only [Int.toNat_natCast] at hx0 hx1 hx2 hx3 hx4
    have HX0 := Aside0.mk hx0
    have HX1 := Aside0.mk hx1
    have HX2 := Aside0.mk hx2
    have HX3 := Aside0.mk hx3
    have HX4 := Aside0.mk hx4
    clear hx0 hx1 hx2 hx3 hx4
    go_enter Try.func28, Try.ntmps28
    go_wp2_with fail
    refine (HI _ ?h1 ?h2 (some ad) c0 l0 (Kd.C_below HR.out (below_alloc (below_alloc HW.out _) _))).mono ?_
    case h1 => simp; omega
    case h2 => simp
    rintro e w' ⟨rfl, hb⟩
    have hk := blk_below (blk_new _ _) hb
    have hlt := blk_lt hk
    have HB := Aside0.mk (below_step (below_alloc (below_alloc HW.out _) _) hb)
    clear hb HI HW
    rw [H1.out]
    simp only [World.size_alloc] at hk hlt
    have hc0 := (blk_cell hk 0).trans rfl
    have hc1 := (blk_cell hk 1).trans rfl
    have hc2 := (blk_cell hk 2).trans rfl
    have hc3 := (blk_cell hk 3).trans rfl
    have hc4 := (blk_cell hk 4).trans rfl
    have hf0 := blk_frozen hk 0
    have hf1 := blk_frozen hk 1
    have hf2 := blk_frozen hk 2
    have hf3 := blk_frozen hk 3
    have hf4 := blk_frozen hk 4
    clear hk
    have hx0 := (HB.out.cell (World.block_lt_of_cell? w _ HX0.out)).trans HX0.out
    have hx1 := (HB.out.cell (World.block_lt_of_cell? w _ HX1.out)).trans HX1.out
    have hx2 := (HB.out.cell (World.block_lt_of_cell? w _ HX2.out)).trans HX2.out
    have hx3 := (HB.out.cell (World.block_lt_of_cell? w _ HX3.out)).trans HX3.out
    have hx4 := (HB.out.cell (World.block_lt_of_cell? w _ HX4.out)).trans HX4.out
    have hl := HL.out
    clear HX0 HX1 HX2 HX3 HX4
    go_wp2
    refine bodyPost_ret (v := .tuple #[.agg #[.string (rd_T26 l0 j).f0, .string (rd_T26 l0 j).f1, .int .i64 (rd_T26 l0 j).f2, .int .i64 (rd_T26 l0 j).f3.f0, .int .i64 (rd_T26 l0 j).f3.f1], .bool true]) (by simp [results, Try.results28, go_sem, hc0, hc1, hc2, hc3, hc4]) rfl ⟨rfl, ?_⟩
    exact below_set (below_set (below_set (below_set (below_set HB.out (by omega)) (by omega)) (by omega)) (by omega)) (by omega)
end Go.Proofs.Ytannmdngejdjkaa.L
