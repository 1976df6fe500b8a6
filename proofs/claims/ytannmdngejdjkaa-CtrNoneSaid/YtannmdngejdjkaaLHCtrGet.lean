/- ctr.Get: what a key counts. By hand: the closure, the search, the call. -/
import Derived.Test.YtannmdngejdjkaaLHRegGet
namespace Go.Proofs.Ytannmdngejdjkaa.L
open Go.RowKit Go.Proofs.YtannmdngejdjkaaW.PrintWords Go.Proofs.YtannmdngejdjkaaW.PrintLast Go.Proofs.YtannmdngejdjkaaW.PrintMore
set_option linter.unusedVariables false
set_option linter.unusedSimpArgs false
def ctrKey (key : ByteArray) (x : S53) : Bool := x.f0.toList == key.toList

theorem ctr_clo (key : ByteArray) (B : Nat) (w : World) (hB : B < w.heap.size) (hcell : w.cell? ⟨B, 0, none⟩ = some (.string key)) (x : S53) :
    Calls Try.prog 74 #[.agg #[.string x.f0, .int .i64 x.f1], .pointer (some ⟨B, 0, none⟩)] w fun e w' => e = .returned (.bool (ctrKey key x)) ∧ Below w.heap.size w w' := by
  have hne : B ≠ w.heap.size := by omega
  have H := Aside0.mk (show ctrKey key x = (x.f0.toList == key.toList) from rfl)
  go_enter Try.func74, Try.ntmps74
  go_wp2
  go_ret
  exact ⟨rfl, below_alloc (Below.refl _ _) _⟩

theorem ctr_idx (key : ByteArray) (B : Nat) (w : World) (hB : B < w.heap.size) (hcell : w.cell? ⟨B, 0, none⟩ = some (.string key)) (A0 : Option Addr) (c0 : Nat) (l0 : List S53) (hr0 : Kd.C k53 w A0 l0.length l0) :
    Calls Try.prog 73 #[.slice A0 l0.length c0, .func (.func 74) #[] #[.pointer (some ⟨B, 0, none⟩)]] w fun e w' => e = .returned (.int .i64 (firstAt (ctrKey key) 0 l0)) ∧ Below w.heap.size w w' := by
  have HR := Aside0.mk hr0
  have HC := Aside0.mk hcell
  have HL := Aside0.mk hr0.2.1
  clear hr0 hcell
  go_enter Try.func73, Try.ntmps73
  go_wp2
  go_loopw [8] (fun i wr => ∃ k : Nat, k ≤ l0.length ∧ i = .int .i64 k ∧ Aside0 (∀ j, j < k → ∀ h : j < l0.length, ctrKey key l0[j] = false) ∧ Aside0 (Below w.heap.size w wr)) (fun i _ => l0.length - (intOf i).toNat)
  case atStart => exact ⟨0, Nat.zero_le _, rfl, ⟨fun j hj => by omega⟩, ⟨Below.refl _ _⟩⟩
  case round =>
    obtain ⟨k, hk, rfl, ha, HB⟩ := hrel
    by_cases hlt : k < l0.length
    · obtain ⟨ad, e, hx0, hx1⟩ := at_T53 HR.out k (by omega) (by omega)
      cases e
      replace hx0 := (HB.out.cell (World.block_lt_of_cell? w _ hx0)).trans hx0
      replace hx1 := (HB.out.cell (World.block_lt_of_cell? w _ hx1)).trans hx1
      simp only [Int.toNat_natCast] at hx0 hx1
      have HX := Aside0.mk (show rd_T53 l0 k = l0[k] by simp [rd_T53, List.getD_eq_getElem?_getD, List.getElem?_eq_getElem hlt])
      have h63 := HL.out
      have hBr : B < wr.heap.size := Nat.lt_of_lt_of_le hB HB.out.size
      have hcl := ctr_clo key B wr hBr ((HB.out.cell (p := ⟨B, 0, none⟩) hB).trans HC.out) (rd_T53 l0 k)
      have HCL := Aside0.mk hcl
      clear hcl
      cases hq : ctrKey key (rd_T53 l0 k) with
      | true =>
        have HF := Aside0.mk (show firstAt (ctrKey key) 0 l0 = (k : Int) by
          rw [← firstAt_drop (ctrKey key) l0 k hk ha.out, List.drop_eq_getElem_cons hlt]
          rw [HX.out] at hq
          simp [firstAt, hq])
        go_wp2_with fail
        refine HCL.out.mono ?_
        rintro e w' ⟨rfl, hb⟩
        have HB' := Aside0.mk (below_step HB.out hb)
        clear hx0 hx1 HB hb HCL hBr
        go_wp2
        go_ret
        exact ⟨by rw [HF.out]; rfl, HB'.out⟩
      | false =>
        have HF := Aside0.mk (show ∀ j, j < k + 1 → ∀ h : j < l0.length, ctrKey key l0[j] = false by
          intro j hj h
          rcases Nat.lt_or_ge j k with q | q
          · exact ha.out j q h
          · obtain rfl : j = k := by omega
            rw [← HX.out]; exact hq)
        go_wp2_with fail
        refine HCL.out.mono ?_
        rintro e w' ⟨rfl, hb⟩
        have HB' := Aside0.mk (below_step HB.out hb)
        clear hx0 hx1 HB hb HCL hBr ha
        go_wp2
        go_roundw
        case rel => exact ⟨k + 1, by omega, by go_num, HF, HB'⟩
        case measure => simp [intOf]; omega
    · have HF := Aside0.mk (show firstAt (ctrKey key) 0 l0 = -1 by
        obtain rfl : k = l0.length := by omega
        rw [← firstAt_drop (ctrKey key) l0 _ (Nat.le_refl _) ha.out, List.drop_length]; rfl)
      go_wp2
      go_ret
      exact ⟨by rw [HF.out]; rfl, HB.out⟩

def ctr_Get.f (l0 : List (S53)) (a1 : ByteArray) : Option (Int) :=
  match l0.find? (ctrKey a1) with
  | some x => some x.f1
  | none => some 0
set_option maxRecDepth 100000 in
theorem ctr_Get.calls (A0 : Option Addr) (c0 : Nat) (l0 : List (S53)) (a1 : ByteArray) (r : Int) (w : World) (hr0 : Kd.C k53 w A0 l0.length l0) (hc0 : l0.length ≤ c0) (h : ctr_Get.f l0 a1 = some r) :
    Calls Try.prog 42 #[.slice A0 l0.length c0, .string a1] w fun e w' => e = .returned (.int .i64 r) ∧ Below w.heap.size w w' := by
  have hu := Try.underlying53
  have HW := Aside0.mk (Below.refl w.heap.size w)
  have HR := Aside0.mk hr0
  have HL := Aside0.mk hr0.2.1
  have HI := fun W => ctr_idx a1 w.heap.size W
  rcases firstAt_find (ctrKey a1) l0 0 with ⟨h1, h2⟩ | ⟨j, hj, h1, h2⟩
  · obtain rfl : 0 = r := by simpa [ctr_Get.f, h2] using h
    have H1 := Aside0.mk h1
    clear h h1 h2 hr0 hc0
    go_enter Try.func42, Try.ntmps42
    go_wp2_with fail
    refine (HI _ ?h1 ?h2 A0 c0 l0 (Kd.C_below HR.out (below_alloc HW.out _))).mono ?_
    case h1 => simp
    case h2 => simp
    rintro e w' ⟨rfl, hb⟩
    have HB := Aside0.mk (below_step (below_alloc HW.out _) hb)
    clear hb HI HW
    rw [H1.out]
    go_wp2
    go_ret
    exact ⟨rfl, HB.out⟩
  · have HX := Aside0.mk (show rd_T53 l0 j = l0[j] by simp [rd_T53, List.getD_eq_getElem?_getD, List.getElem?_eq_getElem hj])
    obtain rfl : l0[j].f1 = r := by simpa [ctr_Get.f, h2] using h
    rw [← HX.out]
    have H1 := Aside0.mk (show firstAt (ctrKey a1) 0 l0 = (j : Int) by rw [h1]; simp)
    clear h h1 h2 hr0 hc0 HX
    obtain ⟨ad, e, hx0, hx1⟩ := at_T53 HR.out j (by omega) (by omega)
    cases e
    simp only [Int.toNat_natCast, add_plain] at hx0 hx1
    have HX1 := Aside0.mk hx1
    clear hx0 hx1
    go_enter Try.func42, Try.ntmps42
    go_wp2_with fail
    refine (HI _ ?h1 ?h2 (some ad) c0 l0 (Kd.C_below HR.out (below_alloc HW.out _))).mono ?_
    case h1 => simp
    case h2 => simp
    rintro e w' ⟨rfl, hb⟩
    have HB := Aside0.mk (below_step (below_alloc HW.out _) hb)
    clear hb HI HW
    rw [H1.out]
    have hx1 := (HB.out.cell (World.block_lt_of_cell? w _ HX1.out)).trans HX1.out
    have hl := HL.out
    clear HX1
    go_wp2
    go_ret
    exact ⟨rfl, HB.out⟩
end Go.Proofs.Ytannmdngejdjkaa.L
