/- ref04.Less at two ids: the first byte in which they differ tells. By hand. -/
import Derived.Test.YtkgjdeicjkibiaaDIHas
namespace Go.Proofs.Ytkgjdeicjkibiaa.D
open Go.RowKit Go.Maps Go.Proofs.YtkgjdeicjkibiaaW.PrintWords Go.Proofs.YtkgjdeicjkibiaaW.PrintLast Go.Proofs.YtkgjdeicjkibiaaW.PrintMore Go.Proofs.YtkgjdeicjkibiaaW
set_option linter.unusedVariables false
set_option linter.unusedSimpArgs false
theorem less_at : ∀ (x y : List UInt8) (k : Nat), k < x.length → k < y.length → x.take k = y.take k → x.getD k 0 ≠ y.getD k 0 → ltI x y = decide (x.getD k 0 < y.getD k 0)
  | [], _, k, h, _, _, _ => absurd h (by simp)
  | _ :: _, [], k, _, h, _, _ => absurd h (by simp)
  | a :: x, b :: y, 0, _, _, _, hne => by
    have hne' : a ≠ b := by simpa using hne
    unfold ltI
    simp only [Op.bytesLess, List.getD_cons_zero]
    by_cases h1 : a < b
    · simp [h1]
    · simp [h1, hne']
  | a :: x, b :: y, k + 1, h1, h2, ht, hne => by
    simp only [List.take_succ_cons, List.cons.injEq] at ht
    obtain ⟨rfl, ht⟩ := ht
    have ih := less_at x y k (by simpa using h1) (by simpa using h2) ht (by simpa using hne)
    unfold ltI at ih ⊢
    simp only [Op.bytesLess, List.getD_cons_succ]
    rw [ih]
    have : ¬ a < a := fun q => by have := UInt8.lt_iff_toNat_lt.1 q; omega
    simp [this]
theorem take_getD {x y : List UInt8} {k : Nat} (hx : k < x.length) (hy : k < y.length) (h : x.take k = y.take k) (he : x.getD k 0 = y.getD k 0) : x.take (k + 1) = y.take (k + 1) := by
  rw [List.take_succ_eq_append_getElem hx, List.take_succ_eq_append_getElem hy, h]
  have e1 : x.getD k 0 = x[k] := by simp [List.getD_eq_getElem?_getD, hx]
  have e2 : y.getD k 0 = y[k] := by simp [List.getD_eq_getElem?_getD, hy]
  rw [← e1, ← e2, he]
theorem cell_I {x : Id} (hx : okId x) {w : World} {b : Nat} (h : w.rangeAt b 0 (cellsI x)) (k : Nat) (hk : k < 32) : w.cell? ⟨b, k, none⟩ = some (.int .u8 ((x.getD k 0).toNat : Int)) := by
  have hx' : k < x.length := by rw [hx]; exact hk
  have := h k (.int .u8 ((x.getD k 0).toNat : Int)) (by
    simp [cellsI, cellI, List.getD_eq_getElem?_getD, hx'])
  rw [Nat.zero_add] at this
  exact this
set_option maxHeartbeats 4000000 in
set_option maxRecDepth 100000 in
theorem rless_calls {x y : Id} (hx : okId x) (hy : okId y) (w : World) :
    Calls Try.prog 26 #[valI x, valI y] w fun e w' => e = .returned (.bool (ltI x y)) ∧ Below w.heap.size w w' := by
  generalize hQ : ltI x y = Q
  have HQ := Aside0.mk hQ
  clear hQ
  have HX0 : Aside0 (((w.alloc (.cells (arrI x) 23)).alloc (.cells (arrI y) 23)).rangeAt w.heap.size 0 (cellsI x)) := ⟨range_of_blk (t := 23) (blk_alloc (blk_new w _) _)⟩
  have HY0 : Aside0 (((w.alloc (.cells (arrI x) 23)).alloc (.cells (arrI y) 23)).rangeAt (w.heap.size + 1) 0 (cellsI y)) := ⟨range_of_blk (t := 23) (show _ = some (Obj.cells (arrI y) 23 (0, 0)) by have := blk_new (w.alloc (.cells (arrI x) 23)) (.cells (arrI y) 23); simpa using this)⟩
  have HB0 := Aside0.mk (below_alloc (below_alloc (Below.refl w.heap.size w) (.cells (arrI x) 23)) (.cells (arrI y) 23))
  go_enter Try.func26, Try.ntmps26
  go_wp2_with fail
  go_loopw [5] (fun i wr => ∃ k : Nat, k ≤ 32 ∧ i = .int .i64 k ∧ Aside0 (x.take k = y.take k) ∧ Aside0 (wr.rangeAt w.heap.size 0 (cellsI x)) ∧ Aside0 (wr.rangeAt (w.heap.size + 1) 0 (cellsI y)) ∧ Aside0 (Below w.heap.size w wr)) (fun i _ => 32 - (intOf i).toNat)
  case atStart => exact ⟨0, Nat.zero_le _, rfl, ⟨rfl⟩, HX0, HY0, HB0⟩
  case round =>
    clear HX0 HY0 HB0
    obtain ⟨k, hk, rfl, hN, HX, HY, HB⟩ := hrel
    by_cases hlt : k < 32
    · have hcx := cell_I hx HX.out k hlt
      have hcy := cell_I hy HY.out k hlt
      have HXd : Aside0 (wr.drew.rangeAt w.heap.size 0 (cellsI x)) := ⟨HX.out⟩
      have HYd : Aside0 (wr.drew.rangeAt (w.heap.size + 1) 0 (cellsI y)) := ⟨HY.out⟩
      have HBd := Aside0.mk (below_drew HB.out)
      have HE : Aside0 (x.getD k 0 = y.getD k 0 → x.take (k + 1) = y.take (k + 1)) := ⟨take_getD (by rw [hx]; exact hlt) (by rw [hy]; exact hlt) hN.out⟩
      have HL : Aside0 (x.getD k 0 ≠ y.getD k 0 → Q = decide ((x.getD k 0).toNat < (y.getD k 0).toNat)) := ⟨fun hne => by
        rw [← HQ.out, less_at x y k (by rw [hx]; exact hlt) (by rw [hy]; exact hlt) hN.out hne]
        exact decide_eq_decide.2 UInt8.lt_iff_toNat_lt⟩
      generalize x.getD k 0 = p at hcx HE HL
      generalize y.getD k 0 = q at hcy HE HL
      have hk0 : (0 : Int) ≤ (k : Int) := Int.natCast_nonneg _
      by_cases hpq : (p.toNat : Int) = (q.toNat : Int)
      · have hN2 := Aside0.mk (HE.out (UInt8.toNat.inj (by omega)))
        clear HE HL
        go_wp2
        go_region
        go_wp2
        go_roundw
        case rel => exact ⟨k + 1, by omega, by go_num, hN2, HXd, HYd, HBd⟩
        case measure => simp [intOf]; omega
      · have hQ2 := HL.out (fun e => hpq (by rw [e]))
        clear HE HL HX HY
        have HQ2 := Aside0.mk hQ2
        clear hQ2
        go_wp2
        go_region
        go_wp2
        go_region
        go_wp2
        go_ret
        exact ⟨by rw [HQ2.out]; rfl, below_drew HBd.out⟩
    · have hk32 : k = 32 := by omega
      subst hk32
      have hQf : Q = false := by
        have e := hN.out
        rw [List.take_of_length_le (by rw [hx]; exact Nat.le_refl _), List.take_of_length_le (by rw [hy]; exact Nat.le_refl _)] at e
        rw [← HQ.out, e, ltI_irrefl]
      go_wp2
      go_ret
      exact ⟨by rw [hQf]; rfl, HB.out⟩
end Go.Proofs.Ytkgjdeicjkibiaa.D
