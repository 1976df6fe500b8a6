/- slices.IndexFunc at []int with peer.Join's closure: the first one that is not below a number. By hand. -/
import Derived.Test.YtameeejfkgoheaaPx0
import Derived.Lib.SliceRun
namespace Go.Proofs.Ytameeejfkgoheaa.P
open Go.RowKit Go.Proofs.YtameeejfkgoheaaW.PrintWords Go.Proofs.YtameeejfkgoheaaW.PrintLast Go.Proofs.YtameeejfkgoheaaW.PrintMore Go.Proofs.YtameeejfkgoheaaW
set_option linter.unusedVariables false
set_option linter.unusedSimpArgs false
/-- the first one of a list that meets p, behind k others -/
def firstAt {α : Type} (p : α → Bool) : Nat → List α → Int
  | _, [] => -1
  | k, x :: l => if p x then (k : Int) else firstAt p (k + 1) l
theorem firstAt_drop {α : Type} (p : α → Bool) (l : List α) : ∀ (k : Nat), k ≤ l.length → (∀ j, j < k → ∀ h : j < l.length, p l[j] = false) → firstAt p k (l.drop k) = firstAt p 0 l := by
  intro k
  induction k with
  | zero => intro _ _; rfl
  | succ k ih =>
    intro hk hp
    rw [← ih (by omega) (fun j hj h => hp j (by omega) h)]
    rw [List.drop_eq_getElem_cons (show k < l.length by omega)]
    simp [firstAt, hp k (by omega) (by omega)]
def geI (p q : Int) : Bool := decide (p ≤ q)
/-- a row of whole numbers, read -/
def RdI (w : World) (A : Option Addr) (l : List Int) : Prop := l.length ≤ 9223372036854775807 ∧ (0 < l.length → ∃ ad, A = some ad ∧ ∀ j (h : j < l.length), w.cell? (ad.add j) = some (.int .i64 l[j]))
theorem RdI.below {w w' : World} {A : Option Addr} {l : List Int} (h : RdI w A l) (hb : Below w.heap.size w w') : RdI w' A l := by
  refine ⟨h.1, fun h0 => ?_⟩
  obtain ⟨ad, e, hc⟩ := h.2 h0
  exact ⟨ad, e, fun j hj => (hb.cell (World.block_lt_of_cell? w _ (hc j hj))).trans (hc j hj)⟩
theorem join_clo (p : Int) (B : Nat) (w : World) (hB : B < w.heap.size) (hcell : w.cell? ⟨B, 0, none⟩ = some (.int .i64 p)) (q : Int) :
    Calls Try.prog 27 #[.int .i64 q, .pointer (some ⟨B, 0, none⟩)] w fun e w' => e = .returned (.bool (geI p q)) ∧ Below w.heap.size w w' := by
  go_enter Try.func27, Try.ntmps27
  go_wp2
  go_ret
  exact ⟨rfl, Below.refl _ _⟩
theorem join_idx (p : Int) (B : Nat) (w : World) (hB : B < w.heap.size) (hcell : w.cell? ⟨B, 0, none⟩ = some (.int .i64 p)) (A0 : Option Addr) (c0 : Nat) (l0 : List Int) (hr0 : RdI w A0 l0) :
    Calls Try.prog 26 #[.slice A0 l0.length c0, .func (.func 27) #[] #[.pointer (some ⟨B, 0, none⟩)]] w fun e w' => e = .returned (.int .i64 (firstAt (geI p) 0 l0)) ∧ Below w.heap.size w w' := by
  have HR := Aside0.mk hr0
  have HC := Aside0.mk hcell
  have HL := Aside0.mk hr0.1
  clear hr0 hcell
  go_enter Try.func26, Try.ntmps26
  go_wp2
  go_loopw [8] (fun i wr => ∃ k : Nat, k ≤ l0.length ∧ i = .int .i64 k ∧ Aside0 (∀ j, j < k → ∀ h : j < l0.length, geI p l0[j] = false) ∧ Aside0 (Below w.heap.size w wr)) (fun i _ => l0.length - (intOf i).toNat)
  case atStart => exact ⟨0, Nat.zero_le _, rfl, ⟨fun j hj => by omega⟩, ⟨Below.refl _ _⟩⟩
  case round =>
    obtain ⟨k, hk, rfl, ha, HB⟩ := hrel
    by_cases hlt : k < l0.length
    · obtain ⟨ad, e, hx⟩ := HR.out.2 (by omega)
      cases e
      have hx0 := (HB.out.cell (World.block_lt_of_cell? w _ (hx k hlt))).trans (hx k hlt)
      have h63 := HL.out
      have hBr : B < wr.heap.size := Nat.lt_of_lt_of_le hB HB.out.size
      have HCL := Aside0.mk (join_clo p B wr hBr ((HB.out.cell (p := ⟨B, 0, none⟩) hB).trans HC.out) l0[k])
      have HX := Aside0.mk (show firstAt (geI p) 0 l0 = firstAt (geI p) k (l0.drop k) from (firstAt_drop (geI p) l0 k hk ha.out).symm)
      have HD := Aside0.mk (List.drop_eq_getElem_cons hlt)
      clear hx
      generalize hv : l0[k] = q at hx0 HCL HD
      cases hq : geI p q with
      | true =>
        have HF := Aside0.mk (show firstAt (geI p) 0 l0 = (k : Int) by
          rw [HX.out, HD.out]
          simp [firstAt, hq])
        rw [hq] at HCL
        clear hq hv HX HD
        go_wp2_with fail
        refine HCL.out.mono ?_
        rintro e w' ⟨rfl, hb⟩
        have HB' := Aside0.mk (below_step HB.out hb)
        clear hx0 HB hb HCL hBr
        go_wp2
        go_ret
        exact ⟨by (rw [HF.out]; first | rfl | simp), HB'.out⟩
      | false =>
        have HF := Aside0.mk (show ∀ j, j < k + 1 → ∀ h : j < l0.length, geI p l0[j] = false by
          intro j hj h
          rcases Nat.lt_or_ge j k with q' | q'
          · exact ha.out j q' h
          · obtain rfl : j = k := by omega
            rw [hv]; exact hq)
        rw [hq] at HCL
        clear hq hv HX HD
        go_wp2_with fail
        refine HCL.out.mono ?_
        rintro e w' ⟨rfl, hb⟩
        have HB' := Aside0.mk (below_step HB.out hb)
        clear hx0 HB hb HCL hBr ha
        go_wp2
        go_roundw
        case rel => exact ⟨k + 1, by omega, by go_num, HF, HB'⟩
        case measure => simp [intOf]; omega
    · have HF := Aside0.mk (show firstAt (geI p) 0 l0 = -1 by
        obtain rfl : k = l0.length := by omega
        rw [← firstAt_drop (geI p) l0 _ (Nat.le_refl _) ha.out, List.drop_length]; rfl)
      go_wp2
      go_ret
      exact ⟨by (rw [HF.out]; first | rfl | simp), HB.out⟩
end Go.Proofs.Ytameeejfkgoheaa.P
