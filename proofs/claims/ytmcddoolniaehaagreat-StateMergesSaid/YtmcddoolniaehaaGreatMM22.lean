/- Several of the walk's texts in one: SHRCMay. -/
import Derived.BigQuiet
import Derived.Test.YtmcddoolniaehaaGreatMM05
import Derived.Test.YtmcddoolniaehaaGreatMM21
section
namespace Go.Proofs.YtmcddoolniaehaaGreat.S
open Go.RowKit Go.Proofs.YtmcddoolniaehaaGreatW.PrintWords Go.Proofs.YtmcddoolniaehaaGreatW.PrintLast Go.Proofs.YtmcddoolniaehaaGreatW.PrintMore Go.Proofs.YtmcddoolniaehaaGreatW
attribute [local go_sem ↓] Go.wp_at_zero Go.wp_at_succ
set_option linter.unusedVariables false
set_option linter.unusedSimpArgs false
def ref06_May.l0 : Nat → List (S73) → Int → Option (Bool)
 | 0, _, _ => none
 | k + 1, x0, x3 => if x3 < (x0.length : Int) then (if 0 ≤ x3 then ((ref05_Key.f k ((rd_T73 x0 x3).f0)).bind fun t227 => (if t227 = true then (if ((rd_T73 x0 x3).f1) = 0 then (some false) else (if x3 > 0 then (if 0 ≤ (wrap64 (x3 - 1)) then (if (wrap64 (x3 - 1)) < (x0.length : Int) then (if ((Op.bytesLess (((rd_T73 x0 (wrap64 (x3 - 1))).f0).toList) (((rd_T73 x0 x3).f0).toList)) = true) then (ref06_May.l0 k x0 (wrap64 (x3 + 1))) else (some false)) else (none)) else (none)) else (ref06_May.l0 k x0 (wrap64 (x3 + 1))))) else (some false))) else (none)) else (some true)
def ref06_May.f (k : Nat) (l0 : List (S73)) : Option (Bool) := ref06_May.l0 k l0 0
theorem ref06_May.mono_l : ∀ k, (∀ y0 y1, LeO (ref06_May.l0 k y0 y1) (ref06_May.l0 (k + 1) y0 y1))
 | 0 => fun _ _ r h => by simp [ref06_May.l0] at h
 | k + 1 => by
  have ih0 := ref06_May.mono_l k
  ·intro y0 y1
   unfold ref06_May.l0
   repeat' first
   | (with_reducible exact ih0 _ _)
   | (with_reducible exact ref05_Key.mono _ _)
   | (with_reducible exact LeO.refl _)
   | (with_reducible exact LeO.none _)
   | (with_reducible refine LeO.ite ?_ ?_)
   | (with_reducible refine LeO.bind ?_ (fun _ => ?_))
   | exact ih0 _ _
   | exact ref05_Key.mono _ _
   | exact LeO.none _
   | refine LeO.ite ?_ ?_
   | refine LeO.bind ?_ (fun _ => ?_)
theorem ref06_May.mono : ∀ a0 k, LeO (ref06_May.f k a0) (ref06_May.f (k + 1) a0) := by
 intro a0 k
 have ih0 := ref06_May.mono_l k
 unfold ref06_May.f
 repeat' first
   | (with_reducible exact ih0 _ _)
   | (with_reducible exact ref05_Key.mono _ _)
   | (with_reducible exact LeO.refl _)
   | (with_reducible exact LeO.none _)
   | (with_reducible refine LeO.ite ?_ ?_)
   | (with_reducible refine LeO.bind ?_ (fun _ => ?_))
   | exact ih0 _ _
   | exact ref05_Key.mono _ _
   | exact LeO.none _
   | refine LeO.ite ?_ ?_
   | refine LeO.bind ?_ (fun _ => ?_)
theorem ref06_May.step {k1 : Nat} {l0 : List (S73)} {x : Int} {r : Bool} (H : ref06_May.l0 (k1 + 1) l0 x = some r) (c2 : x < (l0.length : Int)) :
    0 ≤ x ∧ (∃ t, ref05_Key.f k1 (rd_T73 l0 x).f0 = some t ∧ (t = false ∧ r = false ∨ t = true ∧ (((rd_T73 l0 x).f1 == 0) = true ∧ r = false ∨ ((rd_T73 l0 x).f1 == 0) = false ∧ (decide (0 < x) = false ∧ ref06_May.l0 k1 l0 (wrap64 (x + 1)) = some r ∨ decide (0 < x) = true ∧ 0 ≤ wrap64 (x - 1) ∧ wrap64 (x - 1) < (l0.length : Int) ∧ ∃ b, Op.bytesLess (rd_T73 l0 (wrap64 (x - 1))).f0.toList (rd_T73 l0 x).f0.toList = b ∧ (b = true ∧ ref06_May.l0 k1 l0 (wrap64 (x + 1)) = some r ∨ b = false ∧ r = false))))) := by
  simp only [ref06_May.l0] at H
  rw [if_pos c2] at H
  by_cases c3 : 0 ≤ x
  rotate_left
  · rw [if_neg c3] at H; cases H
  rw [if_pos c3] at H
  refine ⟨c3, ?_⟩
  obtain ⟨t, h1, H⟩ := Option.bind_eq_some_iff.mp H
  refine ⟨t, h1, ?_⟩
  rcases t with _ | _
  · exact .inl ⟨rfl, by simpa using H.symm⟩
  rw [if_pos rfl] at H
  refine .inr ⟨rfl, ?_⟩
  by_cases z : (rd_T73 l0 x).f1 = 0
  · rw [if_pos z] at H; exact .inl ⟨beq_iff_eq.mpr z, by simpa using H.symm⟩
  rw [if_neg z] at H
  refine .inr ⟨beq_eq_false_iff_ne.mpr z, ?_⟩
  by_cases z : 0 < x
  rotate_left
  · rw [if_neg z] at H; exact .inl ⟨decide_eq_false z, H⟩
  rw [if_pos z] at H
  by_cases c9 : 0 ≤ wrap64 (x - 1)
  rotate_left
  · rw [if_neg c9] at H; cases H
  rw [if_pos c9] at H
  by_cases c10 : wrap64 (x - 1) < (l0.length : Int)
  rotate_left
  · rw [if_neg c10] at H; cases H
  rw [if_pos c10] at H
  refine .inr ⟨decide_eq_true z, c9, c10, _, rfl, ?_⟩
  cases hb : Op.bytesLess (rd_T73 l0 (wrap64 (x - 1))).f0.toList (rd_T73 l0 x).f0.toList with
  | true => rw [hb, if_pos rfl] at H; exact .inl ⟨rfl, H⟩
  | false => rw [hb] at H; exact .inr ⟨rfl, by simpa using H.symm⟩
set_option maxHeartbeats 8000000 in
set_option maxRecDepth 100000 in
theorem ref06_May.calls (k : Nat) (A0 : Option Addr) (c0 : Nat) (l0 : List (S73)) (r : Bool) (w : World) (hr0 : Kd.C k73 w A0 l0.length l0) (hc0 : l0.length ≤ c0) (h : ref06_May.f k l0 = some r) :
    Calls Tryz.prog 47 #[.slice A0 l0.length c0] w fun e w' => e = .returned (.bool r) ∧ Below w.heap.size w w' := by
  have hu := Tryz.underlying73
  have HR := Aside0.mk hr0
  have H' := Aside0.mk (show ref06_May.l0 k l0 0 = some r from h)
  clear hr0 hc0 h
  go_enter Tryz.func47, Tryz.ntmps47
  go_wp2
  go_loopg [3] k (fun kq v w' => ∃ x : Int, v = .int .i64 x ∧ Aside0 (ref06_May.l0 kq l0 x = some r) ∧ Aside0 (kq ≤ k) ∧ Aside0 (Below w.heap.size w w'))
  case atStart => exact ⟨0, rfl, H', ⟨Nat.le_refl _⟩, ⟨Below.refl _ _⟩⟩
  case round =>
    clear H'
    obtain ⟨x, rfl, HA, HK1, HB⟩ := hrel
    cases gk with
    | zero => exact absurd HA.out (by simp [ref06_May.l0])
    | succ k1 =>
      by_cases c2 : x < (l0.length : Int)
      · obtain ⟨c3, t, hK1, H⟩ := ref06_May.step HA.out c2
        obtain ⟨ad, e, hx0, hx1⟩ := at_T73 HR.out x c3 c2
        cases e
        have hz0 := (HB.out.cell (World.block_lt_of_cell? w _ hx0)).trans hx0; have hz1 := (HB.out.cell (World.block_lt_of_cell? w _ hx1)).trans hx1
        have H0 := Aside0.mk H
        have K1 := Aside0.mk (fun W : World => (ref05_Key.calls _ _ _ W hK1).mono fun _ _ h => And.intro h.1 (drawn_b h.2))
        clear H HA hK1
        generalize rd_T73 l0 x = e at *
        have p1 := eq_true c3
        have q1 := eq_true c2
        go_wp2_with fail
        refine (K1.out _).mono ?_
        rintro e1 w1 ⟨rfl, hb⟩
        have hBX := Aside0.mk (below_step HB.out hb)
        clear hb HB K1 hz0 hz1
        go_wp2_with fail
        rcases H0.out with ⟨rfl, rfl⟩ | ⟨rfl, ⟨z, rfl⟩ | ⟨z, ⟨xb, H⟩ | ⟨xb, y0, y1, b, hb, H⟩⟩⟩
        rotate_right
        · have hji := wrapIn y1 y0
          generalize wrap64 (x - 1) = j at *
          obtain ⟨ad2, e2, hy0, hy1⟩ := at_T73 HR.out j y0 y1
          cases e2
          generalize rd_T73 l0 j = y at *
          have y2 := eq_true y0
          have y3 := eq_true y1
          refine in_ (n := 28) (S := Below w.heap.size w) (by kernel_rfl) rfl (below_drew hBX.out) (fun hHeld => ?_)
          repeat (first
            | (refine run_ (v := ?_) (a' := ?_) rfl rfl hHeld ?_ ?_ ?_; rotate_left; (focus (intro w2 hs; have ux0 := (hs.cell (World.block_lt_of_cell? w _ hx0)).trans hx0; have ux1 := (hs.cell (World.block_lt_of_cell? w _ hx1)).trans hx1; have uy0 := (hs.cell (World.block_lt_of_cell? w _ hy0)).trans hy0; go_simp; with_reducible rfl)); rotate_left; (focus (simp only [Act.put, sqA, sqB, sqC] <;> rfl)))
            | (refine skip_ (a' := ?_) rfl rfl hHeld ?_ ?_; rotate_left; (focus (simp only [Act.put, sqA, sqB, sqC] <;> rfl))))
          refine wpAnyH_done (by kernel_rfl) ?_ _
          rcases H with ⟨rfl, H⟩ | ⟨rfl, rfl⟩
          all_goals first | (go_wp2; go_ret; exact ⟨rfl, hHeld⟩) | (go_wp2; go_roundg k1; (case measure => have := HK1.out; omega); (case rel => exact ⟨wrap64 (x + 1), rfl, ⟨H⟩, ⟨by have := HK1.out; omega⟩, ⟨hHeld⟩⟩))
        all_goals
          refine in_ (n := 28) (S := Below w.heap.size w) (by kernel_rfl) rfl (below_drew hBX.out) (fun hHeld => ?_)
          repeat (first
            | (refine run_ (v := ?_) (a' := ?_) rfl rfl hHeld ?_ ?_ ?_; rotate_left; (focus (intro w2 hs; have ux0 := (hs.cell (World.block_lt_of_cell? w _ hx0)).trans hx0; have ux1 := (hs.cell (World.block_lt_of_cell? w _ hx1)).trans hx1; go_simp; with_reducible rfl)); rotate_left; (focus (simp only [Act.put, sqA, sqB, sqC] <;> rfl)))
            | (refine skip_ (a' := ?_) rfl rfl hHeld ?_ ?_; rotate_left; (focus (simp only [Act.put, sqA, sqB, sqC] <;> rfl))))
          refine wpAnyH_done (by kernel_rfl) ?_ _
          first | (go_wp2; go_ret; exact ⟨rfl, hHeld⟩) | (go_wp2; go_roundg k1; (case measure => have := HK1.out; omega); (case rel => exact ⟨wrap64 (x + 1), rfl, ⟨H⟩, ⟨by have := HK1.out; omega⟩, ⟨hHeld⟩⟩))
      · have q1 := decide_eq_false c2
        have H := HA.out
        simp only [ref06_May.l0] at H
        rw [if_neg c2] at H
        cases H
        go_wp2
        go_ret
        exact ⟨rfl, HB.out⟩
end Go.Proofs.YtmcddoolniaehaaGreat.S
end
