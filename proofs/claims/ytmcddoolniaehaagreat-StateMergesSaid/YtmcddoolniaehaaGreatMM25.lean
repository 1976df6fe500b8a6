/- Several of the walk's texts in one: SHRRMay, Sx30, SRR1, SHRPut, SHRRMerge. -/
import Derived.BigQuiet
import Derived.Test.YtmcddoolniaehaaGreatMM04
import Derived.Test.YtmcddoolniaehaaGreatMM05
import Derived.Test.YtmcddoolniaehaaGreatMM17
import Derived.Test.YtmcddoolniaehaaGreatMM21
import Derived.Test.YtmcddoolniaehaaGreatMM24
section
namespace Go.Proofs.YtmcddoolniaehaaGreat.S
open Go.RowKit Go.Proofs.YtmcddoolniaehaaGreatW.PrintWords Go.Proofs.YtmcddoolniaehaaGreatW.PrintLast Go.Proofs.YtmcddoolniaehaaGreatW.PrintMore Go.Proofs.YtmcddoolniaehaaGreatW
attribute [local go_sem ↓] Go.wp_at_zero Go.wp_at_succ
set_option linter.unusedVariables false
set_option linter.unusedSimpArgs false
def ref07_May.l0 : Nat → List (S47) → Int → Option (Bool)
 | 0, _, _ => none
 | k + 1, x0, x3 => if x3 < (x0.length : Int) then (if 0 ≤ x3 then ((ref07_one.f k ((rd_T47 x0 x3).f0) ((rd_T47 x0 x3).f1) ((rd_T47 x0 x3).f2) ((rd_T47 x0 x3).f3.f0) ((rd_T47 x0 x3).f3.f1)).bind fun t235 => (if t235 = true then (if x3 > 0 then (if 0 ≤ (wrap64 (x3 - 1)) then (if (wrap64 (x3 - 1)) < (x0.length : Int) then (if ((Op.bytesLess (((rd_T47 x0 (wrap64 (x3 - 1))).f0).toList) (((rd_T47 x0 x3).f0).toList)) = true) then (ref07_May.l0 k x0 (wrap64 (x3 + 1))) else (some false)) else (none)) else (none)) else (ref07_May.l0 k x0 (wrap64 (x3 + 1)))) else (some false))) else (none)) else (some true)
def ref07_May.f (k : Nat) (l0 : List (S47)) : Option (Bool) := ref07_May.l0 k l0 0
theorem ref07_May.mono_l : ∀ k, (∀ y0 y1, LeO (ref07_May.l0 k y0 y1) (ref07_May.l0 (k + 1) y0 y1))
 | 0 => fun _ _ r h => by simp [ref07_May.l0] at h
 | k + 1 => by
  have ih0 := ref07_May.mono_l k
  ·intro y0 y1
   unfold ref07_May.l0
   repeat' first
   | (with_reducible exact ih0 _ _)
   | (with_reducible exact ref07_one.mono _ _ _ _ _ _)
   | (with_reducible exact LeO.refl _)
   | (with_reducible exact LeO.none _)
   | (with_reducible refine LeO.ite ?_ ?_)
   | (with_reducible refine LeO.bind ?_ (fun _ => ?_))
   | exact ih0 _ _
   | exact ref07_one.mono _ _ _ _ _ _
   | exact LeO.none _
   | refine LeO.ite ?_ ?_
   | refine LeO.bind ?_ (fun _ => ?_)
theorem ref07_May.mono : ∀ a0 k, LeO (ref07_May.f k a0) (ref07_May.f (k + 1) a0) := by
 intro a0 k
 have ih0 := ref07_May.mono_l k
 unfold ref07_May.f
 repeat' first
   | (with_reducible exact ih0 _ _)
   | (with_reducible exact ref07_one.mono _ _ _ _ _ _)
   | (with_reducible exact LeO.refl _)
   | (with_reducible exact LeO.none _)
   | (with_reducible refine LeO.ite ?_ ?_)
   | (with_reducible refine LeO.bind ?_ (fun _ => ?_))
   | exact ih0 _ _
   | exact ref07_one.mono _ _ _ _ _ _
   | exact LeO.none _
   | refine LeO.ite ?_ ?_
   | refine LeO.bind ?_ (fun _ => ?_)
theorem ref07_May.step {k1 : Nat} {l0 : List (S47)} {x : Int} {r : Bool} (H : ref07_May.l0 (k1 + 1) l0 x = some r) (c2 : x < (l0.length : Int)) :
    0 ≤ x ∧ (∃ t, ref07_one.f k1 (rd_T47 l0 x).f0 (rd_T47 l0 x).f1 (rd_T47 l0 x).f2 (rd_T47 l0 x).f3.f0 (rd_T47 l0 x).f3.f1 = some t ∧ (t = false ∧ r = false ∨ t = true ∧ (decide (0 < x) = false ∧ ref07_May.l0 k1 l0 (wrap64 (x + 1)) = some r ∨ decide (0 < x) = true ∧ 0 ≤ wrap64 (x - 1) ∧ wrap64 (x - 1) < (l0.length : Int) ∧ ∃ b, Op.bytesLess (rd_T47 l0 (wrap64 (x - 1))).f0.toList (rd_T47 l0 x).f0.toList = b ∧ (b = true ∧ ref07_May.l0 k1 l0 (wrap64 (x + 1)) = some r ∨ b = false ∧ r = false)))) := by
  simp only [ref07_May.l0] at H
  rw [if_pos c2] at H
  by_cases c3 : 0 ≤ x
  rotate_left
  · rw [if_neg c3] at H; cases H
  rw [if_pos c3] at H
  refine ⟨c3, ?_⟩
  obtain ⟨t, h1, H⟩ := Option.bind_eq_some_iff.mp H
  refine ⟨t, h1, ?_⟩
  rcases t with _ | _
  · exact .inl ⟨rfl, by simpa using H.symm⟩
  rw [if_pos rfl] at H
  refine .inr ⟨rfl, ?_⟩
  by_cases z : 0 < x
  rotate_left
  · rw [if_neg z] at H; exact .inl ⟨decide_eq_false z, H⟩
  rw [if_pos z] at H
  by_cases c9 : 0 ≤ wrap64 (x - 1)
  rotate_left
  · rw [if_neg c9] at H; cases H
  rw [if_pos c9] at H
  by_cases c10 : wrap64 (x - 1) < (l0.length : Int)
  rotate_left
  · rw [if_neg c10] at H; cases H
  rw [if_pos c10] at H
  refine .inr ⟨decide_eq_true z, c9, c10, _, rfl, ?_⟩
  cases hb : Op.bytesLess (rd_T47 l0 (wrap64 (x - 1))).f0.toList (rd_T47 l0 x).f0.toList with
  | true => rw [hb, if_pos rfl] at H; exact .inl ⟨rfl, H⟩
  | false => rw [hb] at H; exact .inr ⟨rfl, by simpa using H.symm⟩
set_option maxHeartbeats 8000000 in
set_option maxRecDepth 100000 in
theorem ref07_May.calls (k : Nat) (A0 : Option Addr) (c0 : Nat) (l0 : List (S47)) (r : Bool) (w : World) (hr0 : Kd.C k47 w A0 l0.length l0) (hc0 : l0.length ≤ c0) (h : ref07_May.f k l0 = some r) :
    Calls Tryz.prog 48 #[.slice A0 l0.length c0] w fun e w' => e = .returned (.bool r) ∧ Below w.heap.size w w' := by
  have hu := Tryz.underlying47
  have HR := Aside0.mk hr0
  have H' := Aside0.mk (show ref07_May.l0 k l0 0 = some r from h)
  clear hr0 hc0 h
  go_enter Tryz.func48, Tryz.ntmps48
  go_wp2
  go_loopg [3] k (fun kq v w' => ∃ x : Int, v = .int .i64 x ∧ Aside0 (ref07_May.l0 kq l0 x = some r) ∧ Aside0 (kq ≤ k) ∧ Aside0 (Below w.heap.size w w'))
  case atStart => exact ⟨0, rfl, H', ⟨Nat.le_refl _⟩, ⟨Below.refl _ _⟩⟩
  case round =>
    clear H'
    obtain ⟨x, rfl, HA, HK1, HB⟩ := hrel
    cases gk with
    | zero => exact absurd HA.out (by simp [ref07_May.l0])
    | succ k1 =>
      by_cases c2 : x < (l0.length : Int)
      · obtain ⟨c3, t, hK1, H⟩ := ref07_May.step HA.out c2
        obtain ⟨ad, e, hx0, hx1, hx2, hx3, hx4⟩ := at_T47 HR.out x c3 c2
        cases e
        have hz0 := (HB.out.cell (World.block_lt_of_cell? w _ hx0)).trans hx0; have hz1 := (HB.out.cell (World.block_lt_of_cell? w _ hx1)).trans hx1; have hz2 := (HB.out.cell (World.block_lt_of_cell? w _ hx2)).trans hx2; have hz3 := (HB.out.cell (World.block_lt_of_cell? w _ hx3)).trans hx3; have hz4 := (HB.out.cell (World.block_lt_of_cell? w _ hx4)).trans hx4
        have H0 := Aside0.mk H
        have K1 := Aside0.mk (fun W : World => ref07_one.calls _ _ _ _ _ _ _ W hK1)
        clear H HA hK1
        generalize rd_T47 l0 x = e at *
        have p1 := eq_true c3
        have q1 := eq_true c2
        go_wp2_with fail
        refine (K1.out _).mono ?_
        rintro e1 w1 ⟨rfl, hb⟩
        have hBX := Aside0.mk (below_step HB.out hb)
        clear hb HB K1 hz0 hz1 hz2 hz3 hz4
        go_wp2_with fail
        rcases H0.out with ⟨rfl, rfl⟩ | ⟨rfl, ⟨xb, H⟩ | ⟨xb, y0, y1, b, hb, H⟩⟩
        rotate_right
        · have hji := wrapIn y1 y0
          generalize wrap64 (x - 1) = j at *
          obtain ⟨ad2, e2, hy0, hy1, hy2, hy3, hy4⟩ := at_T47 HR.out j y0 y1
          cases e2
          generalize rd_T47 l0 j = y at *
          have y2 := eq_true y0
          have y3 := eq_true y1
          refine in_ (n := 20) (S := Below w.heap.size w) (by kernel_rfl) rfl (below_drew hBX.out) (fun hHeld => ?_)
          repeat (first
            | (refine run_ (v := ?_) (a' := ?_) rfl rfl hHeld ?_ ?_ ?_; rotate_left; (focus (intro w2 hs; have ux0 := (hs.cell (World.block_lt_of_cell? w _ hx0)).trans hx0; have uy0 := (hs.cell (World.block_lt_of_cell? w _ hy0)).trans hy0; go_simp; with_reducible rfl)); rotate_left; (focus (simp only [Act.put, sqA, sqB, sqC] <;> rfl)))
            | (refine skip_ (a' := ?_) rfl rfl hHeld ?_ ?_; rotate_left; (focus (simp only [Act.put, sqA, sqB, sqC] <;> rfl))))
          refine wpAnyH_done (by kernel_rfl) ?_ _
          rcases H with ⟨rfl, H⟩ | ⟨rfl, rfl⟩
          all_goals first | (go_wp2; go_ret; exact ⟨rfl, hHeld⟩) | (go_wp2; go_roundg k1; (case measure => have := HK1.out; omega); (case rel => exact ⟨wrap64 (x + 1), rfl, ⟨H⟩, ⟨by have := HK1.out; omega⟩, ⟨hHeld⟩⟩))
        all_goals
          refine in_ (n := 20) (S := Below w.heap.size w) (by kernel_rfl) rfl (below_drew hBX.out) (fun hHeld => ?_)
          repeat (first
            | (refine run_ (v := ?_) (a' := ?_) rfl rfl hHeld ?_ ?_ ?_; rotate_left; (focus (intro w2 hs; have ux0 := (hs.cell (World.block_lt_of_cell? w _ hx0)).trans hx0; go_simp; with_reducible rfl)); rotate_left; (focus (simp only [Act.put, sqA, sqB, sqC] <;> rfl)))
            | (refine skip_ (a' := ?_) rfl rfl hHeld ?_ ?_; rotate_left; (focus (simp only [Act.put, sqA, sqB, sqC] <;> rfl))))
          refine wpAnyH_done (by kernel_rfl) ?_ _
          first | (go_wp2; go_ret; exact ⟨rfl, hHeld⟩) | (go_wp2; go_roundg k1; (case measure => have := HK1.out; omega); (case rel => exact ⟨wrap64 (x + 1), rfl, ⟨H⟩, ⟨by have := HK1.out; omega⟩, ⟨hHeld⟩⟩))
      · have q1 := decide_eq_false c2
        have H := HA.out
        simp only [ref07_May.l0] at H
        rw [if_neg c2] at H
        cases H
        go_wp2
        go_ret
        exact ⟨rfl, HB.out⟩
end Go.Proofs.YtmcddoolniaehaaGreat.S
end
section
namespace Go.Proofs.YtmcddoolniaehaaGreat.S
open Go.RowKit Go.Proofs.YtmcddoolniaehaaGreatW.PrintWords Go.Proofs.YtmcddoolniaehaaGreatW.PrintLast Go.Proofs.YtmcddoolniaehaaGreatW.PrintMore
attribute [local go_sem] max2_int min2_int max_two min_two max_three min_three max_four min_four   -- for this text's walks alone
set_option linter.unusedVariables false
set_option linter.unusedSimpArgs false

def ref07_Newer.f (a0_0 : ByteArray) (a0_1 : ByteArray) (a0_2 : Int) (a0_3 : Int) (a0_4 : Int) (a1_0 : ByteArray) (a1_1 : ByteArray) (a1_2 : Int) (a1_3 : Int) (a1_4 : Int) : Option (Bool) := if a0_2 = a1_2 then (if a0_3 = a1_3 then (if a0_4 = a1_4 then (some (Op.bytesLess a1_1.toList a0_1.toList)) else (some (decide (a0_4 > a1_4)))) else (some (decide (a0_3 > a1_3)))) else (some (decide (a0_2 > a1_2)))
set_option maxHeartbeats 8000000 in
set_option maxRecDepth 100000 in
theorem ref07_Newer.calls (a0_0 : ByteArray) (a0_1 : ByteArray) (a0_2 : Int) (a0_3 : Int) (a0_4 : Int) (a1_0 : ByteArray) (a1_1 : ByteArray) (a1_2 : Int) (a1_3 : Int) (a1_4 : Int) (r : Bool) (w : World) (h : ref07_Newer.f a0_0 a0_1 a0_2 a0_3 a0_4 a1_0 a1_1 a1_2 a1_3 a1_4 = some r) :
  Calls Tryz.prog 92 #[.agg #[.string a0_0, .string a0_1, .int .i64 a0_2, .int .i64 a0_3, .int .i64 a0_4], .agg #[.string a1_0, .string a1_1, .int .i64 a1_2, .int .i64 a1_3, .int .i64 a1_4]] w fun e w' => e = .returned (.bool r) ∧ Below w.heap.size w w' := by
 have hu47 := Tryz.underlying47
 have HB := Aside0.mk (Below.refl w.heap.size w)
 have H : (if a0_2 = a1_2 then (if a0_3 = a1_3 then (if a0_4 = a1_4 then (some (Op.bytesLess a1_1.toList a0_1.toList)) else (some (decide (a0_4 > a1_4)))) else (some (decide (a0_3 > a1_3)))) else (some (decide (a0_2 > a1_2)))) = some r := h
 clear h
 by_cases c3 : a0_2 = a1_2
 ·rw [if_pos c3] at H
  have c3b0 : (a0_2 == a1_2) = true := beq_iff_eq.mpr c3
  have c3b1 : (a0_2 != a1_2) = false := bne_eq_false_iff_eq.mpr c3
  clear c3
  by_cases c4 : a0_3 = a1_3
  ·rw [if_pos c4] at H
   have c4b0 : (a0_3 == a1_3) = true := beq_iff_eq.mpr c4
   have c4b1 : (a0_3 != a1_3) = false := bne_eq_false_iff_eq.mpr c4
   clear c4
   by_cases c5 : a0_4 = a1_4
   ·rw [if_pos c5] at H
    have c5b0 : (a0_4 == a1_4) = true := beq_iff_eq.mpr c5
    have c5b1 : (a0_4 != a1_4) = false := bne_eq_false_iff_eq.mpr c5
    clear c5
    obtain rfl := Option.some.inj H
    go_enter Tryz.func92, Tryz.ntmps92
    go_wp2_with (first | ((with_reducible refine gate_dst (N := 2) rfl ?_); refine box_event ?hg (N := 2) ?hd (cs := #[.string a0_0, .string a0_1, .int .i64 a0_2, .int .i64 a0_3, .int .i64 a0_4]) (t := 47) ?hr ?_; (case hd => rfl); (case hg => rfl); (case hr => first | (go_simp; done) | (go_simp; rfl)); intro gb278 hg w6 hbox hb; have n0_ := Aside0.mk (below_step (by repeat (first | (with_reducible first | exact HB.out | apply below_alloc | apply pw_below_drewN | apply below_drew1) | exact HB.out)) hb); have n1_ := Aside0.mk (hbox); have n2_ := Aside0.mk ((by rw [hg]; exact (below_size (by repeat (first | (with_reducible first | exact HB.out | apply below_alloc | apply pw_below_drewN | apply below_drew1) | exact HB.out))) : w.heap.size ≤ gb278)); have n3_ := Aside0.mk ((by rw [hg]; exact (below_size (by repeat (first | (with_reducible first | exact HB.out | apply below_alloc | apply pw_below_drewN | apply below_drew1) | exact HB.out))) : w.heap.size ≤ gb278)); clear HB; have HB := n0_; have BK278 := n1_; have GW278 := n2_; have GE278 := n3_; clear n0_ n1_ n2_ n3_; clear hb hbox hg) | ((with_reducible refine gate_dst (N := 3) rfl ?_); refine box_event ?hg (N := 3) ?hd (cs := #[.string a1_0, .string a1_1, .int .i64 a1_2, .int .i64 a1_3, .int .i64 a1_4]) (t := 47) ?hr ?_; (case hd => rfl); (case hg => rfl); (case hr => first | (go_simp; done) | (go_simp; rfl)); intro gb279 hg w7 hbox hb; have n0_ := Aside0.mk (blk_below (g := gb278) (o := .cells #[.string a0_0, .string a0_1, .int .i64 a0_2, .int .i64 a0_3, .int .i64 a0_4] 47 (0, 0)) (by (with_reducible repeat (first | refine blk_drewN ?_ _ | refine blk_drew ?_ | refine blk_alloc ?_ _)); exact BK278.out) hb); have n1_ := Aside0.mk (below_step (by repeat (first | (with_reducible first | exact HB.out | apply below_alloc | apply pw_below_drewN | apply below_drew1 | refine below_set ?_ GE278.out) | exact HB.out)) hb); have n2_ := Aside0.mk (hbox); have n3_ := Aside0.mk ((by rw [hg]; exact (below_size (by repeat (first | (with_reducible first | exact HB.out | apply below_alloc | apply pw_below_drewN | apply below_drew1 | refine below_set ?_ GE278.out) | exact HB.out))) : w.heap.size ≤ gb279)); have n4_ := Aside0.mk ((by rw [hg]; exact (below_size (by repeat (first | (with_reducible first | exact HB.out | apply below_alloc | apply pw_below_drewN | apply below_drew1 | refine below_set ?_ GE278.out) | exact HB.out))) : w.heap.size ≤ gb279)); have n5_ := Aside0.mk ((by rw [hg]; exact Nat.ne_of_lt (blk_lt (g := gb278) (o := .cells #[.string a0_0, .string a0_1, .int .i64 a0_2, .int .i64 a0_3, .int .i64 a0_4] 47 (0, 0)) (by (with_reducible repeat (first | refine blk_drewN ?_ _ | refine blk_drew ?_ | refine blk_alloc ?_ _)); exact BK278.out)) : gb278 ≠ gb279)); have n6_ := Aside0.mk ((by rw [hg]; exact Nat.ne_of_gt (blk_lt (g := gb278) (o := .cells #[.string a0_0, .string a0_1, .int .i64 a0_2, .int .i64 a0_3, .int .i64 a0_4] 47 (0, 0)) (by (with_reducible repeat (first | refine blk_drewN ?_ _ | refine blk_drew ?_ | refine blk_alloc ?_ _)); exact BK278.out)) : gb279 ≠ gb278)); clear BK278; clear HB; have BK278 := n0_; have HB := n1_; have BK279 := n2_; have GW279 := n3_; have GE279 := n4_; have NB278_279 := n5_; have NB279_278 := n6_; clear n0_ n1_ n2_ n3_ n4_ n5_ n6_; clear hb hbox hg; have hnb8 := NB278_279.out; have hnc8 := NB279_278.out; have hcz9_0 : w7.cell? ⟨gb278, 0, none⟩ = some (.string a0_0) := (blk_cell BK278.out 0).trans rfl; have hcz9_1 : w7.cell? ⟨gb278, 1, none⟩ = some (.string a0_1) := (blk_cell BK278.out 1).trans rfl; have hcz9_2 : w7.cell? ⟨gb278, 2, none⟩ = some (.int .i64 a0_2) := (blk_cell BK278.out 2).trans rfl; have hcz9_3 : w7.cell? ⟨gb278, 3, none⟩ = some (.int .i64 a0_3) := (blk_cell BK278.out 3).trans rfl; have hcz9_4 : w7.cell? ⟨gb278, 4, none⟩ = some (.int .i64 a0_4) := (blk_cell BK278.out 4).trans rfl; have hfz9_0 := blk_frozen BK278.out 0; have hfz9_1 := blk_frozen BK278.out 1; have hfz9_2 := blk_frozen BK278.out 2; have hfz9_3 := blk_frozen BK278.out 3; have hfz9_4 := blk_frozen BK278.out 4; have hcz10_0 : w7.cell? ⟨gb279, 0, none⟩ = some (.string a1_0) := (blk_cell BK279.out 0).trans rfl; have hcz10_1 : w7.cell? ⟨gb279, 1, none⟩ = some (.string a1_1) := (blk_cell BK279.out 1).trans rfl; have hcz10_2 : w7.cell? ⟨gb279, 2, none⟩ = some (.int .i64 a1_2) := (blk_cell BK279.out 2).trans rfl; have hcz10_3 : w7.cell? ⟨gb279, 3, none⟩ = some (.int .i64 a1_3) := (blk_cell BK279.out 3).trans rfl; have hcz10_4 : w7.cell? ⟨gb279, 4, none⟩ = some (.int .i64 a1_4) := (blk_cell BK279.out 4).trans rfl; have hfz10_0 := blk_frozen BK279.out 0; have hfz10_1 := blk_frozen BK279.out 1; have hfz10_2 := blk_frozen BK279.out 2; have hfz10_3 := blk_frozen BK279.out 3; have hfz10_4 := blk_frozen BK279.out 4))
    go_ret
    exact ⟨by first | rfl | (simp [errW_none, errW_some] <;> rfl) | (simp [*, errW_none, errW_some] <;> rfl), by repeat (first | (with_reducible first | exact HB.out | apply below_alloc | apply pw_below_drewN | apply below_drew1 | refine below_set ?_ GE278.out | refine below_set ?_ GE279.out) | exact HB.out)⟩
   ·rw [if_neg c5] at H
    have c5b0 : (a0_4 == a1_4) = false := beq_eq_false_iff_ne.mpr c5
    have c5b1 : (a0_4 != a1_4) = true := bne_iff_ne.mpr c5
    obtain rfl := Option.some.inj H
    go_enter Tryz.func92, Tryz.ntmps92
    go_wp2_with (first | ((with_reducible refine gate_dst (N := 2) rfl ?_); refine box_event ?hg (N := 2) ?hd (cs := #[.string a0_0, .string a0_1, .int .i64 a0_2, .int .i64 a0_3, .int .i64 a0_4]) (t := 47) ?hr ?_; (case hd => rfl); (case hg => rfl); (case hr => first | (go_simp; done) | (go_simp; rfl)); intro gb278 hg w11 hbox hb; have n0_ := Aside0.mk (below_step (by repeat (first | (with_reducible first | exact HB.out | apply below_alloc | apply pw_below_drewN | apply below_drew1) | exact HB.out)) hb); have n1_ := Aside0.mk (hbox); have n2_ := Aside0.mk ((by rw [hg]; exact (below_size (by repeat (first | (with_reducible first | exact HB.out | apply below_alloc | apply pw_below_drewN | apply below_drew1) | exact HB.out))) : w.heap.size ≤ gb278)); have n3_ := Aside0.mk ((by rw [hg]; exact (below_size (by repeat (first | (with_reducible first | exact HB.out | apply below_alloc | apply pw_below_drewN | apply below_drew1) | exact HB.out))) : w.heap.size ≤ gb278)); clear HB; have HB := n0_; have BK278 := n1_; have GW278 := n2_; have GE278 := n3_; clear n0_ n1_ n2_ n3_; clear hb hbox hg) | ((with_reducible refine gate_dst (N := 3) rfl ?_); refine box_event ?hg (N := 3) ?hd (cs := #[.string a1_0, .string a1_1, .int .i64 a1_2, .int .i64 a1_3, .int .i64 a1_4]) (t := 47) ?hr ?_; (case hd => rfl); (case hg => rfl); (case hr => first | (go_simp; done) | (go_simp; rfl)); intro gb279 hg w12 hbox hb; have n0_ := Aside0.mk (blk_below (g := gb278) (o := .cells #[.string a0_0, .string a0_1, .int .i64 a0_2, .int .i64 a0_3, .int .i64 a0_4] 47 (0, 0)) (by (with_reducible repeat (first | refine blk_drewN ?_ _ | refine blk_drew ?_ | refine blk_alloc ?_ _)); exact BK278.out) hb); have n1_ := Aside0.mk (below_step (by repeat (first | (with_reducible first | exact HB.out | apply below_alloc | apply pw_below_drewN | apply below_drew1 | refine below_set ?_ GE278.out) | exact HB.out)) hb); have n2_ := Aside0.mk (hbox); have n3_ := Aside0.mk ((by rw [hg]; exact (below_size (by repeat (first | (with_reducible first | exact HB.out | apply below_alloc | apply pw_below_drewN | apply below_drew1 | refine below_set ?_ GE278.out) | exact HB.out))) : w.heap.size ≤ gb279)); have n4_ := Aside0.mk ((by rw [hg]; exact (below_size (by repeat (first | (with_reducible first | exact HB.out | apply below_alloc | apply pw_below_drewN | apply below_drew1 | refine below_set ?_ GE278.out) | exact HB.out))) : w.heap.size ≤ gb279)); have n5_ := Aside0.mk ((by rw [hg]; exact Nat.ne_of_lt (blk_lt (g := gb278) (o := .cells #[.string a0_0, .string a0_1, .int .i64 a0_2, .int .i64 a0_3, .int .i64 a0_4] 47 (0, 0)) (by (with_reducible repeat (first | refine blk_drewN ?_ _ | refine blk_drew ?_ | refine blk_alloc ?_ _)); exact BK278.out)) : gb278 ≠ gb279)); have n6_ := Aside0.mk ((by rw [hg]; exact Nat.ne_of_gt (blk_lt (g := gb278) (o := .cells #[.string a0_0, .string a0_1, .int .i64 a0_2, .int .i64 a0_3, .int .i64 a0_4] 47 (0, 0)) (by (with_reducible repeat (first | refine blk_drewN ?_ _ | refine blk_drew ?_ | refine blk_alloc ?_ _)); exact BK278.out)) : gb279 ≠ gb278)); clear BK278; clear HB; have BK278 := n0_; have HB := n1_; have BK279 := n2_; have GW279 := n3_; have GE279 := n4_; have NB278_279 := n5_; have NB279_278 := n6_; clear n0_ n1_ n2_ n3_ n4_ n5_ n6_; clear hb hbox hg; have hnb13 := NB278_279.out; have hnc13 := NB279_278.out; have hcz14_0 : w12.cell? ⟨gb278, 0, none⟩ = some (.string a0_0) := (blk_cell BK278.out 0).trans rfl; have hcz14_1 : w12.cell? ⟨gb278, 1, none⟩ = some (.string a0_1) := (blk_cell BK278.out 1).trans rfl; have hcz14_2 : w12.cell? ⟨gb278, 2, none⟩ = some (.int .i64 a0_2) := (blk_cell BK278.out 2).trans rfl; have hcz14_3 : w12.cell? ⟨gb278, 3, none⟩ = some (.int .i64 a0_3) := (blk_cell BK278.out 3).trans rfl; have hcz14_4 : w12.cell? ⟨gb278, 4, none⟩ = some (.int .i64 a0_4) := (blk_cell BK278.out 4).trans rfl; have hfz14_0 := blk_frozen BK278.out 0; have hfz14_1 := blk_frozen BK278.out 1; have hfz14_2 := blk_frozen BK278.out 2; have hfz14_3 := blk_frozen BK278.out 3; have hfz14_4 := blk_frozen BK278.out 4; have hcz15_0 : w12.cell? ⟨gb279, 0, none⟩ = some (.string a1_0) := (blk_cell BK279.out 0).trans rfl; have hcz15_1 : w12.cell? ⟨gb279, 1, none⟩ = some (.string a1_1) := (blk_cell BK279.out 1).trans rfl; have hcz15_2 : w12.cell? ⟨gb279, 2, none⟩ = some (.int .i64 a1_2) := (blk_cell BK279.out 2).trans rfl; have hcz15_3 : w12.cell? ⟨gb279, 3, none⟩ = some (.int .i64 a1_3) := (blk_cell BK279.out 3).trans rfl; have hcz15_4 : w12.cell? ⟨gb279, 4, none⟩ = some (.int .i64 a1_4) := (blk_cell BK279.out 4).trans rfl; have hfz15_0 := blk_frozen BK279.out 0; have hfz15_1 := blk_frozen BK279.out 1; have hfz15_2 := blk_frozen BK279.out 2; have hfz15_3 := blk_frozen BK279.out 3; have hfz15_4 := blk_frozen BK279.out 4))
    go_ret
    exact ⟨by first | rfl | (simp [errW_none, errW_some] <;> rfl) | (simp [*, errW_none, errW_some] <;> rfl), by repeat (first | (with_reducible first | exact HB.out | apply below_alloc | apply pw_below_drewN | apply below_drew1 | refine below_set ?_ GE278.out | refine below_set ?_ GE279.out) | exact HB.out)⟩
  ·rw [if_neg c4] at H
   have c4b0 : (a0_3 == a1_3) = false := beq_eq_false_iff_ne.mpr c4
   have c4b1 : (a0_3 != a1_3) = true := bne_iff_ne.mpr c4
   obtain rfl := Option.some.inj H
   go_enter Tryz.func92, Tryz.ntmps92
   go_wp2_with (first | ((with_reducible refine gate_dst (N := 2) rfl ?_); refine box_event ?hg (N := 2) ?hd (cs := #[.string a0_0, .string a0_1, .int .i64 a0_2, .int .i64 a0_3, .int .i64 a0_4]) (t := 47) ?hr ?_; (case hd => rfl); (case hg => rfl); (case hr => first | (go_simp; done) | (go_simp; rfl)); intro gb278 hg w16 hbox hb; have n0_ := Aside0.mk (below_step (by repeat (first | (with_reducible first | exact HB.out | apply below_alloc | apply pw_below_drewN | apply below_drew1) | exact HB.out)) hb); have n1_ := Aside0.mk (hbox); have n2_ := Aside0.mk ((by rw [hg]; exact (below_size (by repeat (first | (with_reducible first | exact HB.out | apply below_alloc | apply pw_below_drewN | apply below_drew1) | exact HB.out))) : w.heap.size ≤ gb278)); have n3_ := Aside0.mk ((by rw [hg]; exact (below_size (by repeat (first | (with_reducible first | exact HB.out | apply below_alloc | apply pw_below_drewN | apply below_drew1) | exact HB.out))) : w.heap.size ≤ gb278)); clear HB; have HB := n0_; have BK278 := n1_; have GW278 := n2_; have GE278 := n3_; clear n0_ n1_ n2_ n3_; clear hb hbox hg) | ((with_reducible refine gate_dst (N := 3) rfl ?_); refine box_event ?hg (N := 3) ?hd (cs := #[.string a1_0, .string a1_1, .int .i64 a1_2, .int .i64 a1_3, .int .i64 a1_4]) (t := 47) ?hr ?_; (case hd => rfl); (case hg => rfl); (case hr => first | (go_simp; done) | (go_simp; rfl)); intro gb279 hg w17 hbox hb; have n0_ := Aside0.mk (blk_below (g := gb278) (o := .cells #[.string a0_0, .string a0_1, .int .i64 a0_2, .int .i64 a0_3, .int .i64 a0_4] 47 (0, 0)) (by (with_reducible repeat (first | refine blk_drewN ?_ _ | refine blk_drew ?_ | refine blk_alloc ?_ _)); exact BK278.out) hb); have n1_ := Aside0.mk (below_step (by repeat (first | (with_reducible first | exact HB.out | apply below_alloc | apply pw_below_drewN | apply below_drew1 | refine below_set ?_ GE278.out) | exact HB.out)) hb); have n2_ := Aside0.mk (hbox); have n3_ := Aside0.mk ((by rw [hg]; exact (below_size (by repeat (first | (with_reducible first | exact HB.out | apply below_alloc | apply pw_below_drewN | apply below_drew1 | refine below_set ?_ GE278.out) | exact HB.out))) : w.heap.size ≤ gb279)); have n4_ := Aside0.mk ((by rw [hg]; exact (below_size (by repeat (first | (with_reducible first | exact HB.out | apply below_alloc | apply pw_below_drewN | apply below_drew1 | refine below_set ?_ GE278.out) | exact HB.out))) : w.heap.size ≤ gb279)); have n5_ := Aside0.mk ((by rw [hg]; exact Nat.ne_of_lt (blk_lt (g := gb278) (o := .cells #[.string a0_0, .string a0_1, .int .i64 a0_2, .int .i64 a0_3, .int .i64 a0_4] 47 (0, 0)) (by (with_reducible repeat (first | refine blk_drewN ?_ _ | refine blk_drew ?_ | refine blk_alloc ?_ _)); exact BK278.out)) : gb278 ≠ gb279)); have n6_ := Aside0.mk ((by rw [hg]; exact Nat.ne_of_gt (blk_lt (g := gb278) (o := .cells #[.string a0_0, .string a0_1, .int .i64 a0_2, .int .i64 a0_3, .int .i64 a0_4] 47 (0, 0)) (by (with_reducible repeat (first | refine blk_drewN ?_ _ | refine blk_drew ?_ | refine blk_alloc ?_ _)); exact BK278.out)) : gb279 ≠ gb278)); clear BK278; clear HB; have BK278 := n0_; have HB := n1_; have BK279 := n2_; have GW279 := n3_; have GE279 := n4_; have NB278_279 := n5_; have NB279_278 := n6_; clear n0_ n1_ n2_ n3_ n4_ n5_ n6_; clear hb hbox hg; have hnb18 := NB278_279.out; have hnc18 := NB279_278.out; have hcz19_0 : w17.cell? ⟨gb278, 0, none⟩ = some (.string a0_0) := (blk_cell BK278.out 0).trans rfl; have hcz19_1 : w17.cell? ⟨gb278, 1, none⟩ = some (.string a0_1) := (blk_cell BK278.out 1).trans rfl; have hcz19_2 : w17.cell? ⟨gb278, 2, none⟩ = some (.int .i64 a0_2) := (blk_cell BK278.out 2).trans rfl; have hcz19_3 : w17.cell? ⟨gb278, 3, none⟩ = some (.int .i64 a0_3) := (blk_cell BK278.out 3).trans rfl; have hcz19_4 : w17.cell? ⟨gb278, 4, none⟩ = some (.int .i64 a0_4) := (blk_cell BK278.out 4).trans rfl; have hfz19_0 := blk_frozen BK278.out 0; have hfz19_1 := blk_frozen BK278.out 1; have hfz19_2 := blk_frozen BK278.out 2; have hfz19_3 := blk_frozen BK278.out 3; have hfz19_4 := blk_frozen BK278.out 4; have hcz20_0 : w17.cell? ⟨gb279, 0, none⟩ = some (.string a1_0) := (blk_cell BK279.out 0).trans rfl; have hcz20_1 : w17.cell? ⟨gb279, 1, none⟩ = some (.string a1_1) := (blk_cell BK279.out 1).trans rfl; have hcz20_2 : w17.cell? ⟨gb279, 2, none⟩ = some (.int .i64 a1_2) := (blk_cell BK279.out 2).trans rfl; have hcz20_3 : w17.cell? ⟨gb279, 3, none⟩ = some (.int .i64 a1_3) := (blk_cell BK279.out 3).trans rfl; have hcz20_4 : w17.cell? ⟨gb279, 4, none⟩ = some (.int .i64 a1_4) := (blk_cell BK279.out 4).trans rfl; have hfz20_0 := blk_frozen BK279.out 0; have hfz20_1 := blk_frozen BK279.out 1; have hfz20_2 := blk_frozen BK279.out 2; have hfz20_3 := blk_frozen BK279.out 3; have hfz20_4 := blk_frozen BK279.out 4))
   go_ret
   exact ⟨by first | rfl | (simp [errW_none, errW_some] <;> rfl) | (simp [*, errW_none, errW_some] <;> rfl), by repeat (first | (with_reducible first | exact HB.out | apply below_alloc | apply pw_below_drewN | apply below_drew1 | refine below_set ?_ GE278.out | refine below_set ?_ GE279.out) | exact HB.out)⟩
 ·rw [if_neg c3] at H
  have c3b0 : (a0_2 == a1_2) = false := beq_eq_false_iff_ne.mpr c3
  have c3b1 : (a0_2 != a1_2) = true := bne_iff_ne.mpr c3
  obtain rfl := Option.some.inj H
  go_enter Tryz.func92, Tryz.ntmps92
  go_wp2_with (first | ((with_reducible refine gate_dst (N := 2) rfl ?_); refine box_event ?hg (N := 2) ?hd (cs := #[.string a0_0, .string a0_1, .int .i64 a0_2, .int .i64 a0_3, .int .i64 a0_4]) (t := 47) ?hr ?_; (case hd => rfl); (case hg => rfl); (case hr => first | (go_simp; done) | (go_simp; rfl)); intro gb278 hg w21 hbox hb; have n0_ := Aside0.mk (below_step (by repeat (first | (with_reducible first | exact HB.out | apply below_alloc | apply pw_below_drewN | apply below_drew1) | exact HB.out)) hb); have n1_ := Aside0.mk (hbox); have n2_ := Aside0.mk ((by rw [hg]; exact (below_size (by repeat (first | (with_reducible first | exact HB.out | apply below_alloc | apply pw_below_drewN | apply below_drew1) | exact HB.out))) : w.heap.size ≤ gb278)); have n3_ := Aside0.mk ((by rw [hg]; exact (below_size (by repeat (first | (with_reducible first | exact HB.out | apply below_alloc | apply pw_below_drewN | apply below_drew1) | exact HB.out))) : w.heap.size ≤ gb278)); clear HB; have HB := n0_; have BK278 := n1_; have GW278 := n2_; have GE278 := n3_; clear n0_ n1_ n2_ n3_; clear hb hbox hg) | ((with_reducible refine gate_dst (N := 3) rfl ?_); refine box_event ?hg (N := 3) ?hd (cs := #[.string a1_0, .string a1_1, .int .i64 a1_2, .int .i64 a1_3, .int .i64 a1_4]) (t := 47) ?hr ?_; (case hd => rfl); (case hg => rfl); (case hr => first | (go_simp; done) | (go_simp; rfl)); intro gb279 hg w22 hbox hb; have n0_ := Aside0.mk (blk_below (g := gb278) (o := .cells #[.string a0_0, .string a0_1, .int .i64 a0_2, .int .i64 a0_3, .int .i64 a0_4] 47 (0, 0)) (by (with_reducible repeat (first | refine blk_drewN ?_ _ | refine blk_drew ?_ | refine blk_alloc ?_ _)); exact BK278.out) hb); have n1_ := Aside0.mk (below_step (by repeat (first | (with_reducible first | exact HB.out | apply below_alloc | apply pw_below_drewN | apply below_drew1 | refine below_set ?_ GE278.out) | exact HB.out)) hb); have n2_ := Aside0.mk (hbox); have n3_ := Aside0.mk ((by rw [hg]; exact (below_size (by repeat (first | (with_reducible first | exact HB.out | apply below_alloc | apply pw_below_drewN | apply below_drew1 | refine below_set ?_ GE278.out) | exact HB.out))) : w.heap.size ≤ gb279)); have n4_ := Aside0.mk ((by rw [hg]; exact (below_size (by repeat (first | (with_reducible first | exact HB.out | apply below_alloc | apply pw_below_drewN | apply below_drew1 | refine below_set ?_ GE278.out) | exact HB.out))) : w.heap.size ≤ gb279)); have n5_ := Aside0.mk ((by rw [hg]; exact Nat.ne_of_lt (blk_lt (g := gb278) (o := .cells #[.string a0_0, .string a0_1, .int .i64 a0_2, .int .i64 a0_3, .int .i64 a0_4] 47 (0, 0)) (by (with_reducible repeat (first | refine blk_drewN ?_ _ | refine blk_drew ?_ | refine blk_alloc ?_ _)); exact BK278.out)) : gb278 ≠ gb279)); have n6_ := Aside0.mk ((by rw [hg]; exact Nat.ne_of_gt (blk_lt (g := gb278) (o := .cells #[.string a0_0, .string a0_1, .int .i64 a0_2, .int .i64 a0_3, .int .i64 a0_4] 47 (0, 0)) (by (with_reducible repeat (first | refine blk_drewN ?_ _ | refine blk_drew ?_ | refine blk_alloc ?_ _)); exact BK278.out)) : gb279 ≠ gb278)); clear BK278; clear HB; have BK278 := n0_; have HB := n1_; have BK279 := n2_; have GW279 := n3_; have GE279 := n4_; have NB278_279 := n5_; have NB279_278 := n6_; clear n0_ n1_ n2_ n3_ n4_ n5_ n6_; clear hb hbox hg; have hnb23 := NB278_279.out; have hnc23 := NB279_278.out; have hcz24_0 : w22.cell? ⟨gb278, 0, none⟩ = some (.string a0_0) := (blk_cell BK278.out 0).trans rfl; have hcz24_1 : w22.cell? ⟨gb278, 1, none⟩ = some (.string a0_1) := (blk_cell BK278.out 1).trans rfl; have hcz24_2 : w22.cell? ⟨gb278, 2, none⟩ = some (.int .i64 a0_2) := (blk_cell BK278.out 2).trans rfl; have hcz24_3 : w22.cell? ⟨gb278, 3, none⟩ = some (.int .i64 a0_3) := (blk_cell BK278.out 3).trans rfl; have hcz24_4 : w22.cell? ⟨gb278, 4, none⟩ = some (.int .i64 a0_4) := (blk_cell BK278.out 4).trans rfl; have hfz24_0 := blk_frozen BK278.out 0; have hfz24_1 := blk_frozen BK278.out 1; have hfz24_2 := blk_frozen BK278.out 2; have hfz24_3 := blk_frozen BK278.out 3; have hfz24_4 := blk_frozen BK278.out 4; have hcz25_0 : w22.cell? ⟨gb279, 0, none⟩ = some (.string a1_0) := (blk_cell BK279.out 0).trans rfl; have hcz25_1 : w22.cell? ⟨gb279, 1, none⟩ = some (.string a1_1) := (blk_cell BK279.out 1).trans rfl; have hcz25_2 : w22.cell? ⟨gb279, 2, none⟩ = some (.int .i64 a1_2) := (blk_cell BK279.out 2).trans rfl; have hcz25_3 : w22.cell? ⟨gb279, 3, none⟩ = some (.int .i64 a1_3) := (blk_cell BK279.out 3).trans rfl; have hcz25_4 : w22.cell? ⟨gb279, 4, none⟩ = some (.int .i64 a1_4) := (blk_cell BK279.out 4).trans rfl; have hfz25_0 := blk_frozen BK279.out 0; have hfz25_1 := blk_frozen BK279.out 1; have hfz25_2 := blk_frozen BK279.out 2; have hfz25_3 := blk_frozen BK279.out 3; have hfz25_4 := blk_frozen BK279.out 4))
  go_ret
  exact ⟨by first | rfl | (simp [errW_none, errW_some] <;> rfl) | (simp [*, errW_none, errW_some] <;> rfl), by repeat (first | (with_reducible first | exact HB.out | apply below_alloc | apply pw_below_drewN | apply below_drew1 | refine below_set ?_ GE278.out | refine below_set ?_ GE279.out) | exact HB.out)⟩

end Go.Proofs.YtmcddoolniaehaaGreat.S
end
section
namespace Go.Proofs.YtmcddoolniaehaaGreat.S
open Go.RowKit Go.Proofs.YtmcddoolniaehaaGreatW.PrintWords Go.Proofs.YtmcddoolniaehaaGreatW.PrintLast Go.Proofs.YtmcddoolniaehaaGreatW.PrintMore Go.Proofs.YtmcddoolniaehaaGreatW
set_option linter.unusedVariables false
set_option linter.unusedSimpArgs false
theorem keyRef_f (a : ByteArray) (k : Nat) (hs : a.size ≤ 100) (hk : 100 < k) : ref05_Key.f k a = some (keyB a.data.toList) := keyD_f a k (by omega) (by omega)
theorem oneRef_f (r : Rg) (k : Nat) (h : smallR r) (hk : 100 < k) : ref07_one.f k r.f0 r.f1 r.f2 r.f3.f0 r.f3.f1 = some (oneB r) := by
  unfold ref07_one.f oneB
  rw [keyRef_f _ k h.1 hk, keyRef_f _ k h.2 hk]
  simp only [Option.bind_some]
  cases keyB r.f0.data.toList
  · rfl
  cases keyB r.f1.data.toList
  · rfl
  by_cases h1 : 0 < r.f2 <;> by_cases h2 : 0 ≤ r.f3.f0 <;> by_cases h3 : r.f3.f0 < 8 <;> simp [h1, h2, h3]
theorem mayRef_loop : ∀ (suf pre : List Rg) (k : Nat), suf.length + 101 < k → (pre ++ suf).length < 4611686018427387904 → (∀ x ∈ suf, smallR x) →
    ref07_May.l0 k (pre ++ suf) ((pre.length : Nat) : Int) = some (mayRP pre.getLast? suf)
  | suf, pre, 0, hk, _, _ => by omega
  | [], pre, k + 1, _, _, _ => by
    simp only [ref07_May.l0]
    rw [if_neg (by simp)]
    rfl
  | x :: suf, pre, k + 1, hk, hl, ho => by
    have hlt : ((pre.length : Nat) : Int) < (((pre ++ x :: suf).length : Nat) : Int) := by simp; omega
    have hpl : pre.length < 4611686018427387904 := by simp at hl; omega
    have ih := mayRef_loop suf (pre ++ [x]) k (by simp at hk; omega) (by simpa using hl) (fun y hy => ho y (List.mem_cons_of_mem _ hy))
    rw [app_snoc, List.getLast?_concat, len_snoc] at ih
    simp only [ref07_May.l0]
    rw [if_pos hlt, if_pos (by omega), rd_mid, oneRef_f x k (ho x List.mem_cons_self) (by simp at hk; omega), Option.bind_some, wrap_succ hpl]
    unfold mayRP
    cases h1 : oneB x with
    | false => rfl
    | true =>
      simp only [if_true, Bool.true_and]
      rcases List.eq_nil_or_concat pre with rfl | ⟨p, y, rfl⟩
      · rw [if_neg (by simp)]
        simpa using ih
      · rw [List.concat_eq_append] at *
        have hw : wrap64 ((((p ++ [y]).length : Nat) : Int) - 1) = ((p.length : Nat) : Int) := by
          rw [List.length_append, List.length_singleton]; exact wrap_pred (by simp at hpl; omega)
        rw [if_pos (by simp), hw, if_pos (by omega), if_pos (by simp; omega), app_snoc, rd_mid, List.getLast?_concat]
        rw [app_snoc] at ih
        cases h2 : Op.bytesLess y.f0.toList x.f0.toList with
        | false => simp [h2]
        | true =>
          simp only [if_true]
          rw [ih, h2]; rfl
theorem mayRef_f (k : Nat) (l : List Rg) (hk : l.length + 101 < k) (hl : l.length < 1000000) (ho : ∀ x ∈ l, smallR x) : ref07_May.f k l = some (mayB l) := by
  have := mayRef_loop l [] k hk (by simp; omega) ho
  simpa [ref07_May.f, mayB] using this
theorem newerRef_f (a b : Rg) : ref07_Newer.f a.f0 a.f1 a.f2 a.f3.f0 a.f3.f1 b.f0 b.f1 b.f2 b.f3.f0 b.f3.f1 = some (newerB a b) := by
  unfold ref07_Newer.f newerB
  split
  · split
    · split <;> rfl
    · rfl
  · rfl
end Go.Proofs.YtmcddoolniaehaaGreat.S
end
section
namespace Go.Proofs.YtmcddoolniaehaaGreat.S
open Go.RowKit Go.Proofs.YtmcddoolniaehaaGreatW.PrintWords Go.Proofs.YtmcddoolniaehaaGreatW.PrintLast Go.Proofs.YtmcddoolniaehaaGreatW.PrintMore Go.Proofs.YtmcddoolniaehaaGreatW
set_option linter.unusedVariables false
set_option linter.unusedSimpArgs false
def goP (r : Rg) : Bool → List Rg → List Rg
  | d, [] => if d then [] else [r]
  | d, x :: l => (if d = false ∧ Op.bytesLess r.f0.toList x.f0.toList = true then [r] else []) ++ (if x.f0 = r.f0 then (if newerB r x then r else x) :: goP r true l else x :: goP r (d || Op.bytesLess r.f0.toList x.f0.toList) l)
theorem goP_done (r : Rg) : ∀ l : List Rg, (∀ y ∈ l, y.f0 ≠ r.f0) → goP r true l = l
  | [], _ => rfl
  | x :: l, h => by
    unfold goP
    rw [if_neg (by simp), if_neg (h x List.mem_cons_self), Bool.true_or, goP_done r l fun y hy => h y (List.mem_cons_of_mem _ hy)]
    rfl
theorem goP_put (r : Rg) : ∀ l : List Rg, l.Pairwise kLt → goP r false l = putR l r
  | [], _ => rfl
  | x :: l, hp => by
    rw [List.pairwise_cons] at hp
    have ih := goP_put r l hp.2
    unfold goP putR
    cases hx : Op.bytesLess x.f0.toList r.f0.toList with
    | true =>
      have hrx : Op.bytesLess r.f0.toList x.f0.toList = false := less_asymm hx
      have hne : x.f0 ≠ r.f0 := fun e => by rw [e, less_irrefl] at hx; cases hx
      rw [hrx, if_neg hne, if_neg (by simp)]
      simp [ih]
    | false =>
      by_cases he : x.f0 = r.f0
      · have hrx : Op.bytesLess r.f0.toList x.f0.toList = false := by rw [he, less_irrefl]
        rw [hrx, if_pos he, if_neg (show ¬(false = false ∧ false = true) by simp), goP_done r l fun y hy e => lt_ne (hp.1 y hy) (he.trans e.symm), if_neg (show ¬false = true by simp), if_pos he]
        cases newerB r x <;> simp
      · have hrx : Op.bytesLess r.f0.toList x.f0.toList = true := by
          cases q : Op.bytesLess r.f0.toList x.f0.toList with
          | true => rfl
          | false => exact absurd (toList_inj (less_antisymm hx q)) he
        rw [hrx, if_neg he, Bool.or_true, if_pos ⟨rfl, rfl⟩, if_neg (by simp), if_neg he, goP_done r l fun y hy e => by
          have := less_trans hrx (hp.1 y hy)
          rw [e, less_irrefl] at this; cases this]
        rfl
open Classical in
noncomputable def ref07_Put.f (k : Nat) (l : List S47) (a b : ByteArray) (c d e : Int) : Option (List S47) := if l.length ≤ 1000 ∧ (∀ x ∈ l, smallR x) ∧ smallR ⟨a, b, c, ⟨d, e⟩⟩ then some (putO l ⟨a, b, c, ⟨d, e⟩⟩) else none
theorem ref07_Put.mono : ∀ a0 a1 a2 a3 a4 a5 k, LeO (ref07_Put.f k a0 a1 a2 a3 a4 a5) (ref07_Put.f (k + 1) a0 a1 a2 a3 a4 a5) := fun _ _ _ _ _ _ _ _ h => h
theorem putRef_f (k : Nat) (l : List Rg) (r : Rg) (hk : 3 * l.length + 110 < k) (hl : l.length < 1000) (ho : ∀ x ∈ l, smallR x) (hr : smallR r) : ref07_Put.f k l r.f0 r.f1 r.f2 r.f3.f0 r.f3.f1 = some (putO l r) := by
  unfold ref07_Put.f
  rw [if_pos ⟨by omega, ho, hr⟩]
theorem rdN (l : List Rg) (j : Nat) (h : j < l.length) : rd_T47 l (j : Int) = l[j] := by simp [rd_T47, List.getD_eq_getElem?_getD, h]
set_option maxHeartbeats 16000000 in
set_option maxRecDepth 100000 in
theorem rput_calls (A0 : Option Addr) (c0 : Nat) (l : List S47) (r : S47) (w : World) (hr0 : Kd.C k47 w A0 l.length l) (hc0 : l.length ≤ c0) (hl : l.length ≤ 1000) (hs : ∀ x ∈ l, smallR x) (hr : smallR r) :
    Calls Tryz.prog 41 #[.slice A0 l.length c0, .agg #[.string r.f0, .string r.f1, .int .i64 r.f2, .int .i64 r.f3.f0, .int .i64 r.f3.f1]] w fun e w' => ∃ v, e = .returned v ∧ Kd.R k47 47 w' w.heap.size (fun _ => True) v (putO l r) ∧ Below w.heap.size w w' := by
  have hu := Tryz.underlying47
  have HR := Aside0.mk hr0
  have K0 := Aside0.mk (fun (W : World) (hb : Below w.heap.size w W) => ref07_May.calls 1200 A0 c0 l (mayB l) W (Kd.C_below hr0 hb) hc0 (mayRef_f 1200 l (by omega) (by omega) hs))
  have K1 := Aside0.mk (fun (W : World) => ref07_one.calls 1200 r.f0 r.f1 r.f2 r.f3.f0 r.f3.f1 (oneB r) W (oneRef_f r 1200 hr (by omega)))
  have K2 := Aside0.mk (fun (x : Rg) (W : World) => ref07_Newer.calls _ _ _ _ _ _ _ _ _ _ _ W (newerRef_f r x))
  have HU := Aside0.mk (fun (h : mayB l = true) => goP_put r l ((mayB_iff l).1 h).2)
  clear hr0 hc0 hs hr
  obtain ⟨m, hm⟩ : ∃ m, m = mayB l := ⟨_, rfl⟩
  obtain ⟨o1, ho1⟩ : ∃ o, o = oneB r := ⟨_, rfl⟩
  have HE := Aside0.mk (show putO l r = if m && o1 then putR l r else [] by rw [hm, ho1, ← putL_eq]; rfl)
  rw [← hm] at K0 HU
  rw [← ho1] at K1
  clear hm ho1
  have hBX := Bx.new (Below.refl w.heap.size w) (.cells #[.string r.f0, .string r.f1, .int .i64 r.f2, .int .i64 r.f3.f0, .int .i64 r.f3.f1] 47)
  go_enter Tryz.func41, Tryz.ntmps41
  go_wp2_with fail
  revert hBX
  generalize w.alloc (.cells #[.string r.f0, .string r.f1, .int .i64 r.f2, .int .i64 r.f3.f0, .int .i64 r.f3.f1] 47) = W1
  generalize w.heap.size = g0
  intro hBX
  refine (K0.out _ hBX.b).mono ?_
  rintro e w1 ⟨rfl, hb⟩
  replace hBX := hBX.go hb
  clear hb K0
  have s0 := (blk_cell hBX.x 0).trans rfl; have s1 := (blk_cell hBX.x 1).trans rfl; have s2 := (blk_cell hBX.x 2).trans rfl; have s3 := (blk_cell hBX.x 3).trans rfl; have s4 := (blk_cell hBX.x 4).trans rfl
  go_wp2_with fail
  refine (K1.out _).mono ?_
  rintro e w2 ⟨rfl, hb⟩
  replace hBX := hBX.go hb
  clear hb K1 s0 s1 s2 s3 s4
  by_cases hmo : m = true ∧ o1 = true
  rotate_left
  · have HF : Aside0 (putO l r = []) := ⟨by rw [HE.out]; revert hmo; cases m <;> cases o1 <;> simp⟩
    clear HE HU K2
    cases m <;> cases o1
    rotate_right
    · exact absurd ⟨rfl, rfl⟩ hmo
    all_goals
      clear hmo
      go_wp2
      go_ret
      exact ⟨_, rfl, by rw [HF.out]; exact Kd.R_nil _ _ _ _ _, hBX.b⟩
  obtain ⟨rfl, rfl⟩ := hmo
  have HU2 : Aside0 (putO l r = goP r false l) := ⟨by rw [HE.out, HU.out rfl]; rfl⟩
  have HO := Aside0.mk (show Ob k47 47 w g0 _ (.slice none 0 0) [] w2 from ⟨Ou.nil hBX.b, hBX.x, by simp [Value.ownBlock]⟩)
  clear HE HU hBX
  go_wp2
  go_loopw [7, 8, 9] (fun v7 v8 v9 wr => ∃ (v : Value) (d : Bool) (j : Nat) (xs : List Rg), v7 = v ∧ v8 = .bool d ∧ v9 = .int .i64 j ∧ j ≤ l.length ∧ Aside0 (putO l r = xs ++ goP r d (l.drop j)) ∧ Aside0 (xs.length ≤ 2 * j) ∧ Aside0 (Ob k47 47 w g0 (.cells #[.string r.f0, .string r.f1, .int .i64 r.f2, .int .i64 r.f3.f0, .int .i64 r.f3.f1] 47) v xs wr)) (fun _ _ v9 _ => l.length - (intOf v9).toNat)
  case atStart => exact ⟨_, _, 0, [], rfl, rfl, rfl, Nat.zero_le _, HU2, ⟨by simp⟩, HO⟩
  case round =>
    clear HU2 HO
    obtain ⟨v, d, j, xs, rfl, rfl, rfl, hj, HG, HL, HO⟩ := hrel
    by_cases hlt : j < l.length
    · obtain ⟨ad, e, hx0, hx1, hx2, hx3, hx4⟩ := at_T47 HR.out (j : Int) (by omega) (by omega)
      cases e
      rw [rdN l j hlt] at hx0 hx1 hx2 hx3 hx4
      simp only [Int.toNat_natCast] at hx0 hx1 hx2 hx3 hx4
      have HG2 : Aside0 (putO l r = xs ++ goP r d (l[j] :: l.drop (j + 1))) := ⟨by rw [HG.out, List.drop_eq_getElem_cons hlt]⟩
      have hj0 : (0 : Int) ≤ (j : Int) := by omega
      have hj1 : (j : Int) < (l.length : Int) := by omega
      have hxl : xs.length ≤ 90000 := by have := HL.out; omega
      clear HG
      generalize l[j] = x at *
      obtain ⟨b1, hb1⟩ : ∃ b, Op.bytesLess r.f0.toList x.f0.toList = b := ⟨_, rfl⟩
      obtain ⟨nw, hnw⟩ : ∃ b, b = newerB r x := ⟨_, rfl⟩
      have K3 := Aside0.mk (K2.out x)
      rw [← hnw] at K3
      have HN := Aside0.mk hnw.symm
      clear hnw
      have hD : d = true ∨ d = false ∧ (b1 = false ∨ b1 = true) := by cases d <;> cases b1 <;> simp
      rcases hD with rfl | ⟨rfl, rfl | rfl⟩
      all_goals
        go_wp2_with fail
        refine in_ (n := 12) (S := Ob k47 47 w g0 _ _ _) (by kernel_rfl) rfl HO.out.drew (fun hHeld => ?_)
        repeat (first
          | (refine run_ (v := ?_) (a' := ?_) rfl rfl hHeld ?_ ?_ ?_; rotate_left; (focus (intro w2 hs; have s0 := (blk_cell hs.x 0).trans rfl; have u0 := (hs.b.cell (World.block_lt_of_cell? w _ hx0)).trans hx0; go_simp; with_reducible rfl)); rotate_left; (focus (simp only [Act.put, sqA, sqB, sqC] <;> rfl)))
          | (refine skip_ (a' := ?_) rfl rfl hHeld ?_ ?_; rotate_left; (focus (simp only [Act.put, sqA, sqB, sqC] <;> rfl))))
        refine wpAnyH_done (by kernel_rfl) ?_ _
        replace HO := Aside0.mk hHeld
        clear hHeld
        have s0 := (blk_cell HO.out.x 0).trans rfl; have s1 := (blk_cell HO.out.x 1).trans rfl; have s2 := (blk_cell HO.out.x 2).trans rfl; have s3 := (blk_cell HO.out.x 3).trans rfl; have s4 := (blk_cell HO.out.x 4).trans rfl
        go_wp2_with (first | (at_builtin; refine apR r HO.out.toOu (by first | omega | (simp; omega)) rfl _ _ rfl rfl rfl ?_; intro v1 w3 hk1 ho1; replace HO := Aside0.mk (HO.out.kept ho1 hk1); clear hk1 ho1))
        clear s0 s1 s2 s3 s4
        by_cases heq : x.f0 = r.f0
        · have q0 : (x.f0.toList == r.f0.toList) = true := by rw [heq]; simp
          have q1 : (x.f0.toList != r.f0.toList) = false := by rw [heq]; simp
          have HEQ := Aside0.mk heq
          clear heq
          refine in_ (n := 8) (S := Ob k47 47 w g0 _ _ _) (by kernel_rfl) rfl HO.out.drew (fun hHeld => ?_)
          repeat (first
            | (refine run_ (v := ?_) (a' := ?_) rfl rfl hHeld ?_ ?_ ?_; rotate_left; (focus (intro w2 hs; have s0 := (blk_cell hs.x 0).trans rfl; have u0 := (hs.b.cell (World.block_lt_of_cell? w _ hx0)).trans hx0; go_simp; with_reducible rfl)); rotate_left; (focus (simp only [Act.put, sqA, sqB, sqC] <;> rfl)))
            | (refine skip_ (a' := ?_) rfl rfl hHeld ?_ ?_; rotate_left; (focus (simp only [Act.put, sqA, sqB, sqC] <;> rfl))))
          refine wpAnyH_done (by kernel_rfl) ?_ _
          replace HO := Aside0.mk hHeld
          clear hHeld
          go_wp2_with fail
          refine in_ (n := 7) (S := Ob k47 47 w g0 _ _ _) (by kernel_rfl) rfl HO.out.drew (fun hHeld => ?_)
          repeat (first
            | (refine run_ (v := ?_) (a' := ?_) rfl rfl hHeld ?_ ?_ ?_; rotate_left; (focus (intro w2 hs; have s0 := (blk_cell hs.x 0).trans rfl; have s1 := (blk_cell hs.x 1).trans rfl; have s2 := (blk_cell hs.x 2).trans rfl; have s3 := (blk_cell hs.x 3).trans rfl; have s4 := (blk_cell hs.x 4).trans rfl; have u0 := (hs.b.cell (World.block_lt_of_cell? w _ hx0)).trans hx0; have u1 := (hs.b.cell (World.block_lt_of_cell? w _ hx1)).trans hx1; have u2 := (hs.b.cell (World.block_lt_of_cell? w _ hx2)).trans hx2; have u3 := (hs.b.cell (World.block_lt_of_cell? w _ hx3)).trans hx3; have u4 := (hs.b.cell (World.block_lt_of_cell? w _ hx4)).trans hx4; go_simp; with_reducible rfl)); rotate_left; (focus (simp only [Act.put, sqA, sqB, sqC] <;> rfl)))
            | (refine skip_ (a' := ?_) rfl rfl hHeld ?_ ?_; rotate_left; (focus (simp only [Act.put, sqA, sqB, sqC] <;> rfl)))
            | (refine ask_ rfl rfl (fun K hK => ?_); go_simp; (first | (go_at_call 92; with_reducible refine (K3.out _).mono ?_)); rintro e1 w1 ⟨rfl, hb⟩; replace hHeld := hHeld.go hb; go_wp2_with fail; refine hK.out _ _ hHeld (fun _ => ?_); clear hK K hb; try simp only [Act.put, sqA, sqB, sqC]))
          refine wpAnyH_done (by kernel_rfl) ?_ _
          replace HO := Aside0.mk hHeld
          clear hHeld K3
          have hz := HO.out.b
          replace hx0 := (hz.cell (World.block_lt_of_cell? w _ hx0)).trans hx0; replace hx1 := (hz.cell (World.block_lt_of_cell? w _ hx1)).trans hx1; replace hx2 := (hz.cell (World.block_lt_of_cell? w _ hx2)).trans hx2; replace hx3 := (hz.cell (World.block_lt_of_cell? w _ hx3)).trans hx3; replace hx4 := (hz.cell (World.block_lt_of_cell? w _ hx4)).trans hx4
          clear hz
          have s0 := (blk_cell HO.out.x 0).trans rfl; have s1 := (blk_cell HO.out.x 1).trans rfl; have s2 := (blk_cell HO.out.x 2).trans rfl; have s3 := (blk_cell HO.out.x 3).trans rfl; have s4 := (blk_cell HO.out.x 4).trans rfl
          cases nw
          all_goals
            go_wp2_with (first | (at_builtin; refine apR r HO.out.toOu (by first | omega | (simp; omega)) rfl _ _ rfl rfl rfl ?_; intro v1 w3 hk1 ho1; replace HO := Aside0.mk (HO.out.kept ho1 hk1); clear hk1 ho1) | (at_builtin; refine apR x HO.out.toOu (by first | omega | (simp; omega)) rfl _ _ rfl rfl rfl ?_; intro v1 w3 hk1 ho1; replace HO := Aside0.mk (HO.out.kept ho1 hk1); clear hk1 ho1))
            go_roundw
            case rel => exact ⟨_, _, j + 1, _, rfl, rfl, by go_num, by omega, ⟨by rw [HG2.out]; simp only [goP]; rw [if_pos HEQ.out]; simp [hb1, HN.out]⟩, ⟨by have := HL.out; simp; omega⟩, HO⟩
            case measure => simp [intOf]; omega
        · have q0 : (x.f0.toList == r.f0.toList) = false := beq_eq_false_iff_ne.mpr fun e => heq (toList_inj e)
          have q1 : (x.f0.toList != r.f0.toList) = true := bne_iff_ne.mpr fun e => heq (toList_inj e)
          refine in_ (n := 8) (S := Ob k47 47 w g0 _ _ _) (by kernel_rfl) rfl HO.out.drew (fun hHeld => ?_)
          repeat (first
            | (refine run_ (v := ?_) (a' := ?_) rfl rfl hHeld ?_ ?_ ?_; rotate_left; (focus (intro w2 hs; have s0 := (blk_cell hs.x 0).trans rfl; have u0 := (hs.b.cell (World.block_lt_of_cell? w _ hx0)).trans hx0; go_simp; with_reducible rfl)); rotate_left; (focus (simp only [Act.put, sqA, sqB, sqC] <;> rfl)))
            | (refine skip_ (a' := ?_) rfl rfl hHeld ?_ ?_; rotate_left; (focus (simp only [Act.put, sqA, sqB, sqC] <;> rfl))))
          refine wpAnyH_done (by kernel_rfl) ?_ _
          replace HO := Aside0.mk hHeld
          clear hHeld K3
          have hz := HO.out.b
          replace hx0 := (hz.cell (World.block_lt_of_cell? w _ hx0)).trans hx0; replace hx1 := (hz.cell (World.block_lt_of_cell? w _ hx1)).trans hx1; replace hx2 := (hz.cell (World.block_lt_of_cell? w _ hx2)).trans hx2; replace hx3 := (hz.cell (World.block_lt_of_cell? w _ hx3)).trans hx3; replace hx4 := (hz.cell (World.block_lt_of_cell? w _ hx4)).trans hx4
          clear hz
          go_wp2_with (first | (at_builtin; refine apR x HO.out.toOu (by first | omega | (simp; omega)) rfl _ _ rfl rfl rfl ?_; intro v1 w3 hk1 ho1; replace HO := Aside0.mk (HO.out.kept ho1 hk1); clear hk1 ho1))
          go_roundw
          case rel => exact ⟨_, _, j + 1, _, rfl, rfl, by go_num, by omega, ⟨by rw [HG2.out]; simp only [goP]; rw [if_neg heq]; simp [hb1]⟩, ⟨by have := HL.out; simp; omega⟩, HO⟩
          case measure => simp [intOf]; omega
    · have hjl : j = l.length := by omega
      subst hjl
      rw [List.drop_length] at HG
      have hxl : xs.length ≤ 90000 := by have := HL.out; omega
      have s0 := (blk_cell HO.out.x 0).trans rfl; have s1 := (blk_cell HO.out.x 1).trans rfl; have s2 := (blk_cell HO.out.x 2).trans rfl; have s3 := (blk_cell HO.out.x 3).trans rfl; have s4 := (blk_cell HO.out.x 4).trans rfl
      cases d
      all_goals
        go_wp2_with (first | (at_builtin; refine apR r HO.out.toOu (by first | omega | (simp; omega)) rfl _ _ rfl rfl rfl ?_; intro v1 w3 hk1 ho1; replace HO := Aside0.mk (HO.out.kept ho1 hk1); clear hk1 ho1))
        go_ret
        exact ⟨_, rfl, by rw [HG.out]; simpa [goP] using HO.out.r, HO.out.b⟩
theorem ref07_Put.calls (k : Nat) (A0 : Option Addr) (c0 : Nat) (l0 : List S47) (a1_0 : ByteArray) (a1_1 : ByteArray) (a1_2 : Int) (a1_3 : Int) (a1_4 : Int) (r : List S47) (w : World) (hr0 : Kd.C k47 w A0 l0.length l0) (hc0 : l0.length ≤ c0) (h : ref07_Put.f k l0 a1_0 a1_1 a1_2 a1_3 a1_4 = some r) :
    Calls Tryz.prog 41 #[.slice A0 l0.length c0, .agg #[.string a1_0, .string a1_1, .int .i64 a1_2, .int .i64 a1_3, .int .i64 a1_4]] w fun e w' => ∃ v0_ : Value, e = .returned (v0_) ∧ Kd.R k47 47 w' w.heap.size (fun _ => True) v0_ r ∧ Below w.heap.size w w' := by
  unfold ref07_Put.f at h
  split at h
  case isFalse => cases h
  case isTrue hh =>
  cases h
  exact rput_calls A0 c0 l0 ⟨a1_0, a1_1, a1_2, ⟨a1_3, a1_4⟩⟩ w hr0 hc0 hh.1 hh.2.1 hh.2.2
end Go.Proofs.YtmcddoolniaehaaGreat.S
end
section
namespace Go.Proofs.YtmcddoolniaehaaGreat.S
open Go.RowKit Go.Proofs.YtmcddoolniaehaaGreatW.PrintWords Go.Proofs.YtmcddoolniaehaaGreatW.PrintLast Go.Proofs.YtmcddoolniaehaaGreatW.PrintMore Go.Proofs.YtmcddoolniaehaaGreatW
set_option linter.unusedVariables false
set_option linter.unusedSimpArgs false
open Classical in
noncomputable def ref07_Merge.f (k : Nat) (a b : List S47) : Option (List S47) := if (a.length ≤ 200 ∧ b.length ≤ 200) ∧ (∀ x ∈ a, smallR x) ∧ (∀ x ∈ b, smallR x) then some (mergeO a b) else none
theorem mergeRef_f (k : Nat) (a b : List Rg) (ha : a.length ≤ 200) (hb : b.length ≤ 200) (sa : ∀ x ∈ a, smallR x) (sb : ∀ x ∈ b, smallR x) : ref07_Merge.f k a b = some (mergeO a b) := by
  unfold ref07_Merge.f
  rw [if_pos ⟨⟨ha, hb⟩, sa, sb⟩]
set_option maxHeartbeats 8000000 in
set_option maxRecDepth 100000 in
theorem ref07_Merge.calls (k : Nat) (A0 : Option Addr) (c0 : Nat) (a : List S47) (A1 : Option Addr) (c1 : Nat) (b : List S47) (r : List S47) (w : World) (hr0 : Kd.C k47 w A0 a.length a) (hc0 : a.length ≤ c0) (hr1 : Kd.C k47 w A1 b.length b) (hc1 : b.length ≤ c1) (h : ref07_Merge.f k a b = some r) :
    Calls Tryz.prog 65 #[.slice A0 a.length c0, .slice A1 b.length c1] w fun e w' => ∃ v0_ : Value, e = .returned (v0_) ∧ Kd.R k47 47 w' w.heap.size (fun _ => True) v0_ r ∧ Below w.heap.size w w' := by
  unfold ref07_Merge.f at h
  split at h
  case isFalse => cases h
  case isTrue hh =>
  cases h
  obtain ⟨⟨l0, l1⟩, q0, q1⟩ := hh
  have hu := Tryz.underlying47
  have HRa := Aside0.mk hr0
  have HRb := Aside0.mk hr1
  have KMa := Aside0.mk (fun (W : World) (hb : Below w.heap.size w W) => ref07_May.calls 400 A0 c0 a (mayB a) W (Kd.C_below hr0 hb) hc0 (mayRef_f 400 a (by omega) (by omega) q0))
  have KMb := Aside0.mk (fun (W : World) (hb : Below w.heap.size w W) => ref07_May.calls 400 A1 c1 b (mayB b) W (Kd.C_below hr1 hb) hc1 (mayRef_f 400 b (by omega) (by omega) q1))
  have HQ : Aside0 (mayB a = true → mayB b = true → ∀ j, mayB ((b.take j).foldl putL a) = true ∧ (∀ x ∈ (b.take j).foldl putL a, smallR x)) := ⟨fun ha hb j => ⟨may_fold ha fun x hx => ((mayB_iff b).1 hb).1 x (List.mem_of_mem_take hx), fun x hx => by
    rcases foldl_mem _ _ hx with hx | hx
    · exact q1 x (List.mem_of_mem_take hx)
    · exact q0 x hx⟩⟩
  have HO1 : Aside0 (mayB b = true → ∀ x ∈ b, oneB x = true) := ⟨fun hb => ((mayB_iff b).1 hb).1⟩
  have HS := Aside0.mk q1
  have HM : Aside0 (mergeO a b = if mayB a && mayB b then b.foldl putL a else []) := ⟨rfl⟩
  generalize mayB a = ma at *
  generalize mayB b = mb at *
  clear hr0 hr1 hc0 hc1 q0 q1
  have hB := Below.refl w.heap.size w
  have HB := Aside0.mk hB
  clear hB
  go_enter Tryz.func65, Tryz.ntmps65
  go_wp2_with fail
  refine (KMa.out _ HB.out).mono ?_
  rintro e Wa ⟨rfl, hb⟩
  replace HB := Aside0.mk (below_step HB.out hb)
  clear hb KMa
  go_wp2_with fail
  refine (KMb.out _ HB.out).mono ?_
  rintro e Wb ⟨rfl, hb⟩
  replace HB := Aside0.mk (below_step HB.out hb)
  clear hb KMb
  by_cases hm : ma = true ∧ mb = true
  rotate_left
  · have HF : Aside0 (mergeO a b = []) := ⟨by rw [HM.out]; revert hm; cases ma <;> cases mb <;> simp⟩
    clear HM HQ HO1
    cases ma <;> cases mb
    rotate_right
    · exact absurd ⟨rfl, rfl⟩ hm
    all_goals
      clear hm
      go_wp2
      go_ret
      exact ⟨_, rfl, by rw [HF.out]; exact Kd.R_nil _ _ _ _ _, HB.out⟩
  obtain ⟨rfl, rfl⟩ := hm
  have HF : Aside0 (mergeO a b = b.foldl putL a) := ⟨by rw [HM.out]; rfl⟩
  have HQ2 := Aside0.mk (HQ.out rfl rfl)
  have HO2 := Aside0.mk (HO1.out rfl)
  clear HM HQ HO1
  go_wp2_with (first
    | (at_builtin; refine arR (Ou.nil HB.out) (Kd.C_below HRa.out HB.out) (by simp; omega) rfl _ _ rfl rfl rfl ?_; intro v1 w1 hk1 ho1; have HO : Aside0 (Ou k47 47 w v1 ((b.take 0).foldl putL a) w1) := ⟨(by simpa using ho1)⟩; clear hk1 ho1 HB))
  go_loopw [7, 8] (fun v1 v2 wr => ∃ (v : Value) (j : Nat), v1 = v ∧ v2 = .int .i64 j ∧ j ≤ b.length ∧ Aside0 (Ou k47 47 w v ((b.take j).foldl putL a) wr)) (fun _ v2 _ => b.length - (intOf v2).toNat)
  case atStart => exact ⟨_, 0, rfl, rfl, Nat.zero_le _, HO⟩
  case round =>
    clear HO
    obtain ⟨v, j, hv, rfl, hj, HO⟩ := hrel
    subst hv
    by_cases hlt : j < b.length
    · obtain ⟨ad, e, hx0, hx1, hx2, hx3, hx4⟩ := at_T47 HRb.out (j : Int) (by omega) (by omega)
      cases e
      rw [rdN b j hlt] at hx0 hx1 hx2 hx3 hx4
      simp only [Int.toNat_natCast] at hx0 hx1 hx2 hx3 hx4
      have hj0 : (0 : Int) ≤ (j : Int) := by omega
      have hj1 : (j : Int) < (b.length : Int) := by omega
      have hE : (b.take (j + 1)).foldl putL a = putO ((b.take j).foldl putL a) b[j] := by
        rw [List.take_succ_eq_append_getElem hlt, List.foldl_append]
        unfold putO
        rw [(HQ2.out j).1, HO2.out _ (List.getElem_mem hlt)]
        rfl
      have HE := Aside0.mk hE
      have HX := Aside0.mk (HS.out _ (List.getElem_mem hlt))
      have HA := Aside0.mk (HQ2.out j).2
      have HL : Aside0 (((b.take j).foldl putL a).length ≤ 400) := ⟨by have := foldl_length (b.take j) a; rw [List.length_take] at this; omega⟩
      clear hE
      generalize b[j] = x at *
      generalize (b.take j).foldl putL a = xs at *
      have z0 := (HO.out.b.cell (World.block_lt_of_cell? w _ hx0)).trans hx0; have z1 := (HO.out.b.cell (World.block_lt_of_cell? w _ hx1)).trans hx1; have z2 := (HO.out.b.cell (World.block_lt_of_cell? w _ hx2)).trans hx2; have z3 := (HO.out.b.cell (World.block_lt_of_cell? w _ hx3)).trans hx3; have z4 := (HO.out.b.cell (World.block_lt_of_cell? w _ hx4)).trans hx4
      obtain ⟨A, c, rfl, hlc, hC⟩ := Kd.R_reads HO.out.r
      have K1 := Aside0.mk (rput_calls A c xs x wr hC hlc (by have := HL.out; omega) HA.out HX.out)
      clear hC hlc
      go_wp2_with fail
      refine K1.out.mono ?_
      rintro e1 w2 ⟨v2, rfl, hr, hb⟩
      replace HO := Aside0.mk (Ou.of hr HO.out.b hb)
      rw [← HE.out] at HO
      clear hr hb K1 HE HX HA HL z0 z1 z2 z3 z4
      go_wp2
      go_roundw
      case rel => exact ⟨_, j + 1, rfl, by go_num, by omega, HO⟩
      case measure => simp [intOf]; omega
    · have hjl : j = b.length := by omega
      subst hjl
      rw [List.take_length] at HO
      go_wp2
      go_ret
      exact ⟨_, rfl, by rw [HF.out]; exact HO.out.r, HO.out.b⟩
end Go.Proofs.YtmcddoolniaehaaGreat.S
end
