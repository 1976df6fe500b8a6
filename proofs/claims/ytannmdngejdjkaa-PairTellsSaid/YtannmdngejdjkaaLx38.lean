-- PRINTED by print.py (a twelfth state) out of the translation. Not trusted: Lean checks it.
import Derived.Test.YtannmdngejdjkaaLSq
import Derived.Test.YtannmdngejdjkaaLx0
import Derived.Test.YtannmdngejdjkaaLx3
namespace Go.Proofs.Ytannmdngejdjkaa.L
open Go.RowKit Go.Proofs.YtannmdngejdjkaaW.PrintWords Go.Proofs.YtannmdngejdjkaaW.PrintLast Go.Proofs.YtannmdngejdjkaaW.PrintMore
attribute [local go_sem] max2_int min2_int max_two min_two max_three min_three max_four min_four   -- for this text's walks alone
set_option linter.unusedVariables false
set_option linter.unusedSimpArgs false

attribute [local go_sem high] eqA57
/-! ### ref08_Same: function 48 -/
def ref08_Same.l0 : Nat → List (S57) → List (S57) → Int → Option (Bool)
 | 0, _, _, _ => none
 | k + 1, x0, x1, x5 => if x5 < (x0.length : Int) then (if 0 ≤ x5 then (if x5 < (x1.length : Int) then (if (!((((rd_T57 x0 x5).f0).toList) == (((rd_T57 x1 x5).f0).toList)) || (!((((rd_T57 x0 x5).f1).toList) == (((rd_T57 x1 x5).f1).toList)) || ((!(((rd_T57 x0 x5).f2.f0) == ((rd_T57 x1 x5).f2.f0)) || (!(((rd_T57 x0 x5).f2.f1) == ((rd_T57 x1 x5).f2.f1))))))) = true then (some false) else (ref08_Same.l0 k x0 x1 (wrap64 (x5 + 1)))) else (none)) else (none)) else (some true)
def ref08_Same.f (k : Nat) (l0 : List (S57)) (l1 : List (S57)) : Option (Bool) := if (l0.length : Int) = (l1.length : Int) then (ref08_Same.l0 k l0 l1 0) else (some false)
theorem ref08_Same.mono_l : ∀ k, (∀ y0 y1 y2, LeO (ref08_Same.l0 k y0 y1 y2) (ref08_Same.l0 (k + 1) y0 y1 y2))
 | 0 => fun _ _ _ r h => by simp [ref08_Same.l0] at h
 | k + 1 => by
  have ih0 := ref08_Same.mono_l k
  ·intro y0 y1 y2
   unfold ref08_Same.l0
   repeat' first
   | (with_reducible exact ih0 _ _ _)
   | (with_reducible exact LeO.refl _)
   | (with_reducible exact LeO.none _)
   | (with_reducible refine LeO.ite ?_ ?_)
   | (with_reducible refine LeO.bind ?_ (fun _ => ?_))
   | exact ih0 _ _ _
   | exact LeO.none _
   | refine LeO.ite ?_ ?_
   | refine LeO.bind ?_ (fun _ => ?_)
theorem ref08_Same.mono : ∀ a0 a1 k, LeO (ref08_Same.f k a0 a1) (ref08_Same.f (k + 1) a0 a1) := by
 intro a0 a1 k
 have ih0 := ref08_Same.mono_l k
 unfold ref08_Same.f
 repeat' first
   | (with_reducible exact ih0 _ _ _)
   | (with_reducible exact LeO.refl _)
   | (with_reducible exact LeO.none _)
   | (with_reducible refine LeO.ite ?_ ?_)
   | (with_reducible refine LeO.bind ?_ (fun _ => ?_))
   | exact ih0 _ _ _
   | exact LeO.none _
   | refine LeO.ite ?_ ?_
   | refine LeO.bind ?_ (fun _ => ?_)
set_option maxHeartbeats 8000000 in
set_option maxRecDepth 100000 in
theorem ref08_Same.calls (k : Nat) (A0 : Option Addr) (c0 : Nat) (l0 : List (S57)) (A1 : Option Addr) (c1 : Nat) (l1 : List (S57)) (r : Bool) (w : World) (hr0 : Kd.C k57 w A0 l0.length l0) (hc0 : l0.length ≤ c0) (hr1 : Kd.C k57 w A1 l1.length l1) (hc1 : l1.length ≤ c1) (h : ref08_Same.f k l0 l1 = some r) :
  Calls Try.prog 48 #[.slice A0 l0.length c0, .slice A1 l1.length c1] w fun e w' => e = .returned (.bool r) ∧ Drawn0 w w' := by
 have hu57 := Try.underlying57
 have HR0 := Aside0.mk hr0
 have HC0 := Aside0.mk hc0
 clear hr0 hc0
 have HR1 := Aside0.mk hr1
 have HC1 := Aside0.mk hc1
 clear hr1 hc1
 have H : (if (l0.length : Int) = (l1.length : Int) then (ref08_Same.l0 k l0 l1 0) else (some false)) = some r := h
 clear h
 by_cases c3 : (l0.length : Int) = (l1.length : Int)
 ·rw [if_pos c3] at H
  have c3b0 : ((l0.length : Int) == (l1.length : Int)) = true := beq_iff_eq.mpr c3
  have c3b1 : ((l0.length : Int) != (l1.length : Int)) = false := bne_eq_false_iff_eq.mpr c3
  have c3b2 : (l0.length == l1.length) = true := by first | simpa using c3 | (simp at c3 ⊢; omega)
  clear c3
  have H' := Aside0.mk H
  clear H
  go_enter Try.func48, Try.ntmps48
  go_wp2
  repeat (go_quiet (fail); try go_wp2)
  go_loopg [5] k (fun kq v5 w' => ∃ (x5_1 : Int), v5 = .int .i64 x5_1 ∧ Aside0 (ref08_Same.l0 kq l0 l1 x5_1 = some r) ∧ Aside0 (kq ≤ k) ∧ Drawn0 w w')
  case atStart => exact ⟨(0), (by first | rfl | (simp; done) | (simp [*]; done)), H', ⟨Nat.le_refl _⟩, by repeat (first | exact Drawn0.refl _ | apply Drawn0.step)⟩
  case round =>
   clear H'
   try clear c1
   try clear p2
   try clear c3
   try clear c3b0
   try clear c3b1
   try clear c3b2
   obtain ⟨x5_1, rfl, HA, HK1, ⟨m1, rfl⟩⟩ := hrel
   cases gk with
   | zero => exact absurd HA.out (by simp [ref08_Same.l0])
   | succ k1 =>
    have H := HA.out
    clear HA
    simp only [ref08_Same.l0] at H
    by_cases c4 : x5_1 < (l0.length : Int)
    ·rw [if_pos c4] at H
     have c4b0 : decide (x5_1 < (l0.length : Int)) = true := decide_eq_true c4
     clear c4
     by_cases c5 : 0 ≤ x5_1
     ·rw [if_pos c5] at H
      have c5b0 : decide (0 ≤ x5_1) = true := decide_eq_true c5
      clear c5
      by_cases c6 : x5_1 < (l1.length : Int)
      ·rw [if_pos c6] at H
       have c6b0 : decide (x5_1 < (l1.length : Int)) = true := decide_eq_true c6
       clear c6
       by_cases c7 : (!((((rd_T57 l0 x5_1).f0).toList) == (((rd_T57 l1 x5_1).f0).toList)) || (!((((rd_T57 l0 x5_1).f1).toList) == (((rd_T57 l1 x5_1).f1).toList)) || ((!(((rd_T57 l0 x5_1).f2.f0) == ((rd_T57 l1 x5_1).f2.f0)) || (!(((rd_T57 l0 x5_1).f2.f1) == ((rd_T57 l1 x5_1).f2.f1))))))) = true
       ·rw [if_pos c7] at H
        have c7b0 : (!((((rd_T57 l0 x5_1).f0).toList) == (((rd_T57 l1 x5_1).f0).toList)) || (!((((rd_T57 l0 x5_1).f1).toList) == (((rd_T57 l1 x5_1).f1).toList)) || ((!(((rd_T57 l0 x5_1).f2.f0) == ((rd_T57 l1 x5_1).f2.f0)) || (!(((rd_T57 l0 x5_1).f2.f1) == ((rd_T57 l1 x5_1).f2.f1))))))) = true := c7
        clear c7
        obtain rfl := Option.some.inj H
        have p681 : 0 ≤ (x5_1 : Int) := of_decide_eq_true (by first | (with_reducible assumption) | assumption)
        have q681 : x5_1 < (l0.length : Int) := of_decide_eq_true (by first | (with_reducible assumption) | assumption)
        obtain ⟨ad681, e681, hx681_0, hx681_1, hx681_2, hx681_3⟩ := at_T57 HR0.out x5_1 p681 q681
        cases e681
        replace p681 := eq_true p681
        replace q681 := eq_true q681
        have p682 : 0 ≤ (x5_1 : Int) := of_decide_eq_true (by first | (with_reducible assumption) | assumption)
        have q682 : x5_1 < (l1.length : Int) := of_decide_eq_true (by first | (with_reducible assumption) | assumption)
        obtain ⟨ad682, e682, hx682_0, hx682_1, hx682_2, hx682_3⟩ := at_T57 HR1.out x5_1 p682 q682
        cases e682
        replace p682 := eq_true p682
        replace q682 := eq_true q682
        go_wp2
        repeat (go_quiet (fail); try go_wp2)
        go_ret
        exact ⟨by first | rfl | (simp; done) | (simp [*]; done), by repeat (first | exact Drawn0.refl _ | apply Drawn0.step)⟩
       ·rw [if_neg c7] at H
        have c7b0 : (!((((rd_T57 l0 x5_1).f0).toList) == (((rd_T57 l1 x5_1).f0).toList)) || (!((((rd_T57 l0 x5_1).f1).toList) == (((rd_T57 l1 x5_1).f1).toList)) || ((!(((rd_T57 l0 x5_1).f2.f0) == ((rd_T57 l1 x5_1).f2.f0)) || (!(((rd_T57 l0 x5_1).f2.f1) == ((rd_T57 l1 x5_1).f2.f1))))))) = false := by simpa using c7
        clear c7
        have H' := Aside0.mk H
        clear H
        have p681 : 0 ≤ (x5_1 : Int) := of_decide_eq_true (by first | (with_reducible assumption) | assumption)
        have q681 : x5_1 < (l0.length : Int) := of_decide_eq_true (by first | (with_reducible assumption) | assumption)
        obtain ⟨ad681, e681, hx681_0, hx681_1, hx681_2, hx681_3⟩ := at_T57 HR0.out x5_1 p681 q681
        cases e681
        replace p681 := eq_true p681
        replace q681 := eq_true q681
        have p682 : 0 ≤ (x5_1 : Int) := of_decide_eq_true (by first | (with_reducible assumption) | assumption)
        have q682 : x5_1 < (l1.length : Int) := of_decide_eq_true (by first | (with_reducible assumption) | assumption)
        obtain ⟨ad682, e682, hx682_0, hx682_1, hx682_2, hx682_3⟩ := at_T57 HR1.out x5_1 p682 q682
        cases e682
        replace p682 := eq_true p682
        replace q682 := eq_true q682
        go_wp2
        repeat (go_quiet (fail); try go_wp2)
        go_roundg k1
        case measure => have := HK1.out; omega
        case rel => exact ⟨(wrap64 (x5_1 + 1)), (by first | rfl | (simp; done) | (simp [*]; done)), H', ⟨by have := HK1.out; omega⟩, by repeat (first | exact Drawn0.refl _ | apply Drawn0.step)⟩
      ·rw [if_neg c6] at H
       exact absurd H (by simp)
     ·rw [if_neg c5] at H
      exact absurd H (by simp)
    ·rw [if_neg c4] at H
     have c4b0 : decide (x5_1 < (l0.length : Int)) = false := decide_eq_false c4
     clear c4
     obtain rfl := Option.some.inj H
     go_wp2
     repeat (go_quiet (fail); try go_wp2)
     go_ret
     exact ⟨by first | rfl | (simp; done) | (simp [*]; done), by repeat (first | exact Drawn0.refl _ | apply Drawn0.step)⟩
 ·rw [if_neg c3] at H
  have c3b0 : ((l0.length : Int) == (l1.length : Int)) = false := beq_eq_false_iff_ne.mpr c3
  have c3b1 : ((l0.length : Int) != (l1.length : Int)) = true := bne_iff_ne.mpr c3
  have c3b2 : (l0.length == l1.length) = false := by first | simpa using c3 | (simp at c3 ⊢; omega)
  obtain rfl := Option.some.inj H
  go_enter Try.func48, Try.ntmps48
  go_wp2
  repeat (go_quiet (fail); try go_wp2)
  go_ret
  exact ⟨by first | rfl | (simp; done) | (simp [*]; done), by repeat (first | exact Drawn0.refl _ | apply Drawn0.step)⟩

/-! ### ref08_has: function 83 -/
def ref08_has.l0 : Nat → List (S57) → Int → ByteArray → ByteArray → Int → Int → Option (Bool)
 | 0, _, _, _, _, _, _ => none
 | k + 1, x0, x5, x684000, x684001, x684002, x684003 => if x5 < (x0.length : Int) then (if 0 ≤ x5 then (if ((((rd_T57 x0 x5).f0).toList) == x684000.toList && ((((rd_T57 x0 x5).f1).toList) == x684001.toList && ((((rd_T57 x0 x5).f2.f0) == x684002 && (((rd_T57 x0 x5).f2.f1) == x684003))))) = true then (some true) else (ref08_has.l0 k x0 (wrap64 (x5 + 1)) x684000 x684001 x684002 x684003)) else (none)) else (some false)
def ref08_has.f (k : Nat) (l0 : List (S57)) (a1_0 : ByteArray) (a1_1 : ByteArray) (a1_2 : Int) (a1_3 : Int) : Option (Bool) := ref08_has.l0 k l0 0 a1_0 a1_1 a1_2 a1_3
theorem ref08_has.mono_l : ∀ k, (∀ y0 y1 y2 y3 y4 y5, LeO (ref08_has.l0 k y0 y1 y2 y3 y4 y5) (ref08_has.l0 (k + 1) y0 y1 y2 y3 y4 y5))
 | 0 => fun _ _ _ _ _ _ r h => by simp [ref08_has.l0] at h
 | k + 1 => by
  have ih0 := ref08_has.mono_l k
  ·intro y0 y1 y2 y3 y4 y5
   unfold ref08_has.l0
   repeat' first
   | (with_reducible exact ih0 _ _ _ _ _ _)
   | (with_reducible exact LeO.refl _)
   | (with_reducible exact LeO.none _)
   | (with_reducible refine LeO.ite ?_ ?_)
   | (with_reducible refine LeO.bind ?_ (fun _ => ?_))
   | exact ih0 _ _ _ _ _ _
   | exact LeO.none _
   | refine LeO.ite ?_ ?_
   | refine LeO.bind ?_ (fun _ => ?_)
theorem ref08_has.mono : ∀ a0 a1 a2 a3 a4 k, LeO (ref08_has.f k a0 a1 a2 a3 a4) (ref08_has.f (k + 1) a0 a1 a2 a3 a4) := by
 intro a0 a1 a2 a3 a4 k
 have ih0 := ref08_has.mono_l k
 unfold ref08_has.f
 repeat' first
   | (with_reducible exact ih0 _ _ _ _ _ _)
   | (with_reducible exact LeO.refl _)
   | (with_reducible exact LeO.none _)
   | (with_reducible refine LeO.ite ?_ ?_)
   | (with_reducible refine LeO.bind ?_ (fun _ => ?_))
   | exact ih0 _ _ _ _ _ _
   | exact LeO.none _
   | refine LeO.ite ?_ ?_
   | refine LeO.bind ?_ (fun _ => ?_)
set_option maxHeartbeats 8000000 in
set_option maxRecDepth 100000 in
theorem ref08_has.calls (k : Nat) (A0 : Option Addr) (c0 : Nat) (l0 : List (S57)) (a1_0 : ByteArray) (a1_1 : ByteArray) (a1_2 : Int) (a1_3 : Int) (r : Bool) (w : World) (hr0 : Kd.C k57 w A0 l0.length l0) (hc0 : l0.length ≤ c0) (h : ref08_has.f k l0 a1_0 a1_1 a1_2 a1_3 = some r) :
  Calls Try.prog 83 #[.slice A0 l0.length c0, .agg #[.string a1_0, .string a1_1, .int .i64 a1_2, .int .i64 a1_3]] w fun e w' => e = .returned (.bool r) ∧ Below w.heap.size w w' := by
 have hu57 := Try.underlying57
 have HR0 := Aside0.mk hr0
 have HC0 := Aside0.mk hc0
 clear hr0 hc0
 have HB := Aside0.mk (Below.refl w.heap.size w)
 have H : (ref08_has.l0 k l0 0 a1_0 a1_1 a1_2 a1_3) = some r := h
 clear h
 have H' := Aside0.mk H
 clear H
 go_enter Try.func83, Try.ntmps83
 go_wp2_with (first | ((with_reducible refine gate_dst (N := 3) rfl ?_); refine box_event ?hg (N := 3) ?hd (cs := #[.string a1_0, .string a1_1, .int .i64 a1_2, .int .i64 a1_3]) (t := 57) ?hr ?_; (case hd => rfl); (case hg => rfl); (case hr => first | (go_simp; done) | (go_simp; rfl)); intro gb683 hg w3 hbox hb; have n0_ := Aside0.mk (below_step (by repeat (first | (with_reducible first | exact HB.out | apply below_alloc | apply pw_below_drewN | apply below_drew1) | exact HB.out)) hb); have n1_ := Aside0.mk (hbox); have n2_ := Aside0.mk ((by rw [hg]; exact (below_size (by repeat (first | (with_reducible first | exact HB.out | apply below_alloc | apply pw_below_drewN | apply below_drew1) | exact HB.out))) : w.heap.size ≤ gb683)); have n3_ := Aside0.mk ((by rw [hg]; exact (below_size (by repeat (first | (with_reducible first | exact HB.out | apply below_alloc | apply pw_below_drewN | apply below_drew1) | exact HB.out))) : w.heap.size ≤ gb683)); clear HB; have HB := n0_; have BK683 := n1_; have GW683 := n2_; have GE683 := n3_; clear n0_ n1_ n2_ n3_; clear hb hbox hg))
 repeat (go_quiet (first | ((with_reducible refine gate_dst (N := 3) rfl ?_); refine box_event ?hg (N := 3) ?hd (cs := #[.string a1_0, .string a1_1, .int .i64 a1_2, .int .i64 a1_3]) (t := 57) ?hr ?_; (case hd => rfl); (case hg => rfl); (case hr => first | (go_simp; done) | (go_simp; rfl)); intro gb683 hg w3 hbox hb; have n0_ := Aside0.mk (below_step (by repeat (first | (with_reducible first | exact HB.out | apply below_alloc | apply pw_below_drewN | apply below_drew1) | exact HB.out)) hb); have n1_ := Aside0.mk (hbox); have n2_ := Aside0.mk ((by rw [hg]; exact (below_size (by repeat (first | (with_reducible first | exact HB.out | apply below_alloc | apply pw_below_drewN | apply below_drew1) | exact HB.out))) : w.heap.size ≤ gb683)); have n3_ := Aside0.mk ((by rw [hg]; exact (below_size (by repeat (first | (with_reducible first | exact HB.out | apply below_alloc | apply pw_below_drewN | apply below_drew1) | exact HB.out))) : w.heap.size ≤ gb683)); clear HB; have HB := n0_; have BK683 := n1_; have GW683 := n2_; have GE683 := n3_; clear n0_ n1_ n2_ n3_; clear hb hbox hg)); try go_wp2_with (first | ((with_reducible refine gate_dst (N := 3) rfl ?_); refine box_event ?hg (N := 3) ?hd (cs := #[.string a1_0, .string a1_1, .int .i64 a1_2, .int .i64 a1_3]) (t := 57) ?hr ?_; (case hd => rfl); (case hg => rfl); (case hr => first | (go_simp; done) | (go_simp; rfl)); intro gb683 hg w3 hbox hb; have n0_ := Aside0.mk (below_step (by repeat (first | (with_reducible first | exact HB.out | apply below_alloc | apply pw_below_drewN | apply below_drew1) | exact HB.out)) hb); have n1_ := Aside0.mk (hbox); have n2_ := Aside0.mk ((by rw [hg]; exact (below_size (by repeat (first | (with_reducible first | exact HB.out | apply below_alloc | apply pw_below_drewN | apply below_drew1) | exact HB.out))) : w.heap.size ≤ gb683)); have n3_ := Aside0.mk ((by rw [hg]; exact (below_size (by repeat (first | (with_reducible first | exact HB.out | apply below_alloc | apply pw_below_drewN | apply below_drew1) | exact HB.out))) : w.heap.size ≤ gb683)); clear HB; have HB := n0_; have BK683 := n1_; have GW683 := n2_; have GE683 := n3_; clear n0_ n1_ n2_ n3_; clear hb hbox hg)))
 go_loopg [5] k (fun kq v5 w' => ∃ (x5_1 : Int), v5 = .int .i64 x5_1 ∧ Aside0 (ref08_has.l0 kq l0 x5_1 a1_0 a1_1 a1_2 a1_3 = some r) ∧ Aside0 (kq ≤ k) ∧ Aside0 (w'.heap[gb683]? = some (.cells #[.string a1_0, .string a1_1, .int .i64 a1_2, .int .i64 a1_3] 57 (0, 0))) ∧ Aside0 (Below w.heap.size w w'))
 case atStart => exact ⟨(0), (by first | rfl | (simp; done) | (simp [*]; done)), H', ⟨Nat.le_refl _⟩, ⟨by (with_reducible repeat (first | apply blN | apply blD | apply blA)); exact BK683.out⟩, ⟨by repeat (first | (with_reducible first | exact HB.out | apply below_alloc | apply pw_below_drewN | apply below_drew1 | refine below_set ?_ GE683.out) | exact HB.out)⟩⟩
 case round =>
  clear H'
  try clear p2
  obtain ⟨x5_1, rfl, HA, HK1, BK683, HB⟩ := hrel
  cases gk with
  | zero => exact absurd HA.out (by simp [ref08_has.l0])
  | succ k1 =>
   have H := HA.out
   clear HA
   simp only [ref08_has.l0] at H
   by_cases c4 : x5_1 < (l0.length : Int)
   ·rw [if_pos c4] at H
    have c4b0 : decide (x5_1 < (l0.length : Int)) = true := decide_eq_true c4
    clear c4
    by_cases c5 : 0 ≤ x5_1
    ·rw [if_pos c5] at H
     have c5b0 : decide (0 ≤ x5_1) = true := decide_eq_true c5
     clear c5
     by_cases c6 : ((((rd_T57 l0 x5_1).f0).toList) == a1_0.toList && ((((rd_T57 l0 x5_1).f1).toList) == a1_1.toList && ((((rd_T57 l0 x5_1).f2.f0) == a1_2 && (((rd_T57 l0 x5_1).f2.f1) == a1_3))))) = true
     ·rw [if_pos c6] at H
      have c6b0 : ((((rd_T57 l0 x5_1).f0).toList) == a1_0.toList && ((((rd_T57 l0 x5_1).f1).toList) == a1_1.toList && ((((rd_T57 l0 x5_1).f2.f0) == a1_2 && (((rd_T57 l0 x5_1).f2.f1) == a1_3))))) = true := c6
      (try (have c6b1 : decide ((((rd_T57 l0 x5_1).f0).toList) = a1_0.toList && ((((rd_T57 l0 x5_1).f1).toList) == a1_1.toList && ((((rd_T57 l0 x5_1).f2.f0) == a1_2 && (((rd_T57 l0 x5_1).f2.f1) == a1_3))))) = true := by simpa using c6))
      (try (have c6b2 : ((((rd_T57 l0 x5_1).f0).toList) == a1_0.toList && ((((rd_T57 l0 x5_1).f1).toList) == a1_1.toList && ((((rd_T57 l0 x5_1).f2.f0) == a1_2 && (((rd_T57 l0 x5_1).f2.f1) == a1_3))))) = true := by simpa using c6))
      clear c6
      obtain rfl := Option.some.inj H
      have p684 : 0 ≤ (x5_1 : Int) := of_decide_eq_true (by first | (with_reducible assumption) | assumption)
      have q684 : x5_1 < (l0.length : Int) := of_decide_eq_true (by first | (with_reducible assumption) | assumption)
      obtain ⟨ad684, e684, hx684_0, hx684_1, hx684_2, hx684_3⟩ := at_T57 HR0.out x5_1 p684 q684
      cases e684
      replace hx684_0 := (HB.out.cell (World.block_lt_of_cell? w _ hx684_0)).trans hx684_0
      replace hx684_1 := (HB.out.cell (World.block_lt_of_cell? w _ hx684_1)).trans hx684_1
      replace hx684_2 := (HB.out.cell (World.block_lt_of_cell? w _ hx684_2)).trans hx684_2
      replace hx684_3 := (HB.out.cell (World.block_lt_of_cell? w _ hx684_3)).trans hx684_3
      replace p684 := eq_true p684
      replace q684 := eq_true q684
      have hcz7_0 : wr.cell? ⟨gb683, 0, none⟩ = some (.string a1_0) := (blk_cell BK683.out 0).trans rfl
      have hcz7_1 : wr.cell? ⟨gb683, 1, none⟩ = some (.string a1_1) := (blk_cell BK683.out 1).trans rfl
      have hcz7_2 : wr.cell? ⟨gb683, 2, none⟩ = some (.int .i64 a1_2) := (blk_cell BK683.out 2).trans rfl
      have hcz7_3 : wr.cell? ⟨gb683, 3, none⟩ = some (.int .i64 a1_3) := (blk_cell BK683.out 3).trans rfl
      have hfz7_0 := blk_frozen BK683.out 0
      have hfz7_1 := blk_frozen BK683.out 1
      have hfz7_2 := blk_frozen BK683.out 2
      have hfz7_3 := blk_frozen BK683.out 3
      go_wp2
      repeat (go_quiet (fail); try go_wp2)
      go_ret
      exact ⟨by first | rfl | (simp [errW_none, errW_some] <;> rfl) | (simp [*, errW_none, errW_some] <;> rfl), by repeat (first | (with_reducible first | exact HB.out | apply below_alloc | apply pw_below_drewN | apply below_drew1 | refine below_set ?_ GE683.out) | exact HB.out)⟩
     ·rw [if_neg c6] at H
      have c6b0 : ((((rd_T57 l0 x5_1).f0).toList) == a1_0.toList && ((((rd_T57 l0 x5_1).f1).toList) == a1_1.toList && ((((rd_T57 l0 x5_1).f2.f0) == a1_2 && (((rd_T57 l0 x5_1).f2.f1) == a1_3))))) = false := by simpa using c6
      (try (have c6b1 : decide ((((rd_T57 l0 x5_1).f0).toList) = a1_0.toList && ((((rd_T57 l0 x5_1).f1).toList) == a1_1.toList && ((((rd_T57 l0 x5_1).f2.f0) == a1_2 && (((rd_T57 l0 x5_1).f2.f1) == a1_3))))) = false := by simpa using c6))
      (try (have c6b2 : ((((rd_T57 l0 x5_1).f0).toList) == a1_0.toList && ((((rd_T57 l0 x5_1).f1).toList) == a1_1.toList && ((((rd_T57 l0 x5_1).f2.f0) == a1_2 && (((rd_T57 l0 x5_1).f2.f1) == a1_3))))) = false := by simpa using c6))
      (try (have c6b3 : ¬ ((((rd_T57 l0 x5_1).f0).toList) = a1_0.toList && ((((rd_T57 l0 x5_1).f1).toList) == a1_1.toList && ((((rd_T57 l0 x5_1).f2.f0) == a1_2 && (((rd_T57 l0 x5_1).f2.f1) == a1_3))))) := by simpa using c6))
      clear c6
      have H' := Aside0.mk H
      clear H
      have p684 : 0 ≤ (x5_1 : Int) := of_decide_eq_true (by first | (with_reducible assumption) | assumption)
      have q684 : x5_1 < (l0.length : Int) := of_decide_eq_true (by first | (with_reducible assumption) | assumption)
      obtain ⟨ad684, e684, hx684_0, hx684_1, hx684_2, hx684_3⟩ := at_T57 HR0.out x5_1 p684 q684
      cases e684
      replace hx684_0 := (HB.out.cell (World.block_lt_of_cell? w _ hx684_0)).trans hx684_0
      replace hx684_1 := (HB.out.cell (World.block_lt_of_cell? w _ hx684_1)).trans hx684_1
      replace hx684_2 := (HB.out.cell (World.block_lt_of_cell? w _ hx684_2)).trans hx684_2
      replace hx684_3 := (HB.out.cell (World.block_lt_of_cell? w _ hx684_3)).trans hx684_3
      replace p684 := eq_true p684
      replace q684 := eq_true q684
      have hcz8_0 : wr.cell? ⟨gb683, 0, none⟩ = some (.string a1_0) := (blk_cell BK683.out 0).trans rfl
      have hcz8_1 : wr.cell? ⟨gb683, 1, none⟩ = some (.string a1_1) := (blk_cell BK683.out 1).trans rfl
      have hcz8_2 : wr.cell? ⟨gb683, 2, none⟩ = some (.int .i64 a1_2) := (blk_cell BK683.out 2).trans rfl
      have hcz8_3 : wr.cell? ⟨gb683, 3, none⟩ = some (.int .i64 a1_3) := (blk_cell BK683.out 3).trans rfl
      have hfz8_0 := blk_frozen BK683.out 0
      have hfz8_1 := blk_frozen BK683.out 1
      have hfz8_2 := blk_frozen BK683.out 2
      have hfz8_3 := blk_frozen BK683.out 3
      go_wp2
      repeat (go_quiet (fail); try go_wp2)
      go_roundg k1
      case measure => have := HK1.out; omega
      case rel => exact ⟨(wrap64 (x5_1 + 1)), (by first | rfl | (simp; done) | (simp [*]; done)), H', ⟨by have := HK1.out; omega⟩, ⟨by (with_reducible repeat (first | apply blN | apply blD | apply blA)); exact BK683.out⟩, ⟨by repeat (first | (with_reducible first | exact HB.out | apply below_alloc | apply pw_below_drewN | apply below_drew1 | refine below_set ?_ GE683.out) | exact HB.out)⟩⟩
    ·rw [if_neg c5] at H
     exact absurd H (by simp)
   ·rw [if_neg c4] at H
    have c4b0 : decide (x5_1 < (l0.length : Int)) = false := decide_eq_false c4
    clear c4
    obtain rfl := Option.some.inj H
    go_wp2
    repeat (go_quiet (fail); try go_wp2)
    go_ret
    exact ⟨by first | rfl | (simp [errW_none, errW_some] <;> rfl) | (simp [*, errW_none, errW_some] <;> rfl), by repeat (first | (with_reducible first | exact HB.out | apply below_alloc | apply pw_below_drewN | apply below_drew1 | refine below_set ?_ GE683.out) | exact HB.out)⟩

end Go.Proofs.Ytannmdngejdjkaa.L
