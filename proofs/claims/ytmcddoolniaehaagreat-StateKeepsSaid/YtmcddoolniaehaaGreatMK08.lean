/- Several of the walk's texts in one: Sx9. -/
import Derived.Test.YtmcddoolniaehaaGreatMK03
import Derived.Test.YtmcddoolniaehaaGreatMK04
import Derived.Test.YtmcddoolniaehaaGreatMK07
section
namespace Go.Proofs.YtmcddoolniaehaaGreat.S
open Go.RowKit Go.Proofs.YtmcddoolniaehaaGreatW.PrintWords Go.Proofs.YtmcddoolniaehaaGreatW.PrintLast Go.Proofs.YtmcddoolniaehaaGreatW.PrintMore
attribute [local go_sem] max2_int min2_int max_two min_two max_three min_three max_four min_four   -- for this text's walks alone
set_option linter.unusedVariables false
set_option linter.unusedSimpArgs false

def pair_May.l0 : Nat → List (S43) → List (S43) → Int → Int → Option (Bool)
 | 0, _, _, _, _ => none
 | k + 1, x0, x5, x6, x7 => if x7 < x6 then (if 0 ≤ x7 then (if x7 < (x5.length : Int) then ((ops_Key.f ((rd_T43 x5 x7).f0)).bind fun t132 => (if t132 = true then ((ops_Key.f ((rd_T43 x5 x7).f1)).bind fun t133 => (if t133 = true then (if ((rd_T43 x5 x7).f2.f0) < 0 then (some false) else (if ((rd_T43 x5 x7).f2.f0) ≥ 8 then (some false) else (if ((rd_T43 x5 x7).f2.f1) < 1 then (some false) else (if x7 > 0 then (if 0 ≤ (wrap64 (x7 - 1)) then (if (wrap64 (x7 - 1)) < (x0.length : Int) then ((pair_Less.f k ((rd_T43 x0 (wrap64 (x7 - 1))).f0) ((rd_T43 x0 (wrap64 (x7 - 1))).f1) ((rd_T43 x0 (wrap64 (x7 - 1))).f2.f0) ((rd_T43 x0 (wrap64 (x7 - 1))).f2.f1) ((rd_T43 x5 x7).f0) ((rd_T43 x5 x7).f1) ((rd_T43 x5 x7).f2.f0) ((rd_T43 x5 x7).f2.f1)).bind fun t135 => (if t135 = true then (pair_May.l0 k x0 x5 x6 (wrap64 (x7 + 1))) else (some false))) else (none)) else (none)) else (pair_May.l0 k x0 x5 x6 (wrap64 (x7 + 1))))))) else (some false))) else (some false))) else (none)) else (none)) else (some true)
def pair_May.f (k : Nat) (l0 : List (S43)) : Option (Bool) := pair_May.l0 k l0 l0 (l0.length : Int) 0
theorem pair_May.mono_l : ∀ k, (∀ y0 y1 y2 y3, LeO (pair_May.l0 k y0 y1 y2 y3) (pair_May.l0 (k + 1) y0 y1 y2 y3))
 | 0 => fun _ _ _ _ r h => by simp [pair_May.l0] at h
 | k + 1 => by
  have ih0 := pair_May.mono_l k
  ·intro y0 y1 y2 y3
   unfold pair_May.l0
   repeat' first
   | (with_reducible exact ih0 _ _ _ _)
   | (with_reducible exact pair_Less.mono _ _ _ _ _ _ _ _ _)
   | (with_reducible exact LeO.refl _)
   | (with_reducible exact LeO.none _)
   | (with_reducible refine LeO.ite ?_ ?_)
   | (with_reducible refine LeO.bind ?_ (fun _ => ?_))
   | exact ih0 _ _ _ _
   | exact pair_Less.mono _ _ _ _ _ _ _ _ _
   | exact LeO.none _
   | refine LeO.ite ?_ ?_
   | refine LeO.bind ?_ (fun _ => ?_)
theorem pair_May.mono : ∀ a0 k, LeO (pair_May.f k a0) (pair_May.f (k + 1) a0) := by
 intro a0 k
 have ih0 := pair_May.mono_l k
 unfold pair_May.f
 repeat' first
   | (with_reducible exact ih0 _ _ _ _)
   | (with_reducible exact pair_Less.mono _ _ _ _ _ _ _ _ _)
   | (with_reducible exact LeO.refl _)
   | (with_reducible exact LeO.none _)
   | (with_reducible refine LeO.ite ?_ ?_)
   | (with_reducible refine LeO.bind ?_ (fun _ => ?_))
   | exact ih0 _ _ _ _
   | exact pair_Less.mono _ _ _ _ _ _ _ _ _
   | exact LeO.none _
   | refine LeO.ite ?_ ?_
   | refine LeO.bind ?_ (fun _ => ?_)
def pair_May.T4 : Bool × List (List Nat × List Nat) := (true, [([], []), ([0], [0]), ([1], [1]), ([2], [2]), ([3, 2], [3]), ([4], [4]), ([5, 4], [4, 5]), ([6, 4, 4], [4, 6]), ([7, 4], [4, 7]), ([4, 8], [4, 8]), ([9, 7], [9]), ([10], [10]), ([11, 10], [10, 11]), ([12, 10], [10, 12]), ([13, 10], [10, 13]), ([10, 14], [10, 14]), ([15, 10], [15]), ([16], [16]), ([17, 16], [16, 17]), ([18, 16], [16, 18]), ([19, 16], [16, 19]), ([16, 20], [16, 20]), ([21, 16], [21]), ([22], [22]), ([23, 22], [22, 23]), ([24, 22], [22, 24]), ([25, 22], [22, 25]), ([22, 26], [22, 26]), ([27, 22], [27]), ([28], [28]), ([29, 28], [28, 29]), ([30, 28, 28], [28, 30]), ([31], [31]), ([31], [31]), ([33, 31], [31, 33]), ([32, 34, 31], [31, 32, 34]), ([35, 31], [31, 35]), ([31], [31]), ([36, 37, 31, 31], [31, 36, 37]), ([38, 31], [31, 38]), ([31, 39, 28], [28, 31, 39]), ([28, 40], [28, 40])])
def pair_May.B4 : List Nat := [0, 1, 3, 7, 15, 31, 63, 127, 255, 511, 1023, 2047, 4095, 8191, 16383, 32767, 65535, 131071, 262143, 524287, 1048575, 2097151, 4194303, 8388607, 16777215, 33554431, 67108863, 134217727, 268435455, 536870911, 1073741823, 2147483647, 4294967295, 4294967295, 12884901887, 34359738367, 68719476735, 4294967295, 274877906943, 549755813887, 1099511627775, 2199023255551]
theorem pair_May.tab4 : rtab .any (opsOf Tryz.f52 4) = pair_May.T4 := by kernel_rfl
theorem pair_May.bits4 : waitsOk pair_May.T4.2 pair_May.B4 = true := by kernel_rfl
set_option maxHeartbeats 8000000 in
set_option maxRecDepth 100000 in
theorem pair_May.calls (k : Nat) (A0 : Option Addr) (c0 : Nat) (l0 : List (S43)) (r : Bool) (w : World) (hr0 : Kd.C k43 w A0 l0.length l0) (hc0 : l0.length ≤ c0) (h : pair_May.f k l0 = some r) :
  Calls Tryz.prog 52 #[.slice A0 l0.length c0] w fun e w' => e = .returned (.bool r) ∧ Below w.heap.size w w' := by
 have hu43 := Tryz.underlying43
 have HR0 := Aside0.mk hr0
 have HC0 := Aside0.mk hc0
 clear hr0 hc0
 have HB := Aside0.mk (Below.refl w.heap.size w)
 have H : (pair_May.l0 k l0 l0 (l0.length : Int) 0) = some r := h
 clear h
 have H' := Aside0.mk H
 clear H
 go_enter Tryz.func52, Tryz.ntmps52
 go_wp2
 go_loopg [7] k (fun kq v7 w' => ∃ (x7_1 : Int), v7 = .int .i64 x7_1 ∧ Aside0 (pair_May.l0 kq l0 l0 (l0.length : Int) x7_1 = some r) ∧ Aside0 (kq ≤ k) ∧ Aside0 (Below w.heap.size w w'))
 case atStart => exact ⟨(0), (by first | rfl | (simp; done) | (simp [*]; done)), H', ⟨Nat.le_refl _⟩, ⟨by repeat (first | (with_reducible first | exact HB.out | apply below_alloc | apply pw_below_drewN | apply below_drew1) | exact HB.out)⟩⟩
 case round =>
  clear H'
  obtain ⟨x7_1, rfl, HA, HK1, HB⟩ := hrel
  cases gk with
  | zero => exact absurd HA.out (by simp [pair_May.l0])
  | succ k1 =>
   have H := HA.out
   clear HA
   simp only [pair_May.l0] at H
   by_cases c2 : x7_1 < (l0.length : Int)
   ·rw [if_pos c2] at H
    have c2b0 : decide (x7_1 < (l0.length : Int)) = true := decide_eq_true c2
    clear c2
    by_cases c3 : 0 ≤ x7_1
    ·rw [if_pos c3] at H
     have c3b0 : decide (0 ≤ x7_1) = true := decide_eq_true c3
     clear c3
     by_cases c4 : x7_1 < (l0.length : Int)
     ·rw [if_pos c4] at H
      have c4b0 : decide (x7_1 < (l0.length : Int)) = true := decide_eq_true c4
      clear c4
      replace H := Option.bind_eq_some_iff.mp H
      obtain ⟨t132, A50, H⟩ := H
      replace H : (if t132 = true then ((ops_Key.f ((rd_T43 l0 x7_1).f1)).bind fun t133 => (if t133 = true then (if ((rd_T43 l0 x7_1).f2.f0) < 0 then (some false) else (if ((rd_T43 l0 x7_1).f2.f0) ≥ 8 then (some false) else (if ((rd_T43 l0 x7_1).f2.f1) < 1 then (some false) else (if x7_1 > 0 then (if 0 ≤ (wrap64 (x7_1 - 1)) then (if (wrap64 (x7_1 - 1)) < (l0.length : Int) then ((pair_Less.f k1 ((rd_T43 l0 (wrap64 (x7_1 - 1))).f0) ((rd_T43 l0 (wrap64 (x7_1 - 1))).f1) ((rd_T43 l0 (wrap64 (x7_1 - 1))).f2.f0) ((rd_T43 l0 (wrap64 (x7_1 - 1))).f2.f1) ((rd_T43 l0 x7_1).f0) ((rd_T43 l0 x7_1).f1) ((rd_T43 l0 x7_1).f2.f0) ((rd_T43 l0 x7_1).f2.f1)).bind fun t135 => (if t135 = true then (pair_May.l0 k1 l0 l0 (l0.length : Int) (wrap64 (x7_1 + 1))) else (some false))) else (none)) else (none)) else (pair_May.l0 k1 l0 l0 (l0.length : Int) (wrap64 (x7_1 + 1))))))) else (some false))) else (some false)) = some r := H
      have A5 := Aside0.mk A50
      clear A50
      by_cases c6 : t132 = true
      ·subst c6
       have H1 : ((ops_Key.f ((rd_T43 l0 x7_1).f1)).bind fun t133 => (if t133 = true then (if ((rd_T43 l0 x7_1).f2.f0) < 0 then (some false) else (if ((rd_T43 l0 x7_1).f2.f0) ≥ 8 then (some false) else (if ((rd_T43 l0 x7_1).f2.f1) < 1 then (some false) else (if x7_1 > 0 then (if 0 ≤ (wrap64 (x7_1 - 1)) then (if (wrap64 (x7_1 - 1)) < (l0.length : Int) then ((pair_Less.f k1 ((rd_T43 l0 (wrap64 (x7_1 - 1))).f0) ((rd_T43 l0 (wrap64 (x7_1 - 1))).f1) ((rd_T43 l0 (wrap64 (x7_1 - 1))).f2.f0) ((rd_T43 l0 (wrap64 (x7_1 - 1))).f2.f1) ((rd_T43 l0 x7_1).f0) ((rd_T43 l0 x7_1).f1) ((rd_T43 l0 x7_1).f2.f0) ((rd_T43 l0 x7_1).f2.f1)).bind fun t135 => (if t135 = true then (pair_May.l0 k1 l0 l0 (l0.length : Int) (wrap64 (x7_1 + 1))) else (some false))) else (none)) else (none)) else (pair_May.l0 k1 l0 l0 (l0.length : Int) (wrap64 (x7_1 + 1))))))) else (some false))) = some r := by rw [if_pos rfl] at H; exact H
       clear H
       have H := H1
       clear H1
       replace H := Option.bind_eq_some_iff.mp H
       obtain ⟨t133, A70, H⟩ := H
       replace H : (if t133 = true then (if ((rd_T43 l0 x7_1).f2.f0) < 0 then (some false) else (if ((rd_T43 l0 x7_1).f2.f0) ≥ 8 then (some false) else (if ((rd_T43 l0 x7_1).f2.f1) < 1 then (some false) else (if x7_1 > 0 then (if 0 ≤ (wrap64 (x7_1 - 1)) then (if (wrap64 (x7_1 - 1)) < (l0.length : Int) then ((pair_Less.f k1 ((rd_T43 l0 (wrap64 (x7_1 - 1))).f0) ((rd_T43 l0 (wrap64 (x7_1 - 1))).f1) ((rd_T43 l0 (wrap64 (x7_1 - 1))).f2.f0) ((rd_T43 l0 (wrap64 (x7_1 - 1))).f2.f1) ((rd_T43 l0 x7_1).f0) ((rd_T43 l0 x7_1).f1) ((rd_T43 l0 x7_1).f2.f0) ((rd_T43 l0 x7_1).f2.f1)).bind fun t135 => (if t135 = true then (pair_May.l0 k1 l0 l0 (l0.length : Int) (wrap64 (x7_1 + 1))) else (some false))) else (none)) else (none)) else (pair_May.l0 k1 l0 l0 (l0.length : Int) (wrap64 (x7_1 + 1))))))) else (some false)) = some r := H
       have A7 := Aside0.mk A70
       clear A70
       by_cases c8 : t133 = true
       ·subst c8
        have H1 : (if ((rd_T43 l0 x7_1).f2.f0) < 0 then (some false) else (if ((rd_T43 l0 x7_1).f2.f0) ≥ 8 then (some false) else (if ((rd_T43 l0 x7_1).f2.f1) < 1 then (some false) else (if x7_1 > 0 then (if 0 ≤ (wrap64 (x7_1 - 1)) then (if (wrap64 (x7_1 - 1)) < (l0.length : Int) then ((pair_Less.f k1 ((rd_T43 l0 (wrap64 (x7_1 - 1))).f0) ((rd_T43 l0 (wrap64 (x7_1 - 1))).f1) ((rd_T43 l0 (wrap64 (x7_1 - 1))).f2.f0) ((rd_T43 l0 (wrap64 (x7_1 - 1))).f2.f1) ((rd_T43 l0 x7_1).f0) ((rd_T43 l0 x7_1).f1) ((rd_T43 l0 x7_1).f2.f0) ((rd_T43 l0 x7_1).f2.f1)).bind fun t135 => (if t135 = true then (pair_May.l0 k1 l0 l0 (l0.length : Int) (wrap64 (x7_1 + 1))) else (some false))) else (none)) else (none)) else (pair_May.l0 k1 l0 l0 (l0.length : Int) (wrap64 (x7_1 + 1))))))) = some r := by rw [if_pos rfl] at H; exact H
        clear H
        have H := H1
        clear H1
        by_cases c9 : ((rd_T43 l0 x7_1).f2.f0) < 0
        ·rw [if_pos c9] at H
         have c9b0 : decide (((rd_T43 l0 x7_1).f2.f0) < 0) = true := decide_eq_true c9
         clear c9
         obtain rfl := Option.some.inj H
         have p130 : 0 ≤ (x7_1 : Int) := of_decide_eq_true (by first | (with_reducible assumption) | assumption)
         have q130 : x7_1 < (l0.length : Int) := of_decide_eq_true (by first | (with_reducible assumption) | assumption)
         obtain ⟨ad130, e130, hx130_0, hx130_1, hx130_2, hx130_3⟩ := at_T43 HR0.out x7_1 p130 q130
         cases e130
         replace hx130_0 := (HB.out.cell (World.block_lt_of_cell? w _ hx130_0)).trans hx130_0
         replace hx130_1 := (HB.out.cell (World.block_lt_of_cell? w _ hx130_1)).trans hx130_1
         replace hx130_2 := (HB.out.cell (World.block_lt_of_cell? w _ hx130_2)).trans hx130_2
         replace hx130_3 := (HB.out.cell (World.block_lt_of_cell? w _ hx130_3)).trans hx130_3
         replace p130 := eq_true p130
         replace q130 := eq_true q130
         try go_wp2_with (first | ((with_reducible refine gate_dst (N := 4) rfl ?_); refine box_event ?hg (N := 4) ?hd (cs := #[.string (⟨#[]⟩ : ByteArray), .string (⟨#[]⟩ : ByteArray), .int .i64 0, .int .i64 0]) (t := 43) ?hr ?_; (case hd => rfl); (case hg => rfl); (case hr => first | (go_simp; done) | (go_simp; rfl)); intro gb131 hg w10 hbox hb; have n0_ := Aside0.mk (below_step (by repeat (first | (with_reducible first | exact HB.out | apply below_alloc | apply pw_below_drewN | apply below_drew1) | exact HB.out)) hb); have n1_ := Aside0.mk (hbox); have n2_ := Aside0.mk ((by rw [hg]; exact (below_size (by repeat (first | (with_reducible first | exact HB.out | apply below_alloc | apply pw_below_drewN | apply below_drew1) | exact HB.out))) : w.heap.size ≤ gb131)); have n3_ := Aside0.mk ((by rw [hg]; exact (below_size (by repeat (first | (with_reducible first | exact HB.out | apply below_alloc | apply pw_below_drewN | apply below_drew1) | exact HB.out))) : w.heap.size ≤ gb131)); clear HB; have HB := n0_; have BK131 := n1_; have GW131 := n2_; have GE131 := n3_; clear n0_ n1_ n2_ n3_; clear hb hbox hg; have hcz11_0 : w10.cell? ⟨gb131, 0, none⟩ = some (.string (⟨#[]⟩ : ByteArray)) := (blk_cell BK131.out 0).trans rfl; have hcz11_1 : w10.cell? ⟨gb131, 1, none⟩ = some (.string (⟨#[]⟩ : ByteArray)) := (blk_cell BK131.out 1).trans rfl; have hcz11_2 : w10.cell? ⟨gb131, 2, none⟩ = some (.int .i64 0) := (blk_cell BK131.out 2).trans rfl; have hcz11_3 : w10.cell? ⟨gb131, 3, none⟩ = some (.int .i64 0) := (blk_cell BK131.out 3).trans rfl; have hfz11_0 := blk_frozen BK131.out 0; have hfz11_1 := blk_frozen BK131.out 1; have hfz11_2 := blk_frozen BK131.out 2; have hfz11_3 := blk_frozen BK131.out 3))
         have n0_ : Aside0 (((((w10.setCell ⟨gb131, 0, none⟩ (.string ((rd_T43 l0 x7_1).f0))).setCell ⟨gb131, 1, none⟩ (.string ((rd_T43 l0 x7_1).f1))).setCell ⟨gb131, 2, none⟩ (.int .i64 ((rd_T43 l0 x7_1).f2.f0))).setCell ⟨gb131, 3, none⟩ (.int .i64 ((rd_T43 l0 x7_1).f2.f1))).heap[gb131]? = some (.cells #[.string ((rd_T43 l0 x7_1).f0), .string ((rd_T43 l0 x7_1).f1), .int .i64 ((rd_T43 l0 x7_1).f2.f0), .int .i64 ((rd_T43 l0 x7_1).f2.f1)] 43 (0, 0))) := ⟨by (with_reducible repeat (first | apply blN | apply blD | apply blA)); refine blk_put (cs := #[.string ((rd_T43 l0 x7_1).f0), .string ((rd_T43 l0 x7_1).f1), .int .i64 ((rd_T43 l0 x7_1).f2.f0), .int .i64 0]) ?_ 3 _ rfl; (with_reducible repeat (first | apply blN | apply blD | apply blA)); refine blk_put (cs := #[.string ((rd_T43 l0 x7_1).f0), .string ((rd_T43 l0 x7_1).f1), .int .i64 0, .int .i64 0]) ?_ 2 _ rfl; (with_reducible repeat (first | apply blN | apply blD | apply blA)); refine blk_put (cs := #[.string ((rd_T43 l0 x7_1).f0), .string (⟨#[]⟩ : ByteArray), .int .i64 0, .int .i64 0]) ?_ 1 _ rfl; (with_reducible repeat (first | apply blN | apply blD | apply blA)); refine blk_put (cs := #[.string (⟨#[]⟩ : ByteArray), .string (⟨#[]⟩ : ByteArray), .int .i64 0, .int .i64 0]) ?_ 0 _ rfl; (with_reducible repeat (first | apply blN | apply blD | apply blA)); exact BK131.out⟩
         have n1_ : Aside0 (Below w.heap.size w ((((w10.setCell ⟨gb131, 0, none⟩ (.string ((rd_T43 l0 x7_1).f0))).setCell ⟨gb131, 1, none⟩ (.string ((rd_T43 l0 x7_1).f1))).setCell ⟨gb131, 2, none⟩ (.int .i64 ((rd_T43 l0 x7_1).f2.f0))).setCell ⟨gb131, 3, none⟩ (.int .i64 ((rd_T43 l0 x7_1).f2.f1)))) := ⟨by repeat (first | (with_reducible first | exact HB.out | apply below_alloc | apply pw_below_drewN | apply below_drew1 | refine below_set ?_ GE131.out) | exact HB.out)⟩
         (try clear BK131)
         (try clear HB)
         generalize ((((w10.setCell ⟨gb131, 0, none⟩ (.string ((rd_T43 l0 x7_1).f0))).setCell ⟨gb131, 1, none⟩ (.string ((rd_T43 l0 x7_1).f1))).setCell ⟨gb131, 2, none⟩ (.int .i64 ((rd_T43 l0 x7_1).f2.f0))).setCell ⟨gb131, 3, none⟩ (.int .i64 ((rd_T43 l0 x7_1).f2.f1))) = w12 at n0_ n1_ ⊢
         have BK131 := n0_
         have HB := n1_
         clear n0_ n1_
         have n0_ := Aside0.mk (blk_drew BK131.out)
         have n1_ := Aside0.mk (below_drew1 HB.out)
         clear BK131
         clear HB
         have BK131 := n0_
         have HB := n1_
         clear n0_ n1_
         refine start_ (n := 42) (S := fun w' => w'.cell? ⟨gb131, 0, none⟩ = some (.string ((rd_T43 l0 x7_1).f0)) ∧ w'.cell? ⟨gb131, 1, none⟩ = some (.string ((rd_T43 l0 x7_1).f1)) ∧ w'.cell? ⟨gb131, 2, none⟩ = some (.int .i64 ((rd_T43 l0 x7_1).f2.f0)) ∧ w'.cell? ⟨gb131, 3, none⟩ = some (.int .i64 ((rd_T43 l0 x7_1).f2.f1))) (ds := []) #[O,O,O,O,O,O,O,O,O,O,O,O,O,O,O,O,O,O,O,O,O,O,O,O,O,O,O,O,O,O,O,O,O,O,O,O,O,O,O,O,O,O] (by kernel_rfl) rfl rfl ⟨(blk_cell BK131.out 0).trans rfl, (blk_cell BK131.out 1).trans rfl, (blk_cell BK131.out 2).trans rfl, (blk_cell BK131.out 3).trans rfl⟩ (fun hHeld => ?_); refine with_tabW pair_May.tab4 pair_May.bits4 (fun HT_ HW_ => ?_)
         generalize w12.drew = w13 at BK131 HB hHeld ⊢
         refine sqP (i := 0) (N := some 12) (v := ?_) (a' := ?_) #[I,O,O,O,O,O,O,O,O,O,O,O,O,O,O,O,O,O,O,O,O,O,O,O,O,O,O,O,O,O,O,O,O,O,O,O,O,O,O,O,O,O] rfl rfl HT_.out (Or.inl ⟨by rfl, ?_⟩) ?_ ?_
         rotate_left
         ·intro w'
          go_simp
          with_reducible rfl
         rotate_left
         ·simp only [Act.put, sqA, sqB, sqC, i64_w, i32_w]
          rfl
         refine take_ (i := 1) (N := some 13) (v := ?_) (a' := ?_) #[I,I,O,O,O,O,O,O,O,O,O,O,O,O,O,O,O,O,O,O,O,O,O,O,O,O,O,O,O,O,O,O,O,O,O,O,O,O,O,O,O,O] rfl rfl (take_ofW HT_.out HW_.out (by kernel_rfl)) (fun _ _ _ h => h) (Or.inl ⟨by rfl, ?_⟩) hHeld ?_ ?_
         rotate_left
         ·rintro w' ⟨s0, s1, s2, s3⟩
          go_simp
          with_reducible rfl
         rotate_left
         ·simp only [Act.put, sqA, sqB, sqC, i64_w, i32_w]
          rfl
         refine one_ (i := 2) (N := some 14) #[I,I,I,O,O,O,O,O,O,O,O,O,O,O,O,O,O,O,O,O,O,O,O,O,O,O,O,O,O,O,O,O,O,O,O,O,O,O,O,O,O,O] rfl rfl (one_of HT_.out (by kernel_rfl)) (by decide) (fun K hK => ?_)
         refine goes_ Tryz.func76 (by kernel_rfl) rfl #[.string ((rd_T43 l0 x7_1).f0)] (by rfl) rfl rfl (by (try simp only [List.map_toArray, List.map_cons, List.map_nil]); first | done | rfl | (simp only [List.length_drop, List.length_take]; rfl)) ?_
         with_reducible refine (ops_Key.calls ((rd_T43 l0 x7_1).f0) true _ A5.out).mono ?_
         rintro e w' ⟨rfl, ⟨nd, rfl⟩⟩
         refine ⟨_, rfl, ?_⟩
         refine hK.out _ _ ⟨(blk_cell BK131.out 0).trans rfl, (blk_cell BK131.out 1).trans rfl, (blk_cell BK131.out 2).trans rfl, (blk_cell BK131.out 3).trans rfl⟩ (fun hHeld => ?_)
         clear hK K
         refine norm_ (a' := ?_) ?_ ?_
         rotate_left
         ·show Act.put _ (some 14) _ = _
          simp only [Act.put, sqA, sqB, sqC, i64_w, i32_w]
          rfl
         refine sqP (i := 3) (N := some 15) (v := ?_) (a' := ?_) #[I,I,I,I,O,O,O,O,O,O,O,O,O,O,O,O,O,O,O,O,O,O,O,O,O,O,O,O,O,O,O,O,O,O,O,O,O,O,O,O,O,O] rfl rfl HT_.out (Or.inl ⟨by rfl, ?_⟩) ?_ ?_
         rotate_left
         ·intro w'
          go_simp
          with_reducible rfl
         rotate_left
         ·simp only [Act.put, sqA, sqB, sqC, i64_w, i32_w]
          rfl
         refine sqP (i := 4) (N := some 16) (v := ?_) (a' := ?_) #[I,I,I,I,I,O,O,O,O,O,O,O,O,O,O,O,O,O,O,O,O,O,O,O,O,O,O,O,O,O,O,O,O,O,O,O,O,O,O,O,O,O] rfl rfl HT_.out (Or.inl ⟨by rfl, ?_⟩) ?_ ?_
         rotate_left
         ·intro w'
          go_simp
          with_reducible rfl
         rotate_left
         ·simp only [Act.put, sqA, sqB, sqC, i64_w, i32_w]
          rfl
         refine sqP (i := 5) (N := some 17) (v := ?_) (a' := ?_) #[I,I,I,I,I,I,O,O,O,O,O,O,O,O,O,O,O,O,O,O,O,O,O,O,O,O,O,O,O,O,O,O,O,O,O,O,O,O,O,O,O,O] rfl rfl HT_.out (Or.inl ⟨by rfl, ?_⟩) ?_ ?_
         rotate_left
         ·intro w'
          go_simp
          with_reducible rfl
         rotate_left
         ·simp only [Act.put, sqA, sqB, sqC, i64_w, i32_w]
          rfl
         refine take_ (i := 6) (N := some 18) (v := ?_) (a' := ?_) #[I,I,I,I,I,I,I,O,O,O,O,O,O,O,O,O,O,O,O,O,O,O,O,O,O,O,O,O,O,O,O,O,O,O,O,O,O,O,O,O,O,O] rfl rfl (take_ofW HT_.out HW_.out (by kernel_rfl)) (fun _ _ _ h => h) (Or.inl ⟨by rfl, ?_⟩) hHeld ?_ ?_
         rotate_left
         ·rintro w' ⟨s0, s1, s2, s3⟩
          go_simp
          with_reducible rfl
         rotate_left
         ·simp only [Act.put, sqA, sqB, sqC, i64_w, i32_w]
          rfl
         refine one_ (i := 7) (N := some 19) #[I,I,I,I,I,I,I,I,O,O,O,O,O,O,O,O,O,O,O,O,O,O,O,O,O,O,O,O,O,O,O,O,O,O,O,O,O,O,O,O,O,O] rfl rfl (one_of HT_.out (by kernel_rfl)) (by decide) (fun K hK => ?_)
         refine goes_ Tryz.func76 (by kernel_rfl) rfl #[.string ((rd_T43 l0 x7_1).f1)] (by rfl) rfl rfl (by (try simp only [List.map_toArray, List.map_cons, List.map_nil]); first | done | rfl | (simp only [List.length_drop, List.length_take]; rfl)) ?_
         with_reducible refine (ops_Key.calls ((rd_T43 l0 x7_1).f1) true _ A7.out).mono ?_
         rintro e w' ⟨rfl, ⟨nd, rfl⟩⟩
         refine ⟨_, rfl, ?_⟩
         refine hK.out _ _ ⟨(blk_cell BK131.out 0).trans rfl, (blk_cell BK131.out 1).trans rfl, (blk_cell BK131.out 2).trans rfl, (blk_cell BK131.out 3).trans rfl⟩ (fun hHeld => ?_)
         clear hK K
         refine norm_ (a' := ?_) ?_ ?_
         rotate_left
         ·show Act.put _ (some 19) _ = _
          simp only [Act.put, sqA, sqB, sqC, i64_w, i32_w]
          rfl
         refine sqP (i := 8) (N := some 20) (v := ?_) (a' := ?_) #[I,I,I,I,I,I,I,I,I,O,O,O,O,O,O,O,O,O,O,O,O,O,O,O,O,O,O,O,O,O,O,O,O,O,O,O,O,O,O,O,O,O] rfl rfl HT_.out (Or.inl ⟨by rfl, ?_⟩) ?_ ?_
         rotate_left
         ·intro w'
          go_simp
          with_reducible rfl
         rotate_left
         ·simp only [Act.put, sqA, sqB, sqC, i64_w, i32_w]
          rfl
         refine sqP (i := 9) (N := some 21) (v := ?_) (a' := ?_) #[I,I,I,I,I,I,I,I,I,I,O,O,O,O,O,O,O,O,O,O,O,O,O,O,O,O,O,O,O,O,O,O,O,O,O,O,O,O,O,O,O,O] rfl rfl HT_.out (Or.inl ⟨by rfl, ?_⟩) ?_ ?_
         rotate_left
         ·intro w'
          go_simp
          with_reducible rfl
         rotate_left
         ·simp only [Act.put, sqA, sqB, sqC, i64_w, i32_w]
          rfl
         refine sqP (i := 10) (N := some 22) (v := ?_) (a' := ?_) #[I,I,I,I,I,I,I,I,I,I,I,O,O,O,O,O,O,O,O,O,O,O,O,O,O,O,O,O,O,O,O,O,O,O,O,O,O,O,O,O,O,O] rfl rfl HT_.out (Or.inl ⟨by rfl, ?_⟩) ?_ ?_
         rotate_left
         ·intro w'
          go_simp
          with_reducible rfl
         rotate_left
         ·simp only [Act.put, sqA, sqB, sqC, i64_w, i32_w]
          rfl
         refine sqP (i := 11) (N := some 23) (v := ?_) (a' := ?_) #[I,I,I,I,I,I,I,I,I,I,I,I,O,O,O,O,O,O,O,O,O,O,O,O,O,O,O,O,O,O,O,O,O,O,O,O,O,O,O,O,O,O] rfl rfl HT_.out (Or.inl ⟨by rfl, ?_⟩) ?_ ?_
         rotate_left
         ·intro w'
          go_simp
          with_reducible rfl
         rotate_left
         ·simp only [Act.put, sqA, sqB, sqC, i64_w, i32_w]
          rfl
         refine sqP (i := 12) (N := some 24) (v := ?_) (a' := ?_) #[I,I,I,I,I,I,I,I,I,I,I,I,I,O,O,O,O,O,O,O,O,O,O,O,O,O,O,O,O,O,O,O,O,O,O,O,O,O,O,O,O,O] rfl rfl HT_.out (Or.inl ⟨by rfl, ?_⟩) ?_ ?_
         rotate_left
         ·intro w'
          go_simp
          with_reducible rfl
         rotate_left
         ·simp only [Act.put, sqA, sqB, sqC, i64_w, i32_w]
          rfl
         refine take_ (i := 13) (N := some 25) (v := ?_) (a' := ?_) #[I,I,I,I,I,I,I,I,I,I,I,I,I,I,O,O,O,O,O,O,O,O,O,O,O,O,O,O,O,O,O,O,O,O,O,O,O,O,O,O,O,O] rfl rfl (take_ofW HT_.out HW_.out (by kernel_rfl)) (fun _ _ _ h => h) (Or.inl ⟨by rfl, ?_⟩) hHeld ?_ ?_
         rotate_left
         ·rintro w' ⟨s0, s1, s2, s3⟩
          go_simp
          with_reducible rfl
         rotate_left
         ·simp only [Act.put, sqA, sqB, sqC, i64_w, i32_w]
          rfl
         refine sqP (i := 14) (N := some 26) (v := ?_) (a' := ?_) #[I,I,I,I,I,I,I,I,I,I,I,I,I,I,I,O,O,O,O,O,O,O,O,O,O,O,O,O,O,O,O,O,O,O,O,O,O,O,O,O,O,O] rfl rfl HT_.out (Or.inl ⟨by rfl, ?_⟩) ?_ ?_
         rotate_left
         ·intro w'
          go_simp
          with_reducible rfl
         rotate_left
         ·simp only [Act.put, sqA, sqB, sqC, i64_w, i32_w]
          rfl
         refine sqP (i := 15) (N := some 27) (v := ?_) (a' := ?_) #[I,I,I,I,I,I,I,I,I,I,I,I,I,I,I,I,O,O,O,O,O,O,O,O,O,O,O,O,O,O,O,O,O,O,O,O,O,O,O,O,O,O] rfl rfl HT_.out (Or.inl ⟨by rfl, ?_⟩) ?_ ?_
         rotate_left
         ·intro w'
          go_simp
          with_reducible rfl
         rotate_left
         ·simp only [Act.put, sqA, sqB, sqC, i64_w, i32_w]
          rfl
         refine sqP (i := 16) (N := some 28) (v := ?_) (a' := ?_) #[I,I,I,I,I,I,I,I,I,I,I,I,I,I,I,I,I,O,O,O,O,O,O,O,O,O,O,O,O,O,O,O,O,O,O,O,O,O,O,O,O,O] rfl rfl HT_.out (Or.inl ⟨by rfl, ?_⟩) ?_ ?_
         rotate_left
         ·intro w'
          go_simp
          with_reducible rfl
         rotate_left
         ·simp only [Act.put, sqA, sqB, sqC, i64_w, i32_w]
          rfl
         refine sqP (i := 17) (N := some 29) (v := undef) (a' := ?_) #[I,I,I,I,I,I,I,I,I,I,I,I,I,I,I,I,I,I,O,O,O,O,O,O,O,O,O,O,O,O,O,O,O,O,O,O,O,O,O,O,O,O] rfl rfl HT_.out (Or.inr ⟨by rfl, rfl⟩) ?_ ?_
         rotate_left
         ·simp only [Act.put, sqA, sqB, sqC, i64_w, i32_w]
          rfl
         refine sqP (i := 18) (N := some 30) (v := undef) (a' := ?_) #[I,I,I,I,I,I,I,I,I,I,I,I,I,I,I,I,I,I,I,O,O,O,O,O,O,O,O,O,O,O,O,O,O,O,O,O,O,O,O,O,O,O] rfl rfl HT_.out (Or.inr ⟨by rfl, rfl⟩) ?_ ?_
         rotate_left
         ·simp only [Act.put, sqA, sqB, sqC, i64_w, i32_w]
          rfl
         refine sqP (i := 19) (N := some 31) (v := undef) (a' := ?_) #[I,I,I,I,I,I,I,I,I,I,I,I,I,I,I,I,I,I,I,I,O,O,O,O,O,O,O,O,O,O,O,O,O,O,O,O,O,O,O,O,O,O] rfl rfl HT_.out (Or.inr ⟨by rfl, rfl⟩) ?_ ?_
         rotate_left
         ·simp only [Act.put, sqA, sqB, sqC, i64_w, i32_w]
          rfl
         refine sqP (i := 20) (N := some 32) (v := undef) (a' := ?_) #[I,I,I,I,I,I,I,I,I,I,I,I,I,I,I,I,I,I,I,I,I,O,O,O,O,O,O,O,O,O,O,O,O,O,O,O,O,O,O,O,O,O] rfl rfl HT_.out (Or.inr ⟨by rfl, rfl⟩) ?_ ?_
         rotate_left
         ·simp only [Act.put, sqA, sqB, sqC, i64_w, i32_w]
          rfl
         refine sqP (i := 21) (N := some 33) (v := ?_) (a' := ?_) #[I,I,I,I,I,I,I,I,I,I,I,I,I,I,I,I,I,I,I,I,I,I,O,O,O,O,O,O,O,O,O,O,O,O,O,O,O,O,O,O,O,O] rfl rfl HT_.out (Or.inl ⟨by rfl, ?_⟩) ?_ ?_
         rotate_left
         ·intro w'
          go_simp
          with_reducible rfl
         rotate_left
         ·simp only [Act.put, sqA, sqB, sqC, i64_w, i32_w]
          rfl
         refine sqP (i := 22) (N := some 34) (v := ?_) (a' := ?_) #[I,I,I,I,I,I,I,I,I,I,I,I,I,I,I,I,I,I,I,I,I,I,I,O,O,O,O,O,O,O,O,O,O,O,O,O,O,O,O,O,O,O] rfl rfl HT_.out (Or.inl ⟨by rfl, ?_⟩) ?_ ?_
         rotate_left
         ·intro w'
          go_simp
          with_reducible rfl
         rotate_left
         ·simp only [Act.put, sqA, sqB, sqC, i64_w, i32_w]
          rfl
         refine sqP (i := 23) (N := some 35) (v := undef) (a' := ?_) #[I,I,I,I,I,I,I,I,I,I,I,I,I,I,I,I,I,I,I,I,I,I,I,I,O,O,O,O,O,O,O,O,O,O,O,O,O,O,O,O,O,O] rfl rfl HT_.out (Or.inr ⟨by rfl, rfl⟩) ?_ ?_
         rotate_left
         ·simp only [Act.put, sqA, sqB, sqC, i64_w, i32_w]
          rfl
         refine sqP (i := 24) (N := some 36) (v := undef) (a' := ?_) #[I,I,I,I,I,I,I,I,I,I,I,I,I,I,I,I,I,I,I,I,I,I,I,I,I,O,O,O,O,O,O,O,O,O,O,O,O,O,O,O,O,O] rfl rfl HT_.out (Or.inr ⟨by rfl, rfl⟩) ?_ ?_
         rotate_left
         ·simp only [Act.put, sqA, sqB, sqC, i64_w, i32_w]
          rfl
         refine sqP (i := 25) (N := some 37) (v := undef) (a' := ?_) #[I,I,I,I,I,I,I,I,I,I,I,I,I,I,I,I,I,I,I,I,I,I,I,I,I,I,O,O,O,O,O,O,O,O,O,O,O,O,O,O,O,O] rfl rfl HT_.out (Or.inr ⟨by rfl, rfl⟩) ?_ ?_
         rotate_left
         ·simp only [Act.put, sqA, sqB, sqC, i64_w, i32_w]
          rfl
         refine sqP (i := 26) (N := some 38) (v := undef) (a' := ?_) #[I,I,I,I,I,I,I,I,I,I,I,I,I,I,I,I,I,I,I,I,I,I,I,I,I,I,I,O,O,O,O,O,O,O,O,O,O,O,O,O,O,O] rfl rfl HT_.out (Or.inr ⟨by rfl, rfl⟩) ?_ ?_
         rotate_left
         ·simp only [Act.put, sqA, sqB, sqC, i64_w, i32_w]
          rfl
         refine sqP (i := 27) (N := some 39) (v := ?_) (a' := ?_) #[I,I,I,I,I,I,I,I,I,I,I,I,I,I,I,I,I,I,I,I,I,I,I,I,I,I,I,I,O,O,O,O,O,O,O,O,O,O,O,O,O,O] rfl rfl HT_.out (Or.inl ⟨by rfl, ?_⟩) ?_ ?_
         rotate_left
         ·intro w'
          go_simp
          with_reducible rfl
         rotate_left
         ·simp only [Act.put, sqA, sqB, sqC, i64_w, i32_w]
          rfl
         refine sqP (i := 28) (N := some 40) (v := ?_) (a' := ?_) #[I,I,I,I,I,I,I,I,I,I,I,I,I,I,I,I,I,I,I,I,I,I,I,I,I,I,I,I,I,O,O,O,O,O,O,O,O,O,O,O,O,O] rfl rfl HT_.out (Or.inl ⟨by rfl, ?_⟩) ?_ ?_
         rotate_left
         ·intro w'
          go_simp
          with_reducible rfl
         rotate_left
         ·simp only [Act.put, sqA, sqB, sqC, i64_w, i32_w]
          rfl
         refine sqP (i := 29) (N := some 41) (v := undef) (a' := ?_) #[I,I,I,I,I,I,I,I,I,I,I,I,I,I,I,I,I,I,I,I,I,I,I,I,I,I,I,I,I,I,O,O,O,O,O,O,O,O,O,O,O,O] rfl rfl HT_.out (Or.inr ⟨by rfl, rfl⟩) ?_ ?_
         rotate_left
         ·simp only [Act.put, sqA, sqB, sqC, i64_w, i32_w]
          rfl
         refine sqP (i := 30) (N := some 42) (v := undef) (a' := ?_) #[I,I,I,I,I,I,I,I,I,I,I,I,I,I,I,I,I,I,I,I,I,I,I,I,I,I,I,I,I,I,I,O,O,O,O,O,O,O,O,O,O,O] rfl rfl HT_.out (Or.inr ⟨by rfl, rfl⟩) ?_ ?_
         rotate_left
         ·simp only [Act.put, sqA, sqB, sqC, i64_w, i32_w]
          rfl
         refine sqP (i := 31) (N := some 43) (v := undef) (a' := ?_) #[I,I,I,I,I,I,I,I,I,I,I,I,I,I,I,I,I,I,I,I,I,I,I,I,I,I,I,I,I,I,I,I,O,O,O,O,O,O,O,O,O,O] rfl rfl HT_.out (Or.inr ⟨by rfl, rfl⟩) ?_ ?_
         rotate_left
         ·simp only [Act.put, sqA, sqB, sqC, i64_w, i32_w]
          rfl
         refine sqP (i := 32) (N := some 44) (v := undef) (a' := ?_) #[I,I,I,I,I,I,I,I,I,I,I,I,I,I,I,I,I,I,I,I,I,I,I,I,I,I,I,I,I,I,I,I,I,O,O,O,O,O,O,O,O,O] rfl rfl HT_.out (Or.inr ⟨by rfl, rfl⟩) ?_ ?_
         rotate_left
         ·simp only [Act.put, sqA, sqB, sqC, i64_w, i32_w]
          rfl
         refine sqP (i := 33) (N := some 45) (v := undef) (a' := ?_) #[I,I,I,I,I,I,I,I,I,I,I,I,I,I,I,I,I,I,I,I,I,I,I,I,I,I,I,I,I,I,I,I,I,I,O,O,O,O,O,O,O,O] rfl rfl HT_.out (Or.inr ⟨by rfl, rfl⟩) ?_ ?_
         rotate_left
         ·simp only [Act.put, sqA, sqB, sqC, i64_w, i32_w]
          rfl
         refine sqP (i := 34) (N := some 46) (v := undef) (a' := ?_) #[I,I,I,I,I,I,I,I,I,I,I,I,I,I,I,I,I,I,I,I,I,I,I,I,I,I,I,I,I,I,I,I,I,I,I,O,O,O,O,O,O,O] rfl rfl HT_.out (Or.inr ⟨by rfl, rfl⟩) ?_ ?_
         rotate_left
         ·simp only [Act.put, sqA, sqB, sqC, i64_w, i32_w]
          rfl
         refine sqP (i := 35) (N := some 47) (v := undef) (a' := ?_) #[I,I,I,I,I,I,I,I,I,I,I,I,I,I,I,I,I,I,I,I,I,I,I,I,I,I,I,I,I,I,I,I,I,I,I,I,O,O,O,O,O,O] rfl rfl HT_.out (Or.inr ⟨by rfl, rfl⟩) ?_ ?_
         rotate_left
         ·simp only [Act.put, sqA, sqB, sqC, i64_w, i32_w]
          rfl
         refine sqP (i := 36) (N := some 48) (v := undef) (a' := ?_) #[I,I,I,I,I,I,I,I,I,I,I,I,I,I,I,I,I,I,I,I,I,I,I,I,I,I,I,I,I,I,I,I,I,I,I,I,I,O,O,O,O,O] rfl rfl HT_.out (Or.inr ⟨by rfl, rfl⟩) ?_ ?_
         rotate_left
         ·simp only [Act.put, sqA, sqB, sqC, i64_w, i32_w]
          rfl
         refine sqP (i := 37) (N := some 49) (v := undef) (a' := ?_) #[I,I,I,I,I,I,I,I,I,I,I,I,I,I,I,I,I,I,I,I,I,I,I,I,I,I,I,I,I,I,I,I,I,I,I,I,I,I,O,O,O,O] rfl rfl HT_.out (Or.inr ⟨by rfl, rfl⟩) ?_ ?_
         rotate_left
         ·simp only [Act.put, sqA, sqB, sqC, i64_w, i32_w]
          rfl
         refine sqP (i := 38) (N := some 50) (v := undef) (a' := ?_) #[I,I,I,I,I,I,I,I,I,I,I,I,I,I,I,I,I,I,I,I,I,I,I,I,I,I,I,I,I,I,I,I,I,I,I,I,I,I,I,O,O,O] rfl rfl HT_.out (Or.inr ⟨by rfl, rfl⟩) ?_ ?_
         rotate_left
         ·simp only [Act.put, sqA, sqB, sqC, i64_w, i32_w]
          rfl
         refine sqP (i := 39) (N := some 51) (v := undef) (a' := ?_) #[I,I,I,I,I,I,I,I,I,I,I,I,I,I,I,I,I,I,I,I,I,I,I,I,I,I,I,I,I,I,I,I,I,I,I,I,I,I,I,I,O,O] rfl rfl HT_.out (Or.inr ⟨by rfl, rfl⟩) ?_ ?_
         rotate_left
         ·simp only [Act.put, sqA, sqB, sqC, i64_w, i32_w]
          rfl
         refine sqP (i := 40) (N := some 52) (v := undef) (a' := ?_) #[I,I,I,I,I,I,I,I,I,I,I,I,I,I,I,I,I,I,I,I,I,I,I,I,I,I,I,I,I,I,I,I,I,I,I,I,I,I,I,I,I,O] rfl rfl HT_.out (Or.inr ⟨by rfl, rfl⟩) ?_ ?_
         rotate_left
         ·simp only [Act.put, sqA, sqB, sqC, i64_w, i32_w]
          rfl
         refine sqP (i := 41) (N := some 53) (v := ?_) (a' := ?_) #[I,I,I,I,I,I,I,I,I,I,I,I,I,I,I,I,I,I,I,I,I,I,I,I,I,I,I,I,I,I,I,I,I,I,I,I,I,I,I,I,I,I] rfl rfl HT_.out (Or.inl ⟨by rfl, ?_⟩) ?_ ?_
         rotate_left
         ·intro w'
          go_simp
          with_reducible rfl
         rotate_left
         ·simp only [Act.put, sqA, sqB, sqC, i64_w, i32_w]
          rfl
         refine done_ (done_of HT_.out (by kernel_rfl)) ?_
         try go_wp2
         go_ret
         exact ⟨by first | rfl | (simp [errW_none, errW_some] <;> rfl) | (simp [*, errW_none, errW_some] <;> rfl), by repeat (first | (with_reducible first | exact HB.out | apply below_alloc | apply pw_below_drewN | apply below_drew1 | refine below_set ?_ GE131.out) | exact HB.out)⟩
        ·rw [if_neg c9] at H
         have c9b0 : decide (((rd_T43 l0 x7_1).f2.f0) < 0) = false := decide_eq_false c9
         clear c9
         by_cases c14 : ((rd_T43 l0 x7_1).f2.f0) ≥ 8
         ·rw [if_pos c14] at H
          have c14b0 : decide (8 ≤ ((rd_T43 l0 x7_1).f2.f0)) = true := decide_eq_true c14
          clear c14
          obtain rfl := Option.some.inj H
          have p130 : 0 ≤ (x7_1 : Int) := of_decide_eq_true (by first | (with_reducible assumption) | assumption)
          have q130 : x7_1 < (l0.length : Int) := of_decide_eq_true (by first | (with_reducible assumption) | assumption)
          obtain ⟨ad130, e130, hx130_0, hx130_1, hx130_2, hx130_3⟩ := at_T43 HR0.out x7_1 p130 q130
          cases e130
          replace hx130_0 := (HB.out.cell (World.block_lt_of_cell? w _ hx130_0)).trans hx130_0
          replace hx130_1 := (HB.out.cell (World.block_lt_of_cell? w _ hx130_1)).trans hx130_1
          replace hx130_2 := (HB.out.cell (World.block_lt_of_cell? w _ hx130_2)).trans hx130_2
          replace hx130_3 := (HB.out.cell (World.block_lt_of_cell? w _ hx130_3)).trans hx130_3
          replace p130 := eq_true p130
          replace q130 := eq_true q130
          try go_wp2_with (first | ((with_reducible refine gate_dst (N := 4) rfl ?_); refine box_event ?hg (N := 4) ?hd (cs := #[.string (⟨#[]⟩ : ByteArray), .string (⟨#[]⟩ : ByteArray), .int .i64 0, .int .i64 0]) (t := 43) ?hr ?_; (case hd => rfl); (case hg => rfl); (case hr => first | (go_simp; done) | (go_simp; rfl)); intro gb131 hg w15 hbox hb; have n0_ := Aside0.mk (below_step (by repeat (first | (with_reducible first | exact HB.out | apply below_alloc | apply pw_below_drewN | apply below_drew1) | exact HB.out)) hb); have n1_ := Aside0.mk (hbox); have n2_ := Aside0.mk ((by rw [hg]; exact (below_size (by repeat (first | (with_reducible first | exact HB.out | apply below_alloc | apply pw_below_drewN | apply below_drew1) | exact HB.out))) : w.heap.size ≤ gb131)); have n3_ := Aside0.mk ((by rw [hg]; exact (below_size (by repeat (first | (with_reducible first | exact HB.out | apply below_alloc | apply pw_below_drewN | apply below_drew1) | exact HB.out))) : w.heap.size ≤ gb131)); clear HB; have HB := n0_; have BK131 := n1_; have GW131 := n2_; have GE131 := n3_; clear n0_ n1_ n2_ n3_; clear hb hbox hg; have hcz16_0 : w15.cell? ⟨gb131, 0, none⟩ = some (.string (⟨#[]⟩ : ByteArray)) := (blk_cell BK131.out 0).trans rfl; have hcz16_1 : w15.cell? ⟨gb131, 1, none⟩ = some (.string (⟨#[]⟩ : ByteArray)) := (blk_cell BK131.out 1).trans rfl; have hcz16_2 : w15.cell? ⟨gb131, 2, none⟩ = some (.int .i64 0) := (blk_cell BK131.out 2).trans rfl; have hcz16_3 : w15.cell? ⟨gb131, 3, none⟩ = some (.int .i64 0) := (blk_cell BK131.out 3).trans rfl; have hfz16_0 := blk_frozen BK131.out 0; have hfz16_1 := blk_frozen BK131.out 1; have hfz16_2 := blk_frozen BK131.out 2; have hfz16_3 := blk_frozen BK131.out 3))
          have n0_ : Aside0 (((((w15.setCell ⟨gb131, 0, none⟩ (.string ((rd_T43 l0 x7_1).f0))).setCell ⟨gb131, 1, none⟩ (.string ((rd_T43 l0 x7_1).f1))).setCell ⟨gb131, 2, none⟩ (.int .i64 ((rd_T43 l0 x7_1).f2.f0))).setCell ⟨gb131, 3, none⟩ (.int .i64 ((rd_T43 l0 x7_1).f2.f1))).heap[gb131]? = some (.cells #[.string ((rd_T43 l0 x7_1).f0), .string ((rd_T43 l0 x7_1).f1), .int .i64 ((rd_T43 l0 x7_1).f2.f0), .int .i64 ((rd_T43 l0 x7_1).f2.f1)] 43 (0, 0))) := ⟨by (with_reducible repeat (first | apply blN | apply blD | apply blA)); refine blk_put (cs := #[.string ((rd_T43 l0 x7_1).f0), .string ((rd_T43 l0 x7_1).f1), .int .i64 ((rd_T43 l0 x7_1).f2.f0), .int .i64 0]) ?_ 3 _ rfl; (with_reducible repeat (first | apply blN | apply blD | apply blA)); refine blk_put (cs := #[.string ((rd_T43 l0 x7_1).f0), .string ((rd_T43 l0 x7_1).f1), .int .i64 0, .int .i64 0]) ?_ 2 _ rfl; (with_reducible repeat (first | apply blN | apply blD | apply blA)); refine blk_put (cs := #[.string ((rd_T43 l0 x7_1).f0), .string (⟨#[]⟩ : ByteArray), .int .i64 0, .int .i64 0]) ?_ 1 _ rfl; (with_reducible repeat (first | apply blN | apply blD | apply blA)); refine blk_put (cs := #[.string (⟨#[]⟩ : ByteArray), .string (⟨#[]⟩ : ByteArray), .int .i64 0, .int .i64 0]) ?_ 0 _ rfl; (with_reducible repeat (first | apply blN | apply blD | apply blA)); exact BK131.out⟩
          have n1_ : Aside0 (Below w.heap.size w ((((w15.setCell ⟨gb131, 0, none⟩ (.string ((rd_T43 l0 x7_1).f0))).setCell ⟨gb131, 1, none⟩ (.string ((rd_T43 l0 x7_1).f1))).setCell ⟨gb131, 2, none⟩ (.int .i64 ((rd_T43 l0 x7_1).f2.f0))).setCell ⟨gb131, 3, none⟩ (.int .i64 ((rd_T43 l0 x7_1).f2.f1)))) := ⟨by repeat (first | (with_reducible first | exact HB.out | apply below_alloc | apply pw_below_drewN | apply below_drew1 | refine below_set ?_ GE131.out) | exact HB.out)⟩
          (try clear BK131)
          (try clear HB)
          generalize ((((w15.setCell ⟨gb131, 0, none⟩ (.string ((rd_T43 l0 x7_1).f0))).setCell ⟨gb131, 1, none⟩ (.string ((rd_T43 l0 x7_1).f1))).setCell ⟨gb131, 2, none⟩ (.int .i64 ((rd_T43 l0 x7_1).f2.f0))).setCell ⟨gb131, 3, none⟩ (.int .i64 ((rd_T43 l0 x7_1).f2.f1))) = w17 at n0_ n1_ ⊢
          have BK131 := n0_
          have HB := n1_
          clear n0_ n1_
          have n0_ := Aside0.mk (blk_drew BK131.out)
          have n1_ := Aside0.mk (below_drew1 HB.out)
          clear BK131
          clear HB
          have BK131 := n0_
          have HB := n1_
          clear n0_ n1_
          refine start_ (n := 42) (S := fun w' => w'.cell? ⟨gb131, 0, none⟩ = some (.string ((rd_T43 l0 x7_1).f0)) ∧ w'.cell? ⟨gb131, 1, none⟩ = some (.string ((rd_T43 l0 x7_1).f1)) ∧ w'.cell? ⟨gb131, 2, none⟩ = some (.int .i64 ((rd_T43 l0 x7_1).f2.f0)) ∧ w'.cell? ⟨gb131, 3, none⟩ = some (.int .i64 ((rd_T43 l0 x7_1).f2.f1))) (ds := []) #[O,O,O,O,O,O,O,O,O,O,O,O,O,O,O,O,O,O,O,O,O,O,O,O,O,O,O,O,O,O,O,O,O,O,O,O,O,O,O,O,O,O] (by kernel_rfl) rfl rfl ⟨(blk_cell BK131.out 0).trans rfl, (blk_cell BK131.out 1).trans rfl, (blk_cell BK131.out 2).trans rfl, (blk_cell BK131.out 3).trans rfl⟩ (fun hHeld => ?_); refine with_tabW pair_May.tab4 pair_May.bits4 (fun HT_ HW_ => ?_)
          generalize w17.drew = w18 at BK131 HB hHeld ⊢
          refine sqP (i := 0) (N := some 12) (v := ?_) (a' := ?_) #[I,O,O,O,O,O,O,O,O,O,O,O,O,O,O,O,O,O,O,O,O,O,O,O,O,O,O,O,O,O,O,O,O,O,O,O,O,O,O,O,O,O] rfl rfl HT_.out (Or.inl ⟨by rfl, ?_⟩) ?_ ?_
          rotate_left
          ·intro w'
           go_simp
           with_reducible rfl
          rotate_left
          ·simp only [Act.put, sqA, sqB, sqC, i64_w, i32_w]
           rfl
          refine take_ (i := 1) (N := some 13) (v := ?_) (a' := ?_) #[I,I,O,O,O,O,O,O,O,O,O,O,O,O,O,O,O,O,O,O,O,O,O,O,O,O,O,O,O,O,O,O,O,O,O,O,O,O,O,O,O,O] rfl rfl (take_ofW HT_.out HW_.out (by kernel_rfl)) (fun _ _ _ h => h) (Or.inl ⟨by rfl, ?_⟩) hHeld ?_ ?_
          rotate_left
          ·rintro w' ⟨s0, s1, s2, s3⟩
           go_simp
           with_reducible rfl
          rotate_left
          ·simp only [Act.put, sqA, sqB, sqC, i64_w, i32_w]
           rfl
          refine one_ (i := 2) (N := some 14) #[I,I,I,O,O,O,O,O,O,O,O,O,O,O,O,O,O,O,O,O,O,O,O,O,O,O,O,O,O,O,O,O,O,O,O,O,O,O,O,O,O,O] rfl rfl (one_of HT_.out (by kernel_rfl)) (by decide) (fun K hK => ?_)
          refine goes_ Tryz.func76 (by kernel_rfl) rfl #[.string ((rd_T43 l0 x7_1).f0)] (by rfl) rfl rfl (by (try simp only [List.map_toArray, List.map_cons, List.map_nil]); first | done | rfl | (simp only [List.length_drop, List.length_take]; rfl)) ?_
          with_reducible refine (ops_Key.calls ((rd_T43 l0 x7_1).f0) true _ A5.out).mono ?_
          rintro e w' ⟨rfl, ⟨nd, rfl⟩⟩
          refine ⟨_, rfl, ?_⟩
          refine hK.out _ _ ⟨(blk_cell BK131.out 0).trans rfl, (blk_cell BK131.out 1).trans rfl, (blk_cell BK131.out 2).trans rfl, (blk_cell BK131.out 3).trans rfl⟩ (fun hHeld => ?_)
          clear hK K
          refine norm_ (a' := ?_) ?_ ?_
          rotate_left
          ·show Act.put _ (some 14) _ = _
           simp only [Act.put, sqA, sqB, sqC, i64_w, i32_w]
           rfl
          refine sqP (i := 3) (N := some 15) (v := ?_) (a' := ?_) #[I,I,I,I,O,O,O,O,O,O,O,O,O,O,O,O,O,O,O,O,O,O,O,O,O,O,O,O,O,O,O,O,O,O,O,O,O,O,O,O,O,O] rfl rfl HT_.out (Or.inl ⟨by rfl, ?_⟩) ?_ ?_
          rotate_left
          ·intro w'
           go_simp
           with_reducible rfl
          rotate_left
          ·simp only [Act.put, sqA, sqB, sqC, i64_w, i32_w]
           rfl
          refine sqP (i := 4) (N := some 16) (v := ?_) (a' := ?_) #[I,I,I,I,I,O,O,O,O,O,O,O,O,O,O,O,O,O,O,O,O,O,O,O,O,O,O,O,O,O,O,O,O,O,O,O,O,O,O,O,O,O] rfl rfl HT_.out (Or.inl ⟨by rfl, ?_⟩) ?_ ?_
          rotate_left
          ·intro w'
           go_simp
           with_reducible rfl
          rotate_left
          ·simp only [Act.put, sqA, sqB, sqC, i64_w, i32_w]
           rfl
          refine sqP (i := 5) (N := some 17) (v := ?_) (a' := ?_) #[I,I,I,I,I,I,O,O,O,O,O,O,O,O,O,O,O,O,O,O,O,O,O,O,O,O,O,O,O,O,O,O,O,O,O,O,O,O,O,O,O,O] rfl rfl HT_.out (Or.inl ⟨by rfl, ?_⟩) ?_ ?_
          rotate_left
          ·intro w'
           go_simp
           with_reducible rfl
          rotate_left
          ·simp only [Act.put, sqA, sqB, sqC, i64_w, i32_w]
           rfl
          refine take_ (i := 6) (N := some 18) (v := ?_) (a' := ?_) #[I,I,I,I,I,I,I,O,O,O,O,O,O,O,O,O,O,O,O,O,O,O,O,O,O,O,O,O,O,O,O,O,O,O,O,O,O,O,O,O,O,O] rfl rfl (take_ofW HT_.out HW_.out (by kernel_rfl)) (fun _ _ _ h => h) (Or.inl ⟨by rfl, ?_⟩) hHeld ?_ ?_
          rotate_left
          ·rintro w' ⟨s0, s1, s2, s3⟩
           go_simp
           with_reducible rfl
          rotate_left
          ·simp only [Act.put, sqA, sqB, sqC, i64_w, i32_w]
           rfl
          refine one_ (i := 7) (N := some 19) #[I,I,I,I,I,I,I,I,O,O,O,O,O,O,O,O,O,O,O,O,O,O,O,O,O,O,O,O,O,O,O,O,O,O,O,O,O,O,O,O,O,O] rfl rfl (one_of HT_.out (by kernel_rfl)) (by decide) (fun K hK => ?_)
          refine goes_ Tryz.func76 (by kernel_rfl) rfl #[.string ((rd_T43 l0 x7_1).f1)] (by rfl) rfl rfl (by (try simp only [List.map_toArray, List.map_cons, List.map_nil]); first | done | rfl | (simp only [List.length_drop, List.length_take]; rfl)) ?_
          with_reducible refine (ops_Key.calls ((rd_T43 l0 x7_1).f1) true _ A7.out).mono ?_
          rintro e w' ⟨rfl, ⟨nd, rfl⟩⟩
          refine ⟨_, rfl, ?_⟩
          refine hK.out _ _ ⟨(blk_cell BK131.out 0).trans rfl, (blk_cell BK131.out 1).trans rfl, (blk_cell BK131.out 2).trans rfl, (blk_cell BK131.out 3).trans rfl⟩ (fun hHeld => ?_)
          clear hK K
          refine norm_ (a' := ?_) ?_ ?_
          rotate_left
          ·show Act.put _ (some 19) _ = _
           simp only [Act.put, sqA, sqB, sqC, i64_w, i32_w]
           rfl
          refine sqP (i := 8) (N := some 20) (v := ?_) (a' := ?_) #[I,I,I,I,I,I,I,I,I,O,O,O,O,O,O,O,O,O,O,O,O,O,O,O,O,O,O,O,O,O,O,O,O,O,O,O,O,O,O,O,O,O] rfl rfl HT_.out (Or.inl ⟨by rfl, ?_⟩) ?_ ?_
          rotate_left
          ·intro w'
           go_simp
           with_reducible rfl
          rotate_left
          ·simp only [Act.put, sqA, sqB, sqC, i64_w, i32_w]
           rfl
          refine sqP (i := 9) (N := some 21) (v := ?_) (a' := ?_) #[I,I,I,I,I,I,I,I,I,I,O,O,O,O,O,O,O,O,O,O,O,O,O,O,O,O,O,O,O,O,O,O,O,O,O,O,O,O,O,O,O,O] rfl rfl HT_.out (Or.inl ⟨by rfl, ?_⟩) ?_ ?_
          rotate_left
          ·intro w'
           go_simp
           with_reducible rfl
          rotate_left
          ·simp only [Act.put, sqA, sqB, sqC, i64_w, i32_w]
           rfl
          refine sqP (i := 10) (N := some 22) (v := ?_) (a' := ?_) #[I,I,I,I,I,I,I,I,I,I,I,O,O,O,O,O,O,O,O,O,O,O,O,O,O,O,O,O,O,O,O,O,O,O,O,O,O,O,O,O,O,O] rfl rfl HT_.out (Or.inl ⟨by rfl, ?_⟩) ?_ ?_
          rotate_left
          ·intro w'
           go_simp
           with_reducible rfl
          rotate_left
          ·simp only [Act.put, sqA, sqB, sqC, i64_w, i32_w]
           rfl
          refine sqP (i := 11) (N := some 23) (v := ?_) (a' := ?_) #[I,I,I,I,I,I,I,I,I,I,I,I,O,O,O,O,O,O,O,O,O,O,O,O,O,O,O,O,O,O,O,O,O,O,O,O,O,O,O,O,O,O] rfl rfl HT_.out (Or.inl ⟨by rfl, ?_⟩) ?_ ?_
          rotate_left
          ·intro w'
           go_simp
           with_reducible rfl
          rotate_left
          ·simp only [Act.put, sqA, sqB, sqC, i64_w, i32_w]
           rfl
          refine sqP (i := 12) (N := some 24) (v := ?_) (a' := ?_) #[I,I,I,I,I,I,I,I,I,I,I,I,I,O,O,O,O,O,O,O,O,O,O,O,O,O,O,O,O,O,O,O,O,O,O,O,O,O,O,O,O,O] rfl rfl HT_.out (Or.inl ⟨by rfl, ?_⟩) ?_ ?_
          rotate_left
          ·intro w'
           go_simp
           with_reducible rfl
          rotate_left
          ·simp only [Act.put, sqA, sqB, sqC, i64_w, i32_w]
           rfl
          refine take_ (i := 13) (N := some 25) (v := ?_) (a' := ?_) #[I,I,I,I,I,I,I,I,I,I,I,I,I,I,O,O,O,O,O,O,O,O,O,O,O,O,O,O,O,O,O,O,O,O,O,O,O,O,O,O,O,O] rfl rfl (take_ofW HT_.out HW_.out (by kernel_rfl)) (fun _ _ _ h => h) (Or.inl ⟨by rfl, ?_⟩) hHeld ?_ ?_
          rotate_left
          ·rintro w' ⟨s0, s1, s2, s3⟩
           go_simp
           with_reducible rfl
          rotate_left
          ·simp only [Act.put, sqA, sqB, sqC, i64_w, i32_w]
           rfl
          refine sqP (i := 14) (N := some 26) (v := ?_) (a' := ?_) #[I,I,I,I,I,I,I,I,I,I,I,I,I,I,I,O,O,O,O,O,O,O,O,O,O,O,O,O,O,O,O,O,O,O,O,O,O,O,O,O,O,O] rfl rfl HT_.out (Or.inl ⟨by rfl, ?_⟩) ?_ ?_
          rotate_left
          ·intro w'
           go_simp
           with_reducible rfl
          rotate_left
          ·simp only [Act.put, sqA, sqB, sqC, i64_w, i32_w]
           rfl
          refine sqP (i := 15) (N := some 27) (v := ?_) (a' := ?_) #[I,I,I,I,I,I,I,I,I,I,I,I,I,I,I,I,O,O,O,O,O,O,O,O,O,O,O,O,O,O,O,O,O,O,O,O,O,O,O,O,O,O] rfl rfl HT_.out (Or.inl ⟨by rfl, ?_⟩) ?_ ?_
          rotate_left
          ·intro w'
           go_simp
           with_reducible rfl
          rotate_left
          ·simp only [Act.put, sqA, sqB, sqC, i64_w, i32_w]
           rfl
          refine sqP (i := 16) (N := some 28) (v := ?_) (a' := ?_) #[I,I,I,I,I,I,I,I,I,I,I,I,I,I,I,I,I,O,O,O,O,O,O,O,O,O,O,O,O,O,O,O,O,O,O,O,O,O,O,O,O,O] rfl rfl HT_.out (Or.inl ⟨by rfl, ?_⟩) ?_ ?_
          rotate_left
          ·intro w'
           go_simp
           with_reducible rfl
          rotate_left
          ·simp only [Act.put, sqA, sqB, sqC, i64_w, i32_w]
           rfl
          refine sqP (i := 17) (N := some 29) (v := ?_) (a' := ?_) #[I,I,I,I,I,I,I,I,I,I,I,I,I,I,I,I,I,I,O,O,O,O,O,O,O,O,O,O,O,O,O,O,O,O,O,O,O,O,O,O,O,O] rfl rfl HT_.out (Or.inl ⟨by rfl, ?_⟩) ?_ ?_
          rotate_left
          ·intro w'
           go_simp
           with_reducible rfl
          rotate_left
          ·simp only [Act.put, sqA, sqB, sqC, i64_w, i32_w]
           rfl
          refine sqP (i := 18) (N := some 30) (v := ?_) (a' := ?_) #[I,I,I,I,I,I,I,I,I,I,I,I,I,I,I,I,I,I,I,O,O,O,O,O,O,O,O,O,O,O,O,O,O,O,O,O,O,O,O,O,O,O] rfl rfl HT_.out (Or.inl ⟨by rfl, ?_⟩) ?_ ?_
          rotate_left
          ·intro w'
           go_simp
           with_reducible rfl
          rotate_left
          ·simp only [Act.put, sqA, sqB, sqC, i64_w, i32_w]
           rfl
          refine take_ (i := 19) (N := some 31) (v := ?_) (a' := ?_) #[I,I,I,I,I,I,I,I,I,I,I,I,I,I,I,I,I,I,I,I,O,O,O,O,O,O,O,O,O,O,O,O,O,O,O,O,O,O,O,O,O,O] rfl rfl (take_ofW HT_.out HW_.out (by kernel_rfl)) (fun _ _ _ h => h) (Or.inl ⟨by rfl, ?_⟩) hHeld ?_ ?_
          rotate_left
          ·rintro w' ⟨s0, s1, s2, s3⟩
           go_simp
           with_reducible rfl
          rotate_left
          ·simp only [Act.put, sqA, sqB, sqC, i64_w, i32_w]
           rfl
          refine sqP (i := 20) (N := some 32) (v := ?_) (a' := ?_) #[I,I,I,I,I,I,I,I,I,I,I,I,I,I,I,I,I,I,I,I,I,O,O,O,O,O,O,O,O,O,O,O,O,O,O,O,O,O,O,O,O,O] rfl rfl HT_.out (Or.inl ⟨by rfl, ?_⟩) ?_ ?_
          rotate_left
          ·intro w'
           go_simp
           with_reducible rfl
          rotate_left
          ·simp only [Act.put, sqA, sqB, sqC, i64_w, i32_w]
           rfl
          refine sqP (i := 21) (N := some 33) (v := ?_) (a' := ?_) #[I,I,I,I,I,I,I,I,I,I,I,I,I,I,I,I,I,I,I,I,I,I,O,O,O,O,O,O,O,O,O,O,O,O,O,O,O,O,O,O,O,O] rfl rfl HT_.out (Or.inl ⟨by rfl, ?_⟩) ?_ ?_
          rotate_left
          ·intro w'
           go_simp
           with_reducible rfl
          rotate_left
          ·simp only [Act.put, sqA, sqB, sqC, i64_w, i32_w]
           rfl
          refine sqP (i := 22) (N := some 34) (v := ?_) (a' := ?_) #[I,I,I,I,I,I,I,I,I,I,I,I,I,I,I,I,I,I,I,I,I,I,I,O,O,O,O,O,O,O,O,O,O,O,O,O,O,O,O,O,O,O] rfl rfl HT_.out (Or.inl ⟨by rfl, ?_⟩) ?_ ?_
          rotate_left
          ·intro w'
           go_simp
           with_reducible rfl
          rotate_left
          ·simp only [Act.put, sqA, sqB, sqC, i64_w, i32_w]
           rfl
          refine sqP (i := 23) (N := some 35) (v := undef) (a' := ?_) #[I,I,I,I,I,I,I,I,I,I,I,I,I,I,I,I,I,I,I,I,I,I,I,I,O,O,O,O,O,O,O,O,O,O,O,O,O,O,O,O,O,O] rfl rfl HT_.out (Or.inr ⟨by rfl, rfl⟩) ?_ ?_
          rotate_left
          ·simp only [Act.put, sqA, sqB, sqC, i64_w, i32_w]
           rfl
          refine sqP (i := 24) (N := some 36) (v := undef) (a' := ?_) #[I,I,I,I,I,I,I,I,I,I,I,I,I,I,I,I,I,I,I,I,I,I,I,I,I,O,O,O,O,O,O,O,O,O,O,O,O,O,O,O,O,O] rfl rfl HT_.out (Or.inr ⟨by rfl, rfl⟩) ?_ ?_
          rotate_left
          ·simp only [Act.put, sqA, sqB, sqC, i64_w, i32_w]
           rfl
          refine sqP (i := 25) (N := some 37) (v := undef) (a' := ?_) #[I,I,I,I,I,I,I,I,I,I,I,I,I,I,I,I,I,I,I,I,I,I,I,I,I,I,O,O,O,O,O,O,O,O,O,O,O,O,O,O,O,O] rfl rfl HT_.out (Or.inr ⟨by rfl, rfl⟩) ?_ ?_
          rotate_left
          ·simp only [Act.put, sqA, sqB, sqC, i64_w, i32_w]
           rfl
          refine sqP (i := 26) (N := some 38) (v := undef) (a' := ?_) #[I,I,I,I,I,I,I,I,I,I,I,I,I,I,I,I,I,I,I,I,I,I,I,I,I,I,I,O,O,O,O,O,O,O,O,O,O,O,O,O,O,O] rfl rfl HT_.out (Or.inr ⟨by rfl, rfl⟩) ?_ ?_
          rotate_left
          ·simp only [Act.put, sqA, sqB, sqC, i64_w, i32_w]
           rfl
          refine sqP (i := 27) (N := some 39) (v := ?_) (a' := ?_) #[I,I,I,I,I,I,I,I,I,I,I,I,I,I,I,I,I,I,I,I,I,I,I,I,I,I,I,I,O,O,O,O,O,O,O,O,O,O,O,O,O,O] rfl rfl HT_.out (Or.inl ⟨by rfl, ?_⟩) ?_ ?_
          rotate_left
          ·intro w'
           go_simp
           with_reducible rfl
          rotate_left
          ·simp only [Act.put, sqA, sqB, sqC, i64_w, i32_w]
           rfl
          refine sqP (i := 28) (N := some 40) (v := ?_) (a' := ?_) #[I,I,I,I,I,I,I,I,I,I,I,I,I,I,I,I,I,I,I,I,I,I,I,I,I,I,I,I,I,O,O,O,O,O,O,O,O,O,O,O,O,O] rfl rfl HT_.out (Or.inl ⟨by rfl, ?_⟩) ?_ ?_
          rotate_left
          ·intro w'
           go_simp
           with_reducible rfl
          rotate_left
          ·simp only [Act.put, sqA, sqB, sqC, i64_w, i32_w]
           rfl
          refine sqP (i := 29) (N := some 41) (v := undef) (a' := ?_) #[I,I,I,I,I,I,I,I,I,I,I,I,I,I,I,I,I,I,I,I,I,I,I,I,I,I,I,I,I,I,O,O,O,O,O,O,O,O,O,O,O,O] rfl rfl HT_.out (Or.inr ⟨by rfl, rfl⟩) ?_ ?_
          rotate_left
          ·simp only [Act.put, sqA, sqB, sqC, i64_w, i32_w]
           rfl
          refine sqP (i := 30) (N := some 42) (v := undef) (a' := ?_) #[I,I,I,I,I,I,I,I,I,I,I,I,I,I,I,I,I,I,I,I,I,I,I,I,I,I,I,I,I,I,I,O,O,O,O,O,O,O,O,O,O,O] rfl rfl HT_.out (Or.inr ⟨by rfl, rfl⟩) ?_ ?_
          rotate_left
          ·simp only [Act.put, sqA, sqB, sqC, i64_w, i32_w]
           rfl
          refine sqP (i := 31) (N := some 43) (v := undef) (a' := ?_) #[I,I,I,I,I,I,I,I,I,I,I,I,I,I,I,I,I,I,I,I,I,I,I,I,I,I,I,I,I,I,I,I,O,O,O,O,O,O,O,O,O,O] rfl rfl HT_.out (Or.inr ⟨by rfl, rfl⟩) ?_ ?_
          rotate_left
          ·simp only [Act.put, sqA, sqB, sqC, i64_w, i32_w]
           rfl
          refine sqP (i := 32) (N := some 44) (v := undef) (a' := ?_) #[I,I,I,I,I,I,I,I,I,I,I,I,I,I,I,I,I,I,I,I,I,I,I,I,I,I,I,I,I,I,I,I,I,O,O,O,O,O,O,O,O,O] rfl rfl HT_.out (Or.inr ⟨by rfl, rfl⟩) ?_ ?_
          rotate_left
          ·simp only [Act.put, sqA, sqB, sqC, i64_w, i32_w]
           rfl
          refine sqP (i := 33) (N := some 45) (v := undef) (a' := ?_) #[I,I,I,I,I,I,I,I,I,I,I,I,I,I,I,I,I,I,I,I,I,I,I,I,I,I,I,I,I,I,I,I,I,I,O,O,O,O,O,O,O,O] rfl rfl HT_.out (Or.inr ⟨by rfl, rfl⟩) ?_ ?_
          rotate_left
          ·simp only [Act.put, sqA, sqB, sqC, i64_w, i32_w]
           rfl
          refine sqP (i := 34) (N := some 46) (v := undef) (a' := ?_) #[I,I,I,I,I,I,I,I,I,I,I,I,I,I,I,I,I,I,I,I,I,I,I,I,I,I,I,I,I,I,I,I,I,I,I,O,O,O,O,O,O,O] rfl rfl HT_.out (Or.inr ⟨by rfl, rfl⟩) ?_ ?_
          rotate_left
          ·simp only [Act.put, sqA, sqB, sqC, i64_w, i32_w]
           rfl
          refine sqP (i := 35) (N := some 47) (v := undef) (a' := ?_) #[I,I,I,I,I,I,I,I,I,I,I,I,I,I,I,I,I,I,I,I,I,I,I,I,I,I,I,I,I,I,I,I,I,I,I,I,O,O,O,O,O,O] rfl rfl HT_.out (Or.inr ⟨by rfl, rfl⟩) ?_ ?_
          rotate_left
          ·simp only [Act.put, sqA, sqB, sqC, i64_w, i32_w]
           rfl
          refine sqP (i := 36) (N := some 48) (v := undef) (a' := ?_) #[I,I,I,I,I,I,I,I,I,I,I,I,I,I,I,I,I,I,I,I,I,I,I,I,I,I,I,I,I,I,I,I,I,I,I,I,I,O,O,O,O,O] rfl rfl HT_.out (Or.inr ⟨by rfl, rfl⟩) ?_ ?_
          rotate_left
          ·simp only [Act.put, sqA, sqB, sqC, i64_w, i32_w]
           rfl
          refine sqP (i := 37) (N := some 49) (v := undef) (a' := ?_) #[I,I,I,I,I,I,I,I,I,I,I,I,I,I,I,I,I,I,I,I,I,I,I,I,I,I,I,I,I,I,I,I,I,I,I,I,I,I,O,O,O,O] rfl rfl HT_.out (Or.inr ⟨by rfl, rfl⟩) ?_ ?_
          rotate_left
          ·simp only [Act.put, sqA, sqB, sqC, i64_w, i32_w]
           rfl
          refine sqP (i := 38) (N := some 50) (v := undef) (a' := ?_) #[I,I,I,I,I,I,I,I,I,I,I,I,I,I,I,I,I,I,I,I,I,I,I,I,I,I,I,I,I,I,I,I,I,I,I,I,I,I,I,O,O,O] rfl rfl HT_.out (Or.inr ⟨by rfl, rfl⟩) ?_ ?_
          rotate_left
          ·simp only [Act.put, sqA, sqB, sqC, i64_w, i32_w]
           rfl
          refine sqP (i := 39) (N := some 51) (v := undef) (a' := ?_) #[I,I,I,I,I,I,I,I,I,I,I,I,I,I,I,I,I,I,I,I,I,I,I,I,I,I,I,I,I,I,I,I,I,I,I,I,I,I,I,I,O,O] rfl rfl HT_.out (Or.inr ⟨by rfl, rfl⟩) ?_ ?_
          rotate_left
          ·simp only [Act.put, sqA, sqB, sqC, i64_w, i32_w]
           rfl
          refine sqP (i := 40) (N := some 52) (v := undef) (a' := ?_) #[I,I,I,I,I,I,I,I,I,I,I,I,I,I,I,I,I,I,I,I,I,I,I,I,I,I,I,I,I,I,I,I,I,I,I,I,I,I,I,I,I,O] rfl rfl HT_.out (Or.inr ⟨by rfl, rfl⟩) ?_ ?_
          rotate_left
          ·simp only [Act.put, sqA, sqB, sqC, i64_w, i32_w]
           rfl
          refine sqP (i := 41) (N := some 53) (v := ?_) (a' := ?_) #[I,I,I,I,I,I,I,I,I,I,I,I,I,I,I,I,I,I,I,I,I,I,I,I,I,I,I,I,I,I,I,I,I,I,I,I,I,I,I,I,I,I] rfl rfl HT_.out (Or.inl ⟨by rfl, ?_⟩) ?_ ?_
          rotate_left
          ·intro w'
           go_simp
           with_reducible rfl
          rotate_left
          ·simp only [Act.put, sqA, sqB, sqC, i64_w, i32_w]
           rfl
          refine done_ (done_of HT_.out (by kernel_rfl)) ?_
          try go_wp2
          go_ret
          exact ⟨by first | rfl | (simp [errW_none, errW_some] <;> rfl) | (simp [*, errW_none, errW_some] <;> rfl), by repeat (first | (with_reducible first | exact HB.out | apply below_alloc | apply pw_below_drewN | apply below_drew1 | refine below_set ?_ GE131.out) | exact HB.out)⟩
         ·rw [if_neg c14] at H
          have c14b0 : decide (8 ≤ ((rd_T43 l0 x7_1).f2.f0)) = false := decide_eq_false c14
          clear c14
          by_cases c19 : ((rd_T43 l0 x7_1).f2.f1) < 1
          ·rw [if_pos c19] at H
           have c19b0 : decide (((rd_T43 l0 x7_1).f2.f1) < 1) = true := decide_eq_true c19
           clear c19
           obtain rfl := Option.some.inj H
           have p130 : 0 ≤ (x7_1 : Int) := of_decide_eq_true (by first | (with_reducible assumption) | assumption)
           have q130 : x7_1 < (l0.length : Int) := of_decide_eq_true (by first | (with_reducible assumption) | assumption)
           obtain ⟨ad130, e130, hx130_0, hx130_1, hx130_2, hx130_3⟩ := at_T43 HR0.out x7_1 p130 q130
           cases e130
           replace hx130_0 := (HB.out.cell (World.block_lt_of_cell? w _ hx130_0)).trans hx130_0
           replace hx130_1 := (HB.out.cell (World.block_lt_of_cell? w _ hx130_1)).trans hx130_1
           replace hx130_2 := (HB.out.cell (World.block_lt_of_cell? w _ hx130_2)).trans hx130_2
           replace hx130_3 := (HB.out.cell (World.block_lt_of_cell? w _ hx130_3)).trans hx130_3
           replace p130 := eq_true p130
           replace q130 := eq_true q130
           try go_wp2_with (first | ((with_reducible refine gate_dst (N := 4) rfl ?_); refine box_event ?hg (N := 4) ?hd (cs := #[.string (⟨#[]⟩ : ByteArray), .string (⟨#[]⟩ : ByteArray), .int .i64 0, .int .i64 0]) (t := 43) ?hr ?_; (case hd => rfl); (case hg => rfl); (case hr => first | (go_simp; done) | (go_simp; rfl)); intro gb131 hg w20 hbox hb; have n0_ := Aside0.mk (below_step (by repeat (first | (with_reducible first | exact HB.out | apply below_alloc | apply pw_below_drewN | apply below_drew1) | exact HB.out)) hb); have n1_ := Aside0.mk (hbox); have n2_ := Aside0.mk ((by rw [hg]; exact (below_size (by repeat (first | (with_reducible first | exact HB.out | apply below_alloc | apply pw_below_drewN | apply below_drew1) | exact HB.out))) : w.heap.size ≤ gb131)); have n3_ := Aside0.mk ((by rw [hg]; exact (below_size (by repeat (first | (with_reducible first | exact HB.out | apply below_alloc | apply pw_below_drewN | apply below_drew1) | exact HB.out))) : w.heap.size ≤ gb131)); clear HB; have HB := n0_; have BK131 := n1_; have GW131 := n2_; have GE131 := n3_; clear n0_ n1_ n2_ n3_; clear hb hbox hg; have hcz21_0 : w20.cell? ⟨gb131, 0, none⟩ = some (.string (⟨#[]⟩ : ByteArray)) := (blk_cell BK131.out 0).trans rfl; have hcz21_1 : w20.cell? ⟨gb131, 1, none⟩ = some (.string (⟨#[]⟩ : ByteArray)) := (blk_cell BK131.out 1).trans rfl; have hcz21_2 : w20.cell? ⟨gb131, 2, none⟩ = some (.int .i64 0) := (blk_cell BK131.out 2).trans rfl; have hcz21_3 : w20.cell? ⟨gb131, 3, none⟩ = some (.int .i64 0) := (blk_cell BK131.out 3).trans rfl; have hfz21_0 := blk_frozen BK131.out 0; have hfz21_1 := blk_frozen BK131.out 1; have hfz21_2 := blk_frozen BK131.out 2; have hfz21_3 := blk_frozen BK131.out 3))
           have n0_ : Aside0 (((((w20.setCell ⟨gb131, 0, none⟩ (.string ((rd_T43 l0 x7_1).f0))).setCell ⟨gb131, 1, none⟩ (.string ((rd_T43 l0 x7_1).f1))).setCell ⟨gb131, 2, none⟩ (.int .i64 ((rd_T43 l0 x7_1).f2.f0))).setCell ⟨gb131, 3, none⟩ (.int .i64 ((rd_T43 l0 x7_1).f2.f1))).heap[gb131]? = some (.cells #[.string ((rd_T43 l0 x7_1).f0), .string ((rd_T43 l0 x7_1).f1), .int .i64 ((rd_T43 l0 x7_1).f2.f0), .int .i64 ((rd_T43 l0 x7_1).f2.f1)] 43 (0, 0))) := ⟨by (with_reducible repeat (first | apply blN | apply blD | apply blA)); refine blk_put (cs := #[.string ((rd_T43 l0 x7_1).f0), .string ((rd_T43 l0 x7_1).f1), .int .i64 ((rd_T43 l0 x7_1).f2.f0), .int .i64 0]) ?_ 3 _ rfl; (with_reducible repeat (first | apply blN | apply blD | apply blA)); refine blk_put (cs := #[.string ((rd_T43 l0 x7_1).f0), .string ((rd_T43 l0 x7_1).f1), .int .i64 0, .int .i64 0]) ?_ 2 _ rfl; (with_reducible repeat (first | apply blN | apply blD | apply blA)); refine blk_put (cs := #[.string ((rd_T43 l0 x7_1).f0), .string (⟨#[]⟩ : ByteArray), .int .i64 0, .int .i64 0]) ?_ 1 _ rfl; (with_reducible repeat (first | apply blN | apply blD | apply blA)); refine blk_put (cs := #[.string (⟨#[]⟩ : ByteArray), .string (⟨#[]⟩ : ByteArray), .int .i64 0, .int .i64 0]) ?_ 0 _ rfl; (with_reducible repeat (first | apply blN | apply blD | apply blA)); exact BK131.out⟩
           have n1_ : Aside0 (Below w.heap.size w ((((w20.setCell ⟨gb131, 0, none⟩ (.string ((rd_T43 l0 x7_1).f0))).setCell ⟨gb131, 1, none⟩ (.string ((rd_T43 l0 x7_1).f1))).setCell ⟨gb131, 2, none⟩ (.int .i64 ((rd_T43 l0 x7_1).f2.f0))).setCell ⟨gb131, 3, none⟩ (.int .i64 ((rd_T43 l0 x7_1).f2.f1)))) := ⟨by repeat (first | (with_reducible first | exact HB.out | apply below_alloc | apply pw_below_drewN | apply below_drew1 | refine below_set ?_ GE131.out) | exact HB.out)⟩
           (try clear BK131)
           (try clear HB)
           generalize ((((w20.setCell ⟨gb131, 0, none⟩ (.string ((rd_T43 l0 x7_1).f0))).setCell ⟨gb131, 1, none⟩ (.string ((rd_T43 l0 x7_1).f1))).setCell ⟨gb131, 2, none⟩ (.int .i64 ((rd_T43 l0 x7_1).f2.f0))).setCell ⟨gb131, 3, none⟩ (.int .i64 ((rd_T43 l0 x7_1).f2.f1))) = w22 at n0_ n1_ ⊢
           have BK131 := n0_
           have HB := n1_
           clear n0_ n1_
           have n0_ := Aside0.mk (blk_drew BK131.out)
           have n1_ := Aside0.mk (below_drew1 HB.out)
           clear BK131
           clear HB
           have BK131 := n0_
           have HB := n1_
           clear n0_ n1_
           refine start_ (n := 42) (S := fun w' => w'.cell? ⟨gb131, 0, none⟩ = some (.string ((rd_T43 l0 x7_1).f0)) ∧ w'.cell? ⟨gb131, 1, none⟩ = some (.string ((rd_T43 l0 x7_1).f1)) ∧ w'.cell? ⟨gb131, 2, none⟩ = some (.int .i64 ((rd_T43 l0 x7_1).f2.f0)) ∧ w'.cell? ⟨gb131, 3, none⟩ = some (.int .i64 ((rd_T43 l0 x7_1).f2.f1))) (ds := []) #[O,O,O,O,O,O,O,O,O,O,O,O,O,O,O,O,O,O,O,O,O,O,O,O,O,O,O,O,O,O,O,O,O,O,O,O,O,O,O,O,O,O] (by kernel_rfl) rfl rfl ⟨(blk_cell BK131.out 0).trans rfl, (blk_cell BK131.out 1).trans rfl, (blk_cell BK131.out 2).trans rfl, (blk_cell BK131.out 3).trans rfl⟩ (fun hHeld => ?_); refine with_tabW pair_May.tab4 pair_May.bits4 (fun HT_ HW_ => ?_)
           generalize w22.drew = w23 at BK131 HB hHeld ⊢
           refine sqP (i := 0) (N := some 12) (v := ?_) (a' := ?_) #[I,O,O,O,O,O,O,O,O,O,O,O,O,O,O,O,O,O,O,O,O,O,O,O,O,O,O,O,O,O,O,O,O,O,O,O,O,O,O,O,O,O] rfl rfl HT_.out (Or.inl ⟨by rfl, ?_⟩) ?_ ?_
           rotate_left
           ·intro w'
            go_simp
            with_reducible rfl
           rotate_left
           ·simp only [Act.put, sqA, sqB, sqC, i64_w, i32_w]
            rfl
           refine take_ (i := 1) (N := some 13) (v := ?_) (a' := ?_) #[I,I,O,O,O,O,O,O,O,O,O,O,O,O,O,O,O,O,O,O,O,O,O,O,O,O,O,O,O,O,O,O,O,O,O,O,O,O,O,O,O,O] rfl rfl (take_ofW HT_.out HW_.out (by kernel_rfl)) (fun _ _ _ h => h) (Or.inl ⟨by rfl, ?_⟩) hHeld ?_ ?_
           rotate_left
           ·rintro w' ⟨s0, s1, s2, s3⟩
            go_simp
            with_reducible rfl
           rotate_left
           ·simp only [Act.put, sqA, sqB, sqC, i64_w, i32_w]
            rfl
           refine one_ (i := 2) (N := some 14) #[I,I,I,O,O,O,O,O,O,O,O,O,O,O,O,O,O,O,O,O,O,O,O,O,O,O,O,O,O,O,O,O,O,O,O,O,O,O,O,O,O,O] rfl rfl (one_of HT_.out (by kernel_rfl)) (by decide) (fun K hK => ?_)
           refine goes_ Tryz.func76 (by kernel_rfl) rfl #[.string ((rd_T43 l0 x7_1).f0)] (by rfl) rfl rfl (by (try simp only [List.map_toArray, List.map_cons, List.map_nil]); first | done | rfl | (simp only [List.length_drop, List.length_take]; rfl)) ?_
           with_reducible refine (ops_Key.calls ((rd_T43 l0 x7_1).f0) true _ A5.out).mono ?_
           rintro e w' ⟨rfl, ⟨nd, rfl⟩⟩
           refine ⟨_, rfl, ?_⟩
           refine hK.out _ _ ⟨(blk_cell BK131.out 0).trans rfl, (blk_cell BK131.out 1).trans rfl, (blk_cell BK131.out 2).trans rfl, (blk_cell BK131.out 3).trans rfl⟩ (fun hHeld => ?_)
           clear hK K
           refine norm_ (a' := ?_) ?_ ?_
           rotate_left
           ·show Act.put _ (some 14) _ = _
            simp only [Act.put, sqA, sqB, sqC, i64_w, i32_w]
            rfl
           refine sqP (i := 3) (N := some 15) (v := ?_) (a' := ?_) #[I,I,I,I,O,O,O,O,O,O,O,O,O,O,O,O,O,O,O,O,O,O,O,O,O,O,O,O,O,O,O,O,O,O,O,O,O,O,O,O,O,O] rfl rfl HT_.out (Or.inl ⟨by rfl, ?_⟩) ?_ ?_
           rotate_left
           ·intro w'
            go_simp
            with_reducible rfl
           rotate_left
           ·simp only [Act.put, sqA, sqB, sqC, i64_w, i32_w]
            rfl
           refine sqP (i := 4) (N := some 16) (v := ?_) (a' := ?_) #[I,I,I,I,I,O,O,O,O,O,O,O,O,O,O,O,O,O,O,O,O,O,O,O,O,O,O,O,O,O,O,O,O,O,O,O,O,O,O,O,O,O] rfl rfl HT_.out (Or.inl ⟨by rfl, ?_⟩) ?_ ?_
           rotate_left
           ·intro w'
            go_simp
            with_reducible rfl
           rotate_left
           ·simp only [Act.put, sqA, sqB, sqC, i64_w, i32_w]
            rfl
           refine sqP (i := 5) (N := some 17) (v := ?_) (a' := ?_) #[I,I,I,I,I,I,O,O,O,O,O,O,O,O,O,O,O,O,O,O,O,O,O,O,O,O,O,O,O,O,O,O,O,O,O,O,O,O,O,O,O,O] rfl rfl HT_.out (Or.inl ⟨by rfl, ?_⟩) ?_ ?_
           rotate_left
           ·intro w'
            go_simp
            with_reducible rfl
           rotate_left
           ·simp only [Act.put, sqA, sqB, sqC, i64_w, i32_w]
            rfl
           refine take_ (i := 6) (N := some 18) (v := ?_) (a' := ?_) #[I,I,I,I,I,I,I,O,O,O,O,O,O,O,O,O,O,O,O,O,O,O,O,O,O,O,O,O,O,O,O,O,O,O,O,O,O,O,O,O,O,O] rfl rfl (take_ofW HT_.out HW_.out (by kernel_rfl)) (fun _ _ _ h => h) (Or.inl ⟨by rfl, ?_⟩) hHeld ?_ ?_
           rotate_left
           ·rintro w' ⟨s0, s1, s2, s3⟩
            go_simp
            with_reducible rfl
           rotate_left
           ·simp only [Act.put, sqA, sqB, sqC, i64_w, i32_w]
            rfl
           refine one_ (i := 7) (N := some 19) #[I,I,I,I,I,I,I,I,O,O,O,O,O,O,O,O,O,O,O,O,O,O,O,O,O,O,O,O,O,O,O,O,O,O,O,O,O,O,O,O,O,O] rfl rfl (one_of HT_.out (by kernel_rfl)) (by decide) (fun K hK => ?_)
           refine goes_ Tryz.func76 (by kernel_rfl) rfl #[.string ((rd_T43 l0 x7_1).f1)] (by rfl) rfl rfl (by (try simp only [List.map_toArray, List.map_cons, List.map_nil]); first | done | rfl | (simp only [List.length_drop, List.length_take]; rfl)) ?_
           with_reducible refine (ops_Key.calls ((rd_T43 l0 x7_1).f1) true _ A7.out).mono ?_
           rintro e w' ⟨rfl, ⟨nd, rfl⟩⟩
           refine ⟨_, rfl, ?_⟩
           refine hK.out _ _ ⟨(blk_cell BK131.out 0).trans rfl, (blk_cell BK131.out 1).trans rfl, (blk_cell BK131.out 2).trans rfl, (blk_cell BK131.out 3).trans rfl⟩ (fun hHeld => ?_)
           clear hK K
           refine norm_ (a' := ?_) ?_ ?_
           rotate_left
           ·show Act.put _ (some 19) _ = _
            simp only [Act.put, sqA, sqB, sqC, i64_w, i32_w]
            rfl
           refine sqP (i := 8) (N := some 20) (v := ?_) (a' := ?_) #[I,I,I,I,I,I,I,I,I,O,O,O,O,O,O,O,O,O,O,O,O,O,O,O,O,O,O,O,O,O,O,O,O,O,O,O,O,O,O,O,O,O] rfl rfl HT_.out (Or.inl ⟨by rfl, ?_⟩) ?_ ?_
           rotate_left
           ·intro w'
            go_simp
            with_reducible rfl
           rotate_left
           ·simp only [Act.put, sqA, sqB, sqC, i64_w, i32_w]
            rfl
           refine sqP (i := 9) (N := some 21) (v := ?_) (a' := ?_) #[I,I,I,I,I,I,I,I,I,I,O,O,O,O,O,O,O,O,O,O,O,O,O,O,O,O,O,O,O,O,O,O,O,O,O,O,O,O,O,O,O,O] rfl rfl HT_.out (Or.inl ⟨by rfl, ?_⟩) ?_ ?_
           rotate_left
           ·intro w'
            go_simp
            with_reducible rfl
           rotate_left
           ·simp only [Act.put, sqA, sqB, sqC, i64_w, i32_w]
            rfl
           refine sqP (i := 10) (N := some 22) (v := ?_) (a' := ?_) #[I,I,I,I,I,I,I,I,I,I,I,O,O,O,O,O,O,O,O,O,O,O,O,O,O,O,O,O,O,O,O,O,O,O,O,O,O,O,O,O,O,O] rfl rfl HT_.out (Or.inl ⟨by rfl, ?_⟩) ?_ ?_
           rotate_left
           ·intro w'
            go_simp
            with_reducible rfl
           rotate_left
           ·simp only [Act.put, sqA, sqB, sqC, i64_w, i32_w]
            rfl
           refine sqP (i := 11) (N := some 23) (v := ?_) (a' := ?_) #[I,I,I,I,I,I,I,I,I,I,I,I,O,O,O,O,O,O,O,O,O,O,O,O,O,O,O,O,O,O,O,O,O,O,O,O,O,O,O,O,O,O] rfl rfl HT_.out (Or.inl ⟨by rfl, ?_⟩) ?_ ?_
           rotate_left
           ·intro w'
            go_simp
            with_reducible rfl
           rotate_left
           ·simp only [Act.put, sqA, sqB, sqC, i64_w, i32_w]
            rfl
           refine sqP (i := 12) (N := some 24) (v := ?_) (a' := ?_) #[I,I,I,I,I,I,I,I,I,I,I,I,I,O,O,O,O,O,O,O,O,O,O,O,O,O,O,O,O,O,O,O,O,O,O,O,O,O,O,O,O,O] rfl rfl HT_.out (Or.inl ⟨by rfl, ?_⟩) ?_ ?_
           rotate_left
           ·intro w'
            go_simp
            with_reducible rfl
           rotate_left
           ·simp only [Act.put, sqA, sqB, sqC, i64_w, i32_w]
            rfl
           refine take_ (i := 13) (N := some 25) (v := ?_) (a' := ?_) #[I,I,I,I,I,I,I,I,I,I,I,I,I,I,O,O,O,O,O,O,O,O,O,O,O,O,O,O,O,O,O,O,O,O,O,O,O,O,O,O,O,O] rfl rfl (take_ofW HT_.out HW_.out (by kernel_rfl)) (fun _ _ _ h => h) (Or.inl ⟨by rfl, ?_⟩) hHeld ?_ ?_
           rotate_left
           ·rintro w' ⟨s0, s1, s2, s3⟩
            go_simp
            with_reducible rfl
           rotate_left
           ·simp only [Act.put, sqA, sqB, sqC, i64_w, i32_w]
            rfl
           refine sqP (i := 14) (N := some 26) (v := ?_) (a' := ?_) #[I,I,I,I,I,I,I,I,I,I,I,I,I,I,I,O,O,O,O,O,O,O,O,O,O,O,O,O,O,O,O,O,O,O,O,O,O,O,O,O,O,O] rfl rfl HT_.out (Or.inl ⟨by rfl, ?_⟩) ?_ ?_
           rotate_left
           ·intro w'
            go_simp
            with_reducible rfl
           rotate_left
           ·simp only [Act.put, sqA, sqB, sqC, i64_w, i32_w]
            rfl
           refine sqP (i := 15) (N := some 27) (v := ?_) (a' := ?_) #[I,I,I,I,I,I,I,I,I,I,I,I,I,I,I,I,O,O,O,O,O,O,O,O,O,O,O,O,O,O,O,O,O,O,O,O,O,O,O,O,O,O] rfl rfl HT_.out (Or.inl ⟨by rfl, ?_⟩) ?_ ?_
           rotate_left
           ·intro w'
            go_simp
            with_reducible rfl
           rotate_left
           ·simp only [Act.put, sqA, sqB, sqC, i64_w, i32_w]
            rfl
           refine sqP (i := 16) (N := some 28) (v := ?_) (a' := ?_) #[I,I,I,I,I,I,I,I,I,I,I,I,I,I,I,I,I,O,O,O,O,O,O,O,O,O,O,O,O,O,O,O,O,O,O,O,O,O,O,O,O,O] rfl rfl HT_.out (Or.inl ⟨by rfl, ?_⟩) ?_ ?_
           rotate_left
           ·intro w'
            go_simp
            with_reducible rfl
           rotate_left
           ·simp only [Act.put, sqA, sqB, sqC, i64_w, i32_w]
            rfl
           refine sqP (i := 17) (N := some 29) (v := ?_) (a' := ?_) #[I,I,I,I,I,I,I,I,I,I,I,I,I,I,I,I,I,I,O,O,O,O,O,O,O,O,O,O,O,O,O,O,O,O,O,O,O,O,O,O,O,O] rfl rfl HT_.out (Or.inl ⟨by rfl, ?_⟩) ?_ ?_
           rotate_left
           ·intro w'
            go_simp
            with_reducible rfl
           rotate_left
           ·simp only [Act.put, sqA, sqB, sqC, i64_w, i32_w]
            rfl
           refine sqP (i := 18) (N := some 30) (v := ?_) (a' := ?_) #[I,I,I,I,I,I,I,I,I,I,I,I,I,I,I,I,I,I,I,O,O,O,O,O,O,O,O,O,O,O,O,O,O,O,O,O,O,O,O,O,O,O] rfl rfl HT_.out (Or.inl ⟨by rfl, ?_⟩) ?_ ?_
           rotate_left
           ·intro w'
            go_simp
            with_reducible rfl
           rotate_left
           ·simp only [Act.put, sqA, sqB, sqC, i64_w, i32_w]
            rfl
           refine take_ (i := 19) (N := some 31) (v := ?_) (a' := ?_) #[I,I,I,I,I,I,I,I,I,I,I,I,I,I,I,I,I,I,I,I,O,O,O,O,O,O,O,O,O,O,O,O,O,O,O,O,O,O,O,O,O,O] rfl rfl (take_ofW HT_.out HW_.out (by kernel_rfl)) (fun _ _ _ h => h) (Or.inl ⟨by rfl, ?_⟩) hHeld ?_ ?_
           rotate_left
           ·rintro w' ⟨s0, s1, s2, s3⟩
            go_simp
            with_reducible rfl
           rotate_left
           ·simp only [Act.put, sqA, sqB, sqC, i64_w, i32_w]
            rfl
           refine sqP (i := 20) (N := some 32) (v := ?_) (a' := ?_) #[I,I,I,I,I,I,I,I,I,I,I,I,I,I,I,I,I,I,I,I,I,O,O,O,O,O,O,O,O,O,O,O,O,O,O,O,O,O,O,O,O,O] rfl rfl HT_.out (Or.inl ⟨by rfl, ?_⟩) ?_ ?_
           rotate_left
           ·intro w'
            go_simp
            with_reducible rfl
           rotate_left
           ·simp only [Act.put, sqA, sqB, sqC, i64_w, i32_w]
            rfl
           refine sqP (i := 21) (N := some 33) (v := ?_) (a' := ?_) #[I,I,I,I,I,I,I,I,I,I,I,I,I,I,I,I,I,I,I,I,I,I,O,O,O,O,O,O,O,O,O,O,O,O,O,O,O,O,O,O,O,O] rfl rfl HT_.out (Or.inl ⟨by rfl, ?_⟩) ?_ ?_
           rotate_left
           ·intro w'
            go_simp
            with_reducible rfl
           rotate_left
           ·simp only [Act.put, sqA, sqB, sqC, i64_w, i32_w]
            rfl
           refine sqP (i := 22) (N := some 34) (v := ?_) (a' := ?_) #[I,I,I,I,I,I,I,I,I,I,I,I,I,I,I,I,I,I,I,I,I,I,I,O,O,O,O,O,O,O,O,O,O,O,O,O,O,O,O,O,O,O] rfl rfl HT_.out (Or.inl ⟨by rfl, ?_⟩) ?_ ?_
           rotate_left
           ·intro w'
            go_simp
            with_reducible rfl
           rotate_left
           ·simp only [Act.put, sqA, sqB, sqC, i64_w, i32_w]
            rfl
           refine sqP (i := 23) (N := some 35) (v := ?_) (a' := ?_) #[I,I,I,I,I,I,I,I,I,I,I,I,I,I,I,I,I,I,I,I,I,I,I,I,O,O,O,O,O,O,O,O,O,O,O,O,O,O,O,O,O,O] rfl rfl HT_.out (Or.inl ⟨by rfl, ?_⟩) ?_ ?_
           rotate_left
           ·intro w'
            go_simp
            with_reducible rfl
           rotate_left
           ·simp only [Act.put, sqA, sqB, sqC, i64_w, i32_w]
            rfl
           refine sqP (i := 24) (N := some 36) (v := ?_) (a' := ?_) #[I,I,I,I,I,I,I,I,I,I,I,I,I,I,I,I,I,I,I,I,I,I,I,I,I,O,O,O,O,O,O,O,O,O,O,O,O,O,O,O,O,O] rfl rfl HT_.out (Or.inl ⟨by rfl, ?_⟩) ?_ ?_
           rotate_left
           ·intro w'
            go_simp
            with_reducible rfl
           rotate_left
           ·simp only [Act.put, sqA, sqB, sqC, i64_w, i32_w]
            rfl
           refine take_ (i := 25) (N := some 37) (v := ?_) (a' := ?_) #[I,I,I,I,I,I,I,I,I,I,I,I,I,I,I,I,I,I,I,I,I,I,I,I,I,I,O,O,O,O,O,O,O,O,O,O,O,O,O,O,O,O] rfl rfl (take_ofW HT_.out HW_.out (by kernel_rfl)) (fun _ _ _ h => h) (Or.inl ⟨by rfl, ?_⟩) hHeld ?_ ?_
           rotate_left
           ·rintro w' ⟨s0, s1, s2, s3⟩
            go_simp
            with_reducible rfl
           rotate_left
           ·simp only [Act.put, sqA, sqB, sqC, i64_w, i32_w]
            rfl
           refine sqP (i := 26) (N := some 38) (v := ?_) (a' := ?_) #[I,I,I,I,I,I,I,I,I,I,I,I,I,I,I,I,I,I,I,I,I,I,I,I,I,I,I,O,O,O,O,O,O,O,O,O,O,O,O,O,O,O] rfl rfl HT_.out (Or.inl ⟨by rfl, ?_⟩) ?_ ?_
           rotate_left
           ·intro w'
            go_simp
            with_reducible rfl
           rotate_left
           ·simp only [Act.put, sqA, sqB, sqC, i64_w, i32_w]
            rfl
           refine sqP (i := 27) (N := some 39) (v := ?_) (a' := ?_) #[I,I,I,I,I,I,I,I,I,I,I,I,I,I,I,I,I,I,I,I,I,I,I,I,I,I,I,I,O,O,O,O,O,O,O,O,O,O,O,O,O,O] rfl rfl HT_.out (Or.inl ⟨by rfl, ?_⟩) ?_ ?_
           rotate_left
           ·intro w'
            go_simp
            with_reducible rfl
           rotate_left
           ·simp only [Act.put, sqA, sqB, sqC, i64_w, i32_w]
            rfl
           refine sqP (i := 28) (N := some 40) (v := ?_) (a' := ?_) #[I,I,I,I,I,I,I,I,I,I,I,I,I,I,I,I,I,I,I,I,I,I,I,I,I,I,I,I,I,O,O,O,O,O,O,O,O,O,O,O,O,O] rfl rfl HT_.out (Or.inl ⟨by rfl, ?_⟩) ?_ ?_
           rotate_left
           ·intro w'
            go_simp
            with_reducible rfl
           rotate_left
           ·simp only [Act.put, sqA, sqB, sqC, i64_w, i32_w]
            rfl
           refine sqP (i := 29) (N := some 41) (v := undef) (a' := ?_) #[I,I,I,I,I,I,I,I,I,I,I,I,I,I,I,I,I,I,I,I,I,I,I,I,I,I,I,I,I,I,O,O,O,O,O,O,O,O,O,O,O,O] rfl rfl HT_.out (Or.inr ⟨by rfl, rfl⟩) ?_ ?_
           rotate_left
           ·simp only [Act.put, sqA, sqB, sqC, i64_w, i32_w]
            rfl
           refine sqP (i := 30) (N := some 42) (v := undef) (a' := ?_) #[I,I,I,I,I,I,I,I,I,I,I,I,I,I,I,I,I,I,I,I,I,I,I,I,I,I,I,I,I,I,I,O,O,O,O,O,O,O,O,O,O,O] rfl rfl HT_.out (Or.inr ⟨by rfl, rfl⟩) ?_ ?_
           rotate_left
           ·simp only [Act.put, sqA, sqB, sqC, i64_w, i32_w]
            rfl
           refine sqP (i := 31) (N := some 43) (v := undef) (a' := ?_) #[I,I,I,I,I,I,I,I,I,I,I,I,I,I,I,I,I,I,I,I,I,I,I,I,I,I,I,I,I,I,I,I,O,O,O,O,O,O,O,O,O,O] rfl rfl HT_.out (Or.inr ⟨by rfl, rfl⟩) ?_ ?_
           rotate_left
           ·simp only [Act.put, sqA, sqB, sqC, i64_w, i32_w]
            rfl
           refine sqP (i := 32) (N := some 44) (v := undef) (a' := ?_) #[I,I,I,I,I,I,I,I,I,I,I,I,I,I,I,I,I,I,I,I,I,I,I,I,I,I,I,I,I,I,I,I,I,O,O,O,O,O,O,O,O,O] rfl rfl HT_.out (Or.inr ⟨by rfl, rfl⟩) ?_ ?_
           rotate_left
           ·simp only [Act.put, sqA, sqB, sqC, i64_w, i32_w]
            rfl
           refine sqP (i := 33) (N := some 45) (v := undef) (a' := ?_) #[I,I,I,I,I,I,I,I,I,I,I,I,I,I,I,I,I,I,I,I,I,I,I,I,I,I,I,I,I,I,I,I,I,I,O,O,O,O,O,O,O,O] rfl rfl HT_.out (Or.inr ⟨by rfl, rfl⟩) ?_ ?_
           rotate_left
           ·simp only [Act.put, sqA, sqB, sqC, i64_w, i32_w]
            rfl
           refine sqP (i := 34) (N := some 46) (v := undef) (a' := ?_) #[I,I,I,I,I,I,I,I,I,I,I,I,I,I,I,I,I,I,I,I,I,I,I,I,I,I,I,I,I,I,I,I,I,I,I,O,O,O,O,O,O,O] rfl rfl HT_.out (Or.inr ⟨by rfl, rfl⟩) ?_ ?_
           rotate_left
           ·simp only [Act.put, sqA, sqB, sqC, i64_w, i32_w]
            rfl
           refine sqP (i := 35) (N := some 47) (v := undef) (a' := ?_) #[I,I,I,I,I,I,I,I,I,I,I,I,I,I,I,I,I,I,I,I,I,I,I,I,I,I,I,I,I,I,I,I,I,I,I,I,O,O,O,O,O,O] rfl rfl HT_.out (Or.inr ⟨by rfl, rfl⟩) ?_ ?_
           rotate_left
           ·simp only [Act.put, sqA, sqB, sqC, i64_w, i32_w]
            rfl
           refine sqP (i := 36) (N := some 48) (v := undef) (a' := ?_) #[I,I,I,I,I,I,I,I,I,I,I,I,I,I,I,I,I,I,I,I,I,I,I,I,I,I,I,I,I,I,I,I,I,I,I,I,I,O,O,O,O,O] rfl rfl HT_.out (Or.inr ⟨by rfl, rfl⟩) ?_ ?_
           rotate_left
           ·simp only [Act.put, sqA, sqB, sqC, i64_w, i32_w]
            rfl
           refine sqP (i := 37) (N := some 49) (v := undef) (a' := ?_) #[I,I,I,I,I,I,I,I,I,I,I,I,I,I,I,I,I,I,I,I,I,I,I,I,I,I,I,I,I,I,I,I,I,I,I,I,I,I,O,O,O,O] rfl rfl HT_.out (Or.inr ⟨by rfl, rfl⟩) ?_ ?_
           rotate_left
           ·simp only [Act.put, sqA, sqB, sqC, i64_w, i32_w]
            rfl
           refine sqP (i := 38) (N := some 50) (v := undef) (a' := ?_) #[I,I,I,I,I,I,I,I,I,I,I,I,I,I,I,I,I,I,I,I,I,I,I,I,I,I,I,I,I,I,I,I,I,I,I,I,I,I,I,O,O,O] rfl rfl HT_.out (Or.inr ⟨by rfl, rfl⟩) ?_ ?_
           rotate_left
           ·simp only [Act.put, sqA, sqB, sqC, i64_w, i32_w]
            rfl
           refine sqP (i := 39) (N := some 51) (v := undef) (a' := ?_) #[I,I,I,I,I,I,I,I,I,I,I,I,I,I,I,I,I,I,I,I,I,I,I,I,I,I,I,I,I,I,I,I,I,I,I,I,I,I,I,I,O,O] rfl rfl HT_.out (Or.inr ⟨by rfl, rfl⟩) ?_ ?_
           rotate_left
           ·simp only [Act.put, sqA, sqB, sqC, i64_w, i32_w]
            rfl
           refine sqP (i := 40) (N := some 52) (v := undef) (a' := ?_) #[I,I,I,I,I,I,I,I,I,I,I,I,I,I,I,I,I,I,I,I,I,I,I,I,I,I,I,I,I,I,I,I,I,I,I,I,I,I,I,I,I,O] rfl rfl HT_.out (Or.inr ⟨by rfl, rfl⟩) ?_ ?_
           rotate_left
           ·simp only [Act.put, sqA, sqB, sqC, i64_w, i32_w]
            rfl
           refine sqP (i := 41) (N := some 53) (v := ?_) (a' := ?_) #[I,I,I,I,I,I,I,I,I,I,I,I,I,I,I,I,I,I,I,I,I,I,I,I,I,I,I,I,I,I,I,I,I,I,I,I,I,I,I,I,I,I] rfl rfl HT_.out (Or.inl ⟨by rfl, ?_⟩) ?_ ?_
           rotate_left
           ·intro w'
            go_simp
            with_reducible rfl
           rotate_left
           ·simp only [Act.put, sqA, sqB, sqC, i64_w, i32_w]
            rfl
           refine done_ (done_of HT_.out (by kernel_rfl)) ?_
           try go_wp2
           go_ret
           exact ⟨by first | rfl | (simp [errW_none, errW_some] <;> rfl) | (simp [*, errW_none, errW_some] <;> rfl), by repeat (first | (with_reducible first | exact HB.out | apply below_alloc | apply pw_below_drewN | apply below_drew1 | refine below_set ?_ GE131.out) | exact HB.out)⟩
          ·rw [if_neg c19] at H
           have c19b0 : decide (((rd_T43 l0 x7_1).f2.f1) < 1) = false := decide_eq_false c19
           clear c19
           by_cases c24 : x7_1 > 0
           ·rw [if_pos c24] at H
            have c24b0 : decide (0 < x7_1) = true := decide_eq_true c24
            clear c24
            obtain ⟨ji25, hji25⟩ : ∃ j_ : Int, (wrap64 (x7_1 - 1)) = j_ := ⟨_, rfl⟩
            replace H : (if 0 ≤ (ji25) then (if (ji25) < (l0.length : Int) then ((pair_Less.f k1 ((rd_T43 l0 (ji25)).f0) ((rd_T43 l0 (ji25)).f1) ((rd_T43 l0 (ji25)).f2.f0) ((rd_T43 l0 (ji25)).f2.f1) ((rd_T43 l0 x7_1).f0) ((rd_T43 l0 x7_1).f1) ((rd_T43 l0 x7_1).f2.f0) ((rd_T43 l0 x7_1).f2.f1)).bind fun t135 => (if t135 = true then (pair_May.l0 k1 l0 l0 (l0.length : Int) (wrap64 (x7_1 + 1))) else (some false))) else (none)) else (none)) = some r := by first | (rw [hji25] at H; exact H) | (simp only [hji25] at H ⊢; exact H)
            (try rw [hji25] at A5)
            (try rw [hji25] at A7)
            have hji25w : (IntKind.i64.wrap (x7_1 - 1)) = ji25 := (i64_w _).trans hji25
            by_cases c26 : 0 ≤ (ji25)
            ·rw [if_pos c26] at H
             have c26b0 : decide (0 ≤ (ji25)) = true := decide_eq_true c26
             clear c26
             by_cases c27 : (ji25) < (l0.length : Int)
             ·rw [if_pos c27] at H
              have c27b0 : decide ((ji25) < (l0.length : Int)) = true := decide_eq_true c27
              clear c27
              replace H := Option.bind_eq_some_iff.mp H
              obtain ⟨t135, A280, H⟩ := H
              replace H : (if t135 = true then (pair_May.l0 k1 l0 l0 (l0.length : Int) (wrap64 (x7_1 + 1))) else (some false)) = some r := H
              have A28 := Aside0.mk A280
              clear A280
              by_cases c29 : t135 = true
              ·subst c29
               have H1 : (pair_May.l0 k1 l0 l0 (l0.length : Int) (wrap64 (x7_1 + 1))) = some r := by rw [if_pos rfl] at H; exact H
               clear H
               have H := H1
               clear H1
               have H' := Aside0.mk H
               clear H
               have p130 : 0 ≤ (x7_1 : Int) := of_decide_eq_true (by first | (with_reducible assumption) | assumption)
               have q130 : x7_1 < (l0.length : Int) := of_decide_eq_true (by first | (with_reducible assumption) | assumption)
               obtain ⟨ad130, e130, hx130_0, hx130_1, hx130_2, hx130_3⟩ := at_T43 HR0.out x7_1 p130 q130
               cases e130
               replace hx130_0 := (HB.out.cell (World.block_lt_of_cell? w _ hx130_0)).trans hx130_0
               replace hx130_1 := (HB.out.cell (World.block_lt_of_cell? w _ hx130_1)).trans hx130_1
               replace hx130_2 := (HB.out.cell (World.block_lt_of_cell? w _ hx130_2)).trans hx130_2
               replace hx130_3 := (HB.out.cell (World.block_lt_of_cell? w _ hx130_3)).trans hx130_3
               replace p130 := eq_true p130
               replace q130 := eq_true q130
               try go_wp2_with (first | ((with_reducible refine gate_dst (N := 4) rfl ?_); refine box_event ?hg (N := 4) ?hd (cs := #[.string (⟨#[]⟩ : ByteArray), .string (⟨#[]⟩ : ByteArray), .int .i64 0, .int .i64 0]) (t := 43) ?hr ?_; (case hd => rfl); (case hg => rfl); (case hr => first | (go_simp; done) | (go_simp; rfl)); intro gb131 hg w30 hbox hb; have n0_ := Aside0.mk (below_step (by repeat (first | (with_reducible first | exact HB.out | apply below_alloc | apply pw_below_drewN | apply below_drew1) | exact HB.out)) hb); have n1_ := Aside0.mk (hbox); have n2_ := Aside0.mk ((by rw [hg]; exact (below_size (by repeat (first | (with_reducible first | exact HB.out | apply below_alloc | apply pw_below_drewN | apply below_drew1) | exact HB.out))) : w.heap.size ≤ gb131)); have n3_ := Aside0.mk ((by rw [hg]; exact (below_size (by repeat (first | (with_reducible first | exact HB.out | apply below_alloc | apply pw_below_drewN | apply below_drew1) | exact HB.out))) : w.heap.size ≤ gb131)); clear HB; have HB := n0_; have BK131 := n1_; have GW131 := n2_; have GE131 := n3_; clear n0_ n1_ n2_ n3_; clear hb hbox hg; have hcz31_0 : w30.cell? ⟨gb131, 0, none⟩ = some (.string (⟨#[]⟩ : ByteArray)) := (blk_cell BK131.out 0).trans rfl; have hcz31_1 : w30.cell? ⟨gb131, 1, none⟩ = some (.string (⟨#[]⟩ : ByteArray)) := (blk_cell BK131.out 1).trans rfl; have hcz31_2 : w30.cell? ⟨gb131, 2, none⟩ = some (.int .i64 0) := (blk_cell BK131.out 2).trans rfl; have hcz31_3 : w30.cell? ⟨gb131, 3, none⟩ = some (.int .i64 0) := (blk_cell BK131.out 3).trans rfl; have hfz31_0 := blk_frozen BK131.out 0; have hfz31_1 := blk_frozen BK131.out 1; have hfz31_2 := blk_frozen BK131.out 2; have hfz31_3 := blk_frozen BK131.out 3))
               have n0_ : Aside0 (((((w30.setCell ⟨gb131, 0, none⟩ (.string ((rd_T43 l0 x7_1).f0))).setCell ⟨gb131, 1, none⟩ (.string ((rd_T43 l0 x7_1).f1))).setCell ⟨gb131, 2, none⟩ (.int .i64 ((rd_T43 l0 x7_1).f2.f0))).setCell ⟨gb131, 3, none⟩ (.int .i64 ((rd_T43 l0 x7_1).f2.f1))).heap[gb131]? = some (.cells #[.string ((rd_T43 l0 x7_1).f0), .string ((rd_T43 l0 x7_1).f1), .int .i64 ((rd_T43 l0 x7_1).f2.f0), .int .i64 ((rd_T43 l0 x7_1).f2.f1)] 43 (0, 0))) := ⟨by (with_reducible repeat (first | apply blN | apply blD | apply blA)); refine blk_put (cs := #[.string ((rd_T43 l0 x7_1).f0), .string ((rd_T43 l0 x7_1).f1), .int .i64 ((rd_T43 l0 x7_1).f2.f0), .int .i64 0]) ?_ 3 _ rfl; (with_reducible repeat (first | apply blN | apply blD | apply blA)); refine blk_put (cs := #[.string ((rd_T43 l0 x7_1).f0), .string ((rd_T43 l0 x7_1).f1), .int .i64 0, .int .i64 0]) ?_ 2 _ rfl; (with_reducible repeat (first | apply blN | apply blD | apply blA)); refine blk_put (cs := #[.string ((rd_T43 l0 x7_1).f0), .string (⟨#[]⟩ : ByteArray), .int .i64 0, .int .i64 0]) ?_ 1 _ rfl; (with_reducible repeat (first | apply blN | apply blD | apply blA)); refine blk_put (cs := #[.string (⟨#[]⟩ : ByteArray), .string (⟨#[]⟩ : ByteArray), .int .i64 0, .int .i64 0]) ?_ 0 _ rfl; (with_reducible repeat (first | apply blN | apply blD | apply blA)); exact BK131.out⟩
               have n1_ : Aside0 (Below w.heap.size w ((((w30.setCell ⟨gb131, 0, none⟩ (.string ((rd_T43 l0 x7_1).f0))).setCell ⟨gb131, 1, none⟩ (.string ((rd_T43 l0 x7_1).f1))).setCell ⟨gb131, 2, none⟩ (.int .i64 ((rd_T43 l0 x7_1).f2.f0))).setCell ⟨gb131, 3, none⟩ (.int .i64 ((rd_T43 l0 x7_1).f2.f1)))) := ⟨by repeat (first | (with_reducible first | exact HB.out | apply below_alloc | apply pw_below_drewN | apply below_drew1 | refine below_set ?_ GE131.out) | exact HB.out)⟩
               (try clear BK131)
               (try clear HB)
               generalize ((((w30.setCell ⟨gb131, 0, none⟩ (.string ((rd_T43 l0 x7_1).f0))).setCell ⟨gb131, 1, none⟩ (.string ((rd_T43 l0 x7_1).f1))).setCell ⟨gb131, 2, none⟩ (.int .i64 ((rd_T43 l0 x7_1).f2.f0))).setCell ⟨gb131, 3, none⟩ (.int .i64 ((rd_T43 l0 x7_1).f2.f1))) = w32 at n0_ n1_ ⊢
               have BK131 := n0_
               have HB := n1_
               clear n0_ n1_
               have n0_ := Aside0.mk (blk_drew BK131.out)
               have n1_ := Aside0.mk (below_drew1 HB.out)
               clear BK131
               clear HB
               have BK131 := n0_
               have HB := n1_
               clear n0_ n1_
               have p134 : 0 ≤ ((ji25) : Int) := of_decide_eq_true (by first | (with_reducible assumption) | assumption)
               have q134 : (ji25) < (l0.length : Int) := of_decide_eq_true (by first | (with_reducible assumption) | assumption)
               obtain ⟨ad134, e134, hx134_0, hx134_1, hx134_2, hx134_3⟩ := at_T43 HR0.out (ji25) p134 q134
               have hw134_3 := hx134_3
               have hw134_2 := hx134_2
               have hw134_1 := hx134_1
               have hw134_0 := hx134_0
               obtain rfl : ad130 = ad134 := (by injection e134)
               replace hx134_0 := (HB.out.cell (World.block_lt_of_cell? w _ hx134_0)).trans hx134_0
               replace hx134_1 := (HB.out.cell (World.block_lt_of_cell? w _ hx134_1)).trans hx134_1
               replace hx134_2 := (HB.out.cell (World.block_lt_of_cell? w _ hx134_2)).trans hx134_2
               replace hx134_3 := (HB.out.cell (World.block_lt_of_cell? w _ hx134_3)).trans hx134_3
               replace p134 := eq_true p134
               replace q134 := eq_true q134
               refine start_ (n := 42) (S := fun w' => w'.cell? ⟨gb131, 0, none⟩ = some (.string ((rd_T43 l0 x7_1).f0)) ∧ w'.cell? ⟨gb131, 1, none⟩ = some (.string ((rd_T43 l0 x7_1).f1)) ∧ w'.cell? ⟨gb131, 2, none⟩ = some (.int .i64 ((rd_T43 l0 x7_1).f2.f0)) ∧ w'.cell? ⟨gb131, 3, none⟩ = some (.int .i64 ((rd_T43 l0 x7_1).f2.f1)) ∧ w'.cell? (ad130.add (((ji25)).toNat * 4)) = some (.string ((rd_T43 l0 (ji25)).f0)) ∧ w'.cell? ⟨(ad130.add (((ji25)).toNat * 4)).block, (ad130.add (((ji25)).toNat * 4)).off + 1, none⟩ = some (.string ((rd_T43 l0 (ji25)).f1)) ∧ w'.cell? ⟨(ad130.add (((ji25)).toNat * 4)).block, (ad130.add (((ji25)).toNat * 4)).off + 2, none⟩ = some (.int .i64 ((rd_T43 l0 (ji25)).f2.f0)) ∧ w'.cell? ⟨(ad130.add (((ji25)).toNat * 4)).block, (ad130.add (((ji25)).toNat * 4)).off + 3, none⟩ = some (.int .i64 ((rd_T43 l0 (ji25)).f2.f1))) (ds := []) #[O,O,O,O,O,O,O,O,O,O,O,O,O,O,O,O,O,O,O,O,O,O,O,O,O,O,O,O,O,O,O,O,O,O,O,O,O,O,O,O,O,O] (by kernel_rfl) rfl rfl ⟨(blk_cell BK131.out 0).trans rfl, (blk_cell BK131.out 1).trans rfl, (blk_cell BK131.out 2).trans rfl, (blk_cell BK131.out 3).trans rfl, ((HB.out.cell (World.block_lt_of_cell? w _ hw134_0)).trans hw134_0), ((HB.out.cell (World.block_lt_of_cell? w _ hw134_1)).trans hw134_1), ((HB.out.cell (World.block_lt_of_cell? w _ hw134_2)).trans hw134_2), ((HB.out.cell (World.block_lt_of_cell? w _ hw134_3)).trans hw134_3)⟩ (fun hHeld => ?_); refine with_tabW pair_May.tab4 pair_May.bits4 (fun HT_ HW_ => ?_)
               generalize w32.drew = w33 at BK131 HB hx134_0 hx134_1 hx134_2 hx134_3 hHeld ⊢
               refine sqP (i := 0) (N := some 12) (v := ?_) (a' := ?_) #[I,O,O,O,O,O,O,O,O,O,O,O,O,O,O,O,O,O,O,O,O,O,O,O,O,O,O,O,O,O,O,O,O,O,O,O,O,O,O,O,O,O] rfl rfl HT_.out (Or.inl ⟨by rfl, ?_⟩) ?_ ?_
               rotate_left
               ·intro w'
                go_simp
                with_reducible rfl
               rotate_left
               ·simp only [Act.put, sqA, sqB, sqC, i64_w, i32_w]
                rfl
               refine take_ (i := 1) (N := some 13) (v := ?_) (a' := ?_) #[I,I,O,O,O,O,O,O,O,O,O,O,O,O,O,O,O,O,O,O,O,O,O,O,O,O,O,O,O,O,O,O,O,O,O,O,O,O,O,O,O,O] rfl rfl (take_ofW HT_.out HW_.out (by kernel_rfl)) (fun _ _ _ h => h) (Or.inl ⟨by rfl, ?_⟩) hHeld ?_ ?_
               rotate_left
               ·rintro w' ⟨s0, s1, s2, s3, s4, s5, s6, s7⟩
                go_simp
                with_reducible rfl
               rotate_left
               ·simp only [Act.put, sqA, sqB, sqC, i64_w, i32_w]
                rfl
               refine one_ (i := 2) (N := some 14) #[I,I,I,O,O,O,O,O,O,O,O,O,O,O,O,O,O,O,O,O,O,O,O,O,O,O,O,O,O,O,O,O,O,O,O,O,O,O,O,O,O,O] rfl rfl (one_of HT_.out (by kernel_rfl)) (by decide) (fun K hK => ?_)
               refine goes_ Tryz.func76 (by kernel_rfl) rfl #[.string ((rd_T43 l0 x7_1).f0)] (by rfl) rfl rfl (by (try simp only [List.map_toArray, List.map_cons, List.map_nil]); first | done | rfl | (simp only [List.length_drop, List.length_take]; rfl)) ?_
               with_reducible refine (ops_Key.calls ((rd_T43 l0 x7_1).f0) true _ A5.out).mono ?_
               rintro e w' ⟨rfl, ⟨nd, rfl⟩⟩
               refine ⟨_, rfl, ?_⟩
               refine hK.out _ _ ⟨(blk_cell BK131.out 0).trans rfl, (blk_cell BK131.out 1).trans rfl, (blk_cell BK131.out 2).trans rfl, (blk_cell BK131.out 3).trans rfl, ((HB.out.cell (World.block_lt_of_cell? w _ hw134_0)).trans hw134_0), ((HB.out.cell (World.block_lt_of_cell? w _ hw134_1)).trans hw134_1), ((HB.out.cell (World.block_lt_of_cell? w _ hw134_2)).trans hw134_2), ((HB.out.cell (World.block_lt_of_cell? w _ hw134_3)).trans hw134_3)⟩ (fun hHeld => ?_)
               clear hK K
               refine norm_ (a' := ?_) ?_ ?_
               rotate_left
               ·show Act.put _ (some 14) _ = _
                simp only [Act.put, sqA, sqB, sqC, i64_w, i32_w]
                rfl
               refine sqP (i := 3) (N := some 15) (v := ?_) (a' := ?_) #[I,I,I,I,O,O,O,O,O,O,O,O,O,O,O,O,O,O,O,O,O,O,O,O,O,O,O,O,O,O,O,O,O,O,O,O,O,O,O,O,O,O] rfl rfl HT_.out (Or.inl ⟨by rfl, ?_⟩) ?_ ?_
               rotate_left
               ·intro w'
                go_simp
                with_reducible rfl
               rotate_left
               ·simp only [Act.put, sqA, sqB, sqC, i64_w, i32_w]
                rfl
               refine sqP (i := 4) (N := some 16) (v := ?_) (a' := ?_) #[I,I,I,I,I,O,O,O,O,O,O,O,O,O,O,O,O,O,O,O,O,O,O,O,O,O,O,O,O,O,O,O,O,O,O,O,O,O,O,O,O,O] rfl rfl HT_.out (Or.inl ⟨by rfl, ?_⟩) ?_ ?_
               rotate_left
               ·intro w'
                go_simp
                with_reducible rfl
               rotate_left
               ·simp only [Act.put, sqA, sqB, sqC, i64_w, i32_w]
                rfl
               refine sqP (i := 5) (N := some 17) (v := ?_) (a' := ?_) #[I,I,I,I,I,I,O,O,O,O,O,O,O,O,O,O,O,O,O,O,O,O,O,O,O,O,O,O,O,O,O,O,O,O,O,O,O,O,O,O,O,O] rfl rfl HT_.out (Or.inl ⟨by rfl, ?_⟩) ?_ ?_
               rotate_left
               ·intro w'
                go_simp
                with_reducible rfl
               rotate_left
               ·simp only [Act.put, sqA, sqB, sqC, i64_w, i32_w]
                rfl
               refine take_ (i := 6) (N := some 18) (v := ?_) (a' := ?_) #[I,I,I,I,I,I,I,O,O,O,O,O,O,O,O,O,O,O,O,O,O,O,O,O,O,O,O,O,O,O,O,O,O,O,O,O,O,O,O,O,O,O] rfl rfl (take_ofW HT_.out HW_.out (by kernel_rfl)) (fun _ _ _ h => h) (Or.inl ⟨by rfl, ?_⟩) hHeld ?_ ?_
               rotate_left
               ·rintro w' ⟨s0, s1, s2, s3, s4, s5, s6, s7⟩
                go_simp
                with_reducible rfl
               rotate_left
               ·simp only [Act.put, sqA, sqB, sqC, i64_w, i32_w]
                rfl
               refine one_ (i := 7) (N := some 19) #[I,I,I,I,I,I,I,I,O,O,O,O,O,O,O,O,O,O,O,O,O,O,O,O,O,O,O,O,O,O,O,O,O,O,O,O,O,O,O,O,O,O] rfl rfl (one_of HT_.out (by kernel_rfl)) (by decide) (fun K hK => ?_)
               refine goes_ Tryz.func76 (by kernel_rfl) rfl #[.string ((rd_T43 l0 x7_1).f1)] (by rfl) rfl rfl (by (try simp only [List.map_toArray, List.map_cons, List.map_nil]); first | done | rfl | (simp only [List.length_drop, List.length_take]; rfl)) ?_
               with_reducible refine (ops_Key.calls ((rd_T43 l0 x7_1).f1) true _ A7.out).mono ?_
               rintro e w' ⟨rfl, ⟨nd, rfl⟩⟩
               refine ⟨_, rfl, ?_⟩
               refine hK.out _ _ ⟨(blk_cell BK131.out 0).trans rfl, (blk_cell BK131.out 1).trans rfl, (blk_cell BK131.out 2).trans rfl, (blk_cell BK131.out 3).trans rfl, ((HB.out.cell (World.block_lt_of_cell? w _ hw134_0)).trans hw134_0), ((HB.out.cell (World.block_lt_of_cell? w _ hw134_1)).trans hw134_1), ((HB.out.cell (World.block_lt_of_cell? w _ hw134_2)).trans hw134_2), ((HB.out.cell (World.block_lt_of_cell? w _ hw134_3)).trans hw134_3)⟩ (fun hHeld => ?_)
               clear hK K
               refine norm_ (a' := ?_) ?_ ?_
               rotate_left
               ·show Act.put _ (some 19) _ = _
                simp only [Act.put, sqA, sqB, sqC, i64_w, i32_w]
                rfl
               refine sqP (i := 8) (N := some 20) (v := ?_) (a' := ?_) #[I,I,I,I,I,I,I,I,I,O,O,O,O,O,O,O,O,O,O,O,O,O,O,O,O,O,O,O,O,O,O,O,O,O,O,O,O,O,O,O,O,O] rfl rfl HT_.out (Or.inl ⟨by rfl, ?_⟩) ?_ ?_
               rotate_left
               ·intro w'
                go_simp
                with_reducible rfl
               rotate_left
               ·simp only [Act.put, sqA, sqB, sqC, i64_w, i32_w]
                rfl
               refine sqP (i := 9) (N := some 21) (v := ?_) (a' := ?_) #[I,I,I,I,I,I,I,I,I,I,O,O,O,O,O,O,O,O,O,O,O,O,O,O,O,O,O,O,O,O,O,O,O,O,O,O,O,O,O,O,O,O] rfl rfl HT_.out (Or.inl ⟨by rfl, ?_⟩) ?_ ?_
               rotate_left
               ·intro w'
                go_simp
                with_reducible rfl
               rotate_left
               ·simp only [Act.put, sqA, sqB, sqC, i64_w, i32_w]
                rfl
               refine sqP (i := 10) (N := some 22) (v := ?_) (a' := ?_) #[I,I,I,I,I,I,I,I,I,I,I,O,O,O,O,O,O,O,O,O,O,O,O,O,O,O,O,O,O,O,O,O,O,O,O,O,O,O,O,O,O,O] rfl rfl HT_.out (Or.inl ⟨by rfl, ?_⟩) ?_ ?_
               rotate_left
               ·intro w'
                go_simp
                with_reducible rfl
               rotate_left
               ·simp only [Act.put, sqA, sqB, sqC, i64_w, i32_w]
                rfl
               refine sqP (i := 11) (N := some 23) (v := ?_) (a' := ?_) #[I,I,I,I,I,I,I,I,I,I,I,I,O,O,O,O,O,O,O,O,O,O,O,O,O,O,O,O,O,O,O,O,O,O,O,O,O,O,O,O,O,O] rfl rfl HT_.out (Or.inl ⟨by rfl, ?_⟩) ?_ ?_
               rotate_left
               ·intro w'
                go_simp
                with_reducible rfl
               rotate_left
               ·simp only [Act.put, sqA, sqB, sqC, i64_w, i32_w]
                rfl
               refine sqP (i := 12) (N := some 24) (v := ?_) (a' := ?_) #[I,I,I,I,I,I,I,I,I,I,I,I,I,O,O,O,O,O,O,O,O,O,O,O,O,O,O,O,O,O,O,O,O,O,O,O,O,O,O,O,O,O] rfl rfl HT_.out (Or.inl ⟨by rfl, ?_⟩) ?_ ?_
               rotate_left
               ·intro w'
                go_simp
                with_reducible rfl
               rotate_left
               ·simp only [Act.put, sqA, sqB, sqC, i64_w, i32_w]
                rfl
               refine take_ (i := 13) (N := some 25) (v := ?_) (a' := ?_) #[I,I,I,I,I,I,I,I,I,I,I,I,I,I,O,O,O,O,O,O,O,O,O,O,O,O,O,O,O,O,O,O,O,O,O,O,O,O,O,O,O,O] rfl rfl (take_ofW HT_.out HW_.out (by kernel_rfl)) (fun _ _ _ h => h) (Or.inl ⟨by rfl, ?_⟩) hHeld ?_ ?_
               rotate_left
               ·rintro w' ⟨s0, s1, s2, s3, s4, s5, s6, s7⟩
                go_simp
                with_reducible rfl
               rotate_left
               ·simp only [Act.put, sqA, sqB, sqC, i64_w, i32_w]
                rfl
               refine sqP (i := 14) (N := some 26) (v := ?_) (a' := ?_) #[I,I,I,I,I,I,I,I,I,I,I,I,I,I,I,O,O,O,O,O,O,O,O,O,O,O,O,O,O,O,O,O,O,O,O,O,O,O,O,O,O,O] rfl rfl HT_.out (Or.inl ⟨by rfl, ?_⟩) ?_ ?_
               rotate_left
               ·intro w'
                go_simp
                with_reducible rfl
               rotate_left
               ·simp only [Act.put, sqA, sqB, sqC, i64_w, i32_w]
                rfl
               refine sqP (i := 15) (N := some 27) (v := ?_) (a' := ?_) #[I,I,I,I,I,I,I,I,I,I,I,I,I,I,I,I,O,O,O,O,O,O,O,O,O,O,O,O,O,O,O,O,O,O,O,O,O,O,O,O,O,O] rfl rfl HT_.out (Or.inl ⟨by rfl, ?_⟩) ?_ ?_
               rotate_left
               ·intro w'
                go_simp
                with_reducible rfl
               rotate_left
               ·simp only [Act.put, sqA, sqB, sqC, i64_w, i32_w]
                rfl
               refine sqP (i := 16) (N := some 28) (v := ?_) (a' := ?_) #[I,I,I,I,I,I,I,I,I,I,I,I,I,I,I,I,I,O,O,O,O,O,O,O,O,O,O,O,O,O,O,O,O,O,O,O,O,O,O,O,O,O] rfl rfl HT_.out (Or.inl ⟨by rfl, ?_⟩) ?_ ?_
               rotate_left
               ·intro w'
                go_simp
                with_reducible rfl
               rotate_left
               ·simp only [Act.put, sqA, sqB, sqC, i64_w, i32_w]
                rfl
               refine sqP (i := 17) (N := some 29) (v := ?_) (a' := ?_) #[I,I,I,I,I,I,I,I,I,I,I,I,I,I,I,I,I,I,O,O,O,O,O,O,O,O,O,O,O,O,O,O,O,O,O,O,O,O,O,O,O,O] rfl rfl HT_.out (Or.inl ⟨by rfl, ?_⟩) ?_ ?_
               rotate_left
               ·intro w'
                go_simp
                with_reducible rfl
               rotate_left
               ·simp only [Act.put, sqA, sqB, sqC, i64_w, i32_w]
                rfl
               refine sqP (i := 18) (N := some 30) (v := ?_) (a' := ?_) #[I,I,I,I,I,I,I,I,I,I,I,I,I,I,I,I,I,I,I,O,O,O,O,O,O,O,O,O,O,O,O,O,O,O,O,O,O,O,O,O,O,O] rfl rfl HT_.out (Or.inl ⟨by rfl, ?_⟩) ?_ ?_
               rotate_left
               ·intro w'
                go_simp
                with_reducible rfl
               rotate_left
               ·simp only [Act.put, sqA, sqB, sqC, i64_w, i32_w]
                rfl
               refine take_ (i := 19) (N := some 31) (v := ?_) (a' := ?_) #[I,I,I,I,I,I,I,I,I,I,I,I,I,I,I,I,I,I,I,I,O,O,O,O,O,O,O,O,O,O,O,O,O,O,O,O,O,O,O,O,O,O] rfl rfl (take_ofW HT_.out HW_.out (by kernel_rfl)) (fun _ _ _ h => h) (Or.inl ⟨by rfl, ?_⟩) hHeld ?_ ?_
               rotate_left
               ·rintro w' ⟨s0, s1, s2, s3, s4, s5, s6, s7⟩
                go_simp
                with_reducible rfl
               rotate_left
               ·simp only [Act.put, sqA, sqB, sqC, i64_w, i32_w]
                rfl
               refine sqP (i := 20) (N := some 32) (v := ?_) (a' := ?_) #[I,I,I,I,I,I,I,I,I,I,I,I,I,I,I,I,I,I,I,I,I,O,O,O,O,O,O,O,O,O,O,O,O,O,O,O,O,O,O,O,O,O] rfl rfl HT_.out (Or.inl ⟨by rfl, ?_⟩) ?_ ?_
               rotate_left
               ·intro w'
                go_simp
                with_reducible rfl
               rotate_left
               ·simp only [Act.put, sqA, sqB, sqC, i64_w, i32_w]
                rfl
               refine sqP (i := 21) (N := some 33) (v := ?_) (a' := ?_) #[I,I,I,I,I,I,I,I,I,I,I,I,I,I,I,I,I,I,I,I,I,I,O,O,O,O,O,O,O,O,O,O,O,O,O,O,O,O,O,O,O,O] rfl rfl HT_.out (Or.inl ⟨by rfl, ?_⟩) ?_ ?_
               rotate_left
               ·intro w'
                go_simp
                with_reducible rfl
               rotate_left
               ·simp only [Act.put, sqA, sqB, sqC, i64_w, i32_w]
                rfl
               refine sqP (i := 22) (N := some 34) (v := ?_) (a' := ?_) #[I,I,I,I,I,I,I,I,I,I,I,I,I,I,I,I,I,I,I,I,I,I,I,O,O,O,O,O,O,O,O,O,O,O,O,O,O,O,O,O,O,O] rfl rfl HT_.out (Or.inl ⟨by rfl, ?_⟩) ?_ ?_
               rotate_left
               ·intro w'
                go_simp
                with_reducible rfl
               rotate_left
               ·simp only [Act.put, sqA, sqB, sqC, i64_w, i32_w]
                rfl
               refine sqP (i := 23) (N := some 35) (v := ?_) (a' := ?_) #[I,I,I,I,I,I,I,I,I,I,I,I,I,I,I,I,I,I,I,I,I,I,I,I,O,O,O,O,O,O,O,O,O,O,O,O,O,O,O,O,O,O] rfl rfl HT_.out (Or.inl ⟨by rfl, ?_⟩) ?_ ?_
               rotate_left
               ·intro w'
                go_simp
                with_reducible rfl
               rotate_left
               ·simp only [Act.put, sqA, sqB, sqC, i64_w, i32_w]
                rfl
               refine sqP (i := 24) (N := some 36) (v := ?_) (a' := ?_) #[I,I,I,I,I,I,I,I,I,I,I,I,I,I,I,I,I,I,I,I,I,I,I,I,I,O,O,O,O,O,O,O,O,O,O,O,O,O,O,O,O,O] rfl rfl HT_.out (Or.inl ⟨by rfl, ?_⟩) ?_ ?_
               rotate_left
               ·intro w'
                go_simp
                with_reducible rfl
               rotate_left
               ·simp only [Act.put, sqA, sqB, sqC, i64_w, i32_w]
                rfl
               refine take_ (i := 25) (N := some 37) (v := ?_) (a' := ?_) #[I,I,I,I,I,I,I,I,I,I,I,I,I,I,I,I,I,I,I,I,I,I,I,I,I,I,O,O,O,O,O,O,O,O,O,O,O,O,O,O,O,O] rfl rfl (take_ofW HT_.out HW_.out (by kernel_rfl)) (fun _ _ _ h => h) (Or.inl ⟨by rfl, ?_⟩) hHeld ?_ ?_
               rotate_left
               ·rintro w' ⟨s0, s1, s2, s3, s4, s5, s6, s7⟩
                go_simp
                with_reducible rfl
               rotate_left
               ·simp only [Act.put, sqA, sqB, sqC, i64_w, i32_w]
                rfl
               refine sqP (i := 26) (N := some 38) (v := ?_) (a' := ?_) #[I,I,I,I,I,I,I,I,I,I,I,I,I,I,I,I,I,I,I,I,I,I,I,I,I,I,I,O,O,O,O,O,O,O,O,O,O,O,O,O,O,O] rfl rfl HT_.out (Or.inl ⟨by rfl, ?_⟩) ?_ ?_
               rotate_left
               ·intro w'
                go_simp
                with_reducible rfl
               rotate_left
               ·simp only [Act.put, sqA, sqB, sqC, i64_w, i32_w]
                rfl
               refine sqP (i := 27) (N := some 39) (v := ?_) (a' := ?_) #[I,I,I,I,I,I,I,I,I,I,I,I,I,I,I,I,I,I,I,I,I,I,I,I,I,I,I,I,O,O,O,O,O,O,O,O,O,O,O,O,O,O] rfl rfl HT_.out (Or.inl ⟨by rfl, ?_⟩) ?_ ?_
               rotate_left
               ·intro w'
                go_simp
                with_reducible rfl
               rotate_left
               ·simp only [Act.put, sqA, sqB, sqC, i64_w, i32_w]
                rfl
               refine sqP (i := 28) (N := some 40) (v := ?_) (a' := ?_) #[I,I,I,I,I,I,I,I,I,I,I,I,I,I,I,I,I,I,I,I,I,I,I,I,I,I,I,I,I,O,O,O,O,O,O,O,O,O,O,O,O,O] rfl rfl HT_.out (Or.inl ⟨by rfl, ?_⟩) ?_ ?_
               rotate_left
               ·intro w'
                go_simp
                with_reducible rfl
               rotate_left
               ·simp only [Act.put, sqA, sqB, sqC, i64_w, i32_w]
                rfl
               refine sqP (i := 29) (N := some 41) (v := ?_) (a' := ?_) #[I,I,I,I,I,I,I,I,I,I,I,I,I,I,I,I,I,I,I,I,I,I,I,I,I,I,I,I,I,I,O,O,O,O,O,O,O,O,O,O,O,O] rfl rfl HT_.out (Or.inl ⟨by rfl, ?_⟩) ?_ ?_
               rotate_left
               ·intro w'
                go_simp
                with_reducible rfl
               rotate_left
               ·simp only [Act.put, sqA, sqB, sqC, i64_w, i32_w]
                rfl
               refine sqP (i := 30) (N := some 42) (v := ?_) (a' := ?_) #[I,I,I,I,I,I,I,I,I,I,I,I,I,I,I,I,I,I,I,I,I,I,I,I,I,I,I,I,I,I,I,O,O,O,O,O,O,O,O,O,O,O] rfl rfl HT_.out (Or.inl ⟨by rfl, ?_⟩) ?_ ?_
               rotate_left
               ·intro w'
                go_simp
                with_reducible rfl
               rotate_left
               ·simp only [Act.put, sqA, sqB, sqC, i64_w, i32_w]
                rfl
               refine sqP (i := 31) (N := some 43) (v := ?_) (a' := ?_) #[I,I,I,I,I,I,I,I,I,I,I,I,I,I,I,I,I,I,I,I,I,I,I,I,I,I,I,I,I,I,I,I,O,O,O,O,O,O,O,O,O,O] rfl rfl HT_.out (Or.inl ⟨by rfl, ?_⟩) ?_ ?_
               rotate_left
               ·intro w'
                go_simp
                with_reducible rfl
               rotate_left
               ·simp only [Act.put, sqA, sqB, sqC, i64_w, i32_w]
                rfl
               refine sqP (i := 32) (N := some 44) (v := ?_) (a' := ?_) #[I,I,I,I,I,I,I,I,I,I,I,I,I,I,I,I,I,I,I,I,I,I,I,I,I,I,I,I,I,I,I,I,I,O,O,O,O,O,O,O,O,O] rfl rfl HT_.out (Or.inl ⟨by rfl, ?_⟩) ?_ ?_
               rotate_left
               ·intro w'
                go_simp
                with_reducible rfl
               rotate_left
               ·simp only [Act.put, sqA, sqB, sqC, i64_w, i32_w]
                rfl
               refine sqP (i := 33) (N := some 45) (v := ?_) (a' := ?_) #[I,I,I,I,I,I,I,I,I,I,I,I,I,I,I,I,I,I,I,I,I,I,I,I,I,I,I,I,I,I,I,I,I,I,O,O,O,O,O,O,O,O] rfl rfl HT_.out (Or.inl ⟨by rfl, ?_⟩) ?_ ?_
               rotate_left
               ·intro w'
                go_simp
                with_reducible rfl
               rotate_left
               ·simp only [Act.put, sqA, sqB, sqC, i64_w, i32_w]
                rfl
               refine sqP (i := 34) (N := some 46) (v := ?_) (a' := ?_) #[I,I,I,I,I,I,I,I,I,I,I,I,I,I,I,I,I,I,I,I,I,I,I,I,I,I,I,I,I,I,I,I,I,I,I,O,O,O,O,O,O,O] rfl rfl HT_.out (Or.inl ⟨by rfl, ?_⟩) ?_ ?_
               rotate_left
               ·intro w'
                go_simp
                with_reducible rfl
               rotate_left
               ·simp only [Act.put, sqA, sqB, sqC, i64_w, i32_w]
                rfl
               refine sqP (i := 35) (N := some 47) (v := ?_) (a' := ?_) #[I,I,I,I,I,I,I,I,I,I,I,I,I,I,I,I,I,I,I,I,I,I,I,I,I,I,I,I,I,I,I,I,I,I,I,I,O,O,O,O,O,O] rfl rfl HT_.out (Or.inl ⟨by rfl, ?_⟩) ?_ ?_
               rotate_left
               ·intro w'
                go_simp
                with_reducible rfl
               rotate_left
               ·simp only [Act.put, sqA, sqB, sqC, i64_w, i32_w]
                rfl
               refine take_ (i := 36) (N := some 48) (v := ?_) (a' := ?_) #[I,I,I,I,I,I,I,I,I,I,I,I,I,I,I,I,I,I,I,I,I,I,I,I,I,I,I,I,I,I,I,I,I,I,I,I,I,O,O,O,O,O] rfl rfl (take_ofW HT_.out HW_.out (by kernel_rfl)) (fun _ _ _ h => h) (Or.inl ⟨by rfl, ?_⟩) hHeld ?_ ?_
               rotate_left
               ·rintro w' ⟨s0, s1, s2, s3, s4, s5, s6, s7⟩
                go_simp
                with_reducible rfl
               rotate_left
               ·simp only [Act.put, sqA, sqB, sqC, i64_w, i32_w]
                rfl
               refine take_ (i := 37) (N := some 49) (v := ?_) (a' := ?_) #[I,I,I,I,I,I,I,I,I,I,I,I,I,I,I,I,I,I,I,I,I,I,I,I,I,I,I,I,I,I,I,I,I,I,I,I,I,I,O,O,O,O] rfl rfl (take_ofW HT_.out HW_.out (by kernel_rfl)) (fun _ _ _ h => h) (Or.inl ⟨by rfl, ?_⟩) hHeld ?_ ?_
               rotate_left
               ·rintro w' ⟨s0, s1, s2, s3, s4, s5, s6, s7⟩
                go_simp
                with_reducible rfl
               rotate_left
               ·simp only [Act.put, sqA, sqB, sqC, i64_w, i32_w]
                rfl
               refine one_ (i := 38) (N := some 50) #[I,I,I,I,I,I,I,I,I,I,I,I,I,I,I,I,I,I,I,I,I,I,I,I,I,I,I,I,I,I,I,I,I,I,I,I,I,I,I,O,O,O] rfl rfl (one_of HT_.out (by kernel_rfl)) (by decide) (fun K hK => ?_)
               refine goes_ Tryz.func95 (by kernel_rfl) rfl #[.agg #[.string ((rd_T43 l0 (ji25)).f0), .string ((rd_T43 l0 (ji25)).f1), .int .i64 ((rd_T43 l0 (ji25)).f2.f0), .int .i64 ((rd_T43 l0 (ji25)).f2.f1)], .agg #[.string ((rd_T43 l0 x7_1).f0), .string ((rd_T43 l0 x7_1).f1), .int .i64 ((rd_T43 l0 x7_1).f2.f0), .int .i64 ((rd_T43 l0 x7_1).f2.f1)]] (by rfl) rfl rfl (by (try simp only [List.map_toArray, List.map_cons, List.map_nil]); first | done | (simp only [hji25]; rfl) | rfl | (simp only [List.length_drop, List.length_take]; rfl)) ?_
               with_reducible refine (pair_Less.calls k1 ((rd_T43 l0 (ji25)).f0) ((rd_T43 l0 (ji25)).f1) ((rd_T43 l0 (ji25)).f2.f0) ((rd_T43 l0 (ji25)).f2.f1) ((rd_T43 l0 x7_1).f0) ((rd_T43 l0 x7_1).f1) ((rd_T43 l0 x7_1).f2.f0) ((rd_T43 l0 x7_1).f2.f1) true _ A28.out).mono ?_
               rintro e w34 ⟨rfl, hb⟩
               refine ⟨_, rfl, ?_⟩
               have n0_ := Aside0.mk (blk_below (g := gb131) (o := .cells #[.string ((rd_T43 l0 x7_1).f0), .string ((rd_T43 l0 x7_1).f1), .int .i64 ((rd_T43 l0 x7_1).f2.f0), .int .i64 ((rd_T43 l0 x7_1).f2.f1)] 43 (0, 0)) (by (with_reducible repeat (first | apply blN | apply blD | apply blA)); exact BK131.out) hb)
               have n1_ := Aside0.mk (below_step (by repeat (first | (with_reducible first | exact HB.out | apply below_alloc | apply pw_below_drewN | apply below_drew1 | refine below_set ?_ GE131.out) | exact HB.out)) hb)
               clear BK131
               clear HB
               have BK131 := n0_
               have HB := n1_
               clear n0_ n1_
               (try clear hb)
               (try clear hb2)
               (try clear hk)
               (try clear hi)
               refine hK.out _ _ ⟨(blk_cell BK131.out 0).trans rfl, (blk_cell BK131.out 1).trans rfl, (blk_cell BK131.out 2).trans rfl, (blk_cell BK131.out 3).trans rfl, ((HB.out.cell (World.block_lt_of_cell? w _ hw134_0)).trans hw134_0), ((HB.out.cell (World.block_lt_of_cell? w _ hw134_1)).trans hw134_1), ((HB.out.cell (World.block_lt_of_cell? w _ hw134_2)).trans hw134_2), ((HB.out.cell (World.block_lt_of_cell? w _ hw134_3)).trans hw134_3)⟩ (fun hHeld => ?_)
               clear hK K
               refine norm_ (a' := ?_) ?_ ?_
               rotate_left
               ·show Act.put _ (some 50) _ = _
                simp only [Act.put, sqA, sqB, sqC, i64_w, i32_w]
                rfl
               refine sqP (i := 39) (N := some 51) (v := ?_) (a' := ?_) #[I,I,I,I,I,I,I,I,I,I,I,I,I,I,I,I,I,I,I,I,I,I,I,I,I,I,I,I,I,I,I,I,I,I,I,I,I,I,I,I,O,O] rfl rfl HT_.out (Or.inl ⟨by rfl, ?_⟩) ?_ ?_
               rotate_left
               ·intro w'
                go_simp
                with_reducible rfl
               rotate_left
               ·simp only [Act.put, sqA, sqB, sqC, i64_w, i32_w]
                rfl
               refine sqP (i := 40) (N := some 52) (v := ?_) (a' := ?_) #[I,I,I,I,I,I,I,I,I,I,I,I,I,I,I,I,I,I,I,I,I,I,I,I,I,I,I,I,I,I,I,I,I,I,I,I,I,I,I,I,I,O] rfl rfl HT_.out (Or.inl ⟨by rfl, ?_⟩) ?_ ?_
               rotate_left
               ·intro w'
                go_simp
                with_reducible rfl
               rotate_left
               ·simp only [Act.put, sqA, sqB, sqC, i64_w, i32_w]
                rfl
               refine sqP (i := 41) (N := some 53) (v := ?_) (a' := ?_) #[I,I,I,I,I,I,I,I,I,I,I,I,I,I,I,I,I,I,I,I,I,I,I,I,I,I,I,I,I,I,I,I,I,I,I,I,I,I,I,I,I,I] rfl rfl HT_.out (Or.inl ⟨by rfl, ?_⟩) ?_ ?_
               rotate_left
               ·intro w'
                go_simp
                with_reducible rfl
               rotate_left
               ·simp only [Act.put, sqA, sqB, sqC, i64_w, i32_w]
                rfl
               refine done_ (done_of HT_.out (by kernel_rfl)) ?_
               try go_wp2
               go_roundg k1
               case measure => have := HK1.out; omega
               case rel => exact ⟨(wrap64 (x7_1 + 1)), (by first | rfl | (simp; done) | (simp [*]; done)), H', ⟨by have := HK1.out; omega⟩, ⟨by repeat (first | (with_reducible first | exact HB.out | apply below_alloc | apply pw_below_drewN | apply below_drew1 | refine below_set ?_ GE131.out) | exact HB.out)⟩⟩
              ·replace c29 := Bool.eq_false_iff.mpr c29
               subst c29
               have H1 : (some false) = some r := by rw [if_neg (show ¬ (false = true) by decide)] at H; exact H
               clear H
               have H := H1
               clear H1
               obtain rfl := Option.some.inj H
               have p130 : 0 ≤ (x7_1 : Int) := of_decide_eq_true (by first | (with_reducible assumption) | assumption)
               have q130 : x7_1 < (l0.length : Int) := of_decide_eq_true (by first | (with_reducible assumption) | assumption)
               obtain ⟨ad130, e130, hx130_0, hx130_1, hx130_2, hx130_3⟩ := at_T43 HR0.out x7_1 p130 q130
               cases e130
               replace hx130_0 := (HB.out.cell (World.block_lt_of_cell? w _ hx130_0)).trans hx130_0
               replace hx130_1 := (HB.out.cell (World.block_lt_of_cell? w _ hx130_1)).trans hx130_1
               replace hx130_2 := (HB.out.cell (World.block_lt_of_cell? w _ hx130_2)).trans hx130_2
               replace hx130_3 := (HB.out.cell (World.block_lt_of_cell? w _ hx130_3)).trans hx130_3
               replace p130 := eq_true p130
               replace q130 := eq_true q130
               try go_wp2_with (first | ((with_reducible refine gate_dst (N := 4) rfl ?_); refine box_event ?hg (N := 4) ?hd (cs := #[.string (⟨#[]⟩ : ByteArray), .string (⟨#[]⟩ : ByteArray), .int .i64 0, .int .i64 0]) (t := 43) ?hr ?_; (case hd => rfl); (case hg => rfl); (case hr => first | (go_simp; done) | (go_simp; rfl)); intro gb131 hg w35 hbox hb; have n0_ := Aside0.mk (below_step (by repeat (first | (with_reducible first | exact HB.out | apply below_alloc | apply pw_below_drewN | apply below_drew1) | exact HB.out)) hb); have n1_ := Aside0.mk (hbox); have n2_ := Aside0.mk ((by rw [hg]; exact (below_size (by repeat (first | (with_reducible first | exact HB.out | apply below_alloc | apply pw_below_drewN | apply below_drew1) | exact HB.out))) : w.heap.size ≤ gb131)); have n3_ := Aside0.mk ((by rw [hg]; exact (below_size (by repeat (first | (with_reducible first | exact HB.out | apply below_alloc | apply pw_below_drewN | apply below_drew1) | exact HB.out))) : w.heap.size ≤ gb131)); clear HB; have HB := n0_; have BK131 := n1_; have GW131 := n2_; have GE131 := n3_; clear n0_ n1_ n2_ n3_; clear hb hbox hg; have hcz36_0 : w35.cell? ⟨gb131, 0, none⟩ = some (.string (⟨#[]⟩ : ByteArray)) := (blk_cell BK131.out 0).trans rfl; have hcz36_1 : w35.cell? ⟨gb131, 1, none⟩ = some (.string (⟨#[]⟩ : ByteArray)) := (blk_cell BK131.out 1).trans rfl; have hcz36_2 : w35.cell? ⟨gb131, 2, none⟩ = some (.int .i64 0) := (blk_cell BK131.out 2).trans rfl; have hcz36_3 : w35.cell? ⟨gb131, 3, none⟩ = some (.int .i64 0) := (blk_cell BK131.out 3).trans rfl; have hfz36_0 := blk_frozen BK131.out 0; have hfz36_1 := blk_frozen BK131.out 1; have hfz36_2 := blk_frozen BK131.out 2; have hfz36_3 := blk_frozen BK131.out 3))
               have n0_ : Aside0 (((((w35.setCell ⟨gb131, 0, none⟩ (.string ((rd_T43 l0 x7_1).f0))).setCell ⟨gb131, 1, none⟩ (.string ((rd_T43 l0 x7_1).f1))).setCell ⟨gb131, 2, none⟩ (.int .i64 ((rd_T43 l0 x7_1).f2.f0))).setCell ⟨gb131, 3, none⟩ (.int .i64 ((rd_T43 l0 x7_1).f2.f1))).heap[gb131]? = some (.cells #[.string ((rd_T43 l0 x7_1).f0), .string ((rd_T43 l0 x7_1).f1), .int .i64 ((rd_T43 l0 x7_1).f2.f0), .int .i64 ((rd_T43 l0 x7_1).f2.f1)] 43 (0, 0))) := ⟨by (with_reducible repeat (first | apply blN | apply blD | apply blA)); refine blk_put (cs := #[.string ((rd_T43 l0 x7_1).f0), .string ((rd_T43 l0 x7_1).f1), .int .i64 ((rd_T43 l0 x7_1).f2.f0), .int .i64 0]) ?_ 3 _ rfl; (with_reducible repeat (first | apply blN | apply blD | apply blA)); refine blk_put (cs := #[.string ((rd_T43 l0 x7_1).f0), .string ((rd_T43 l0 x7_1).f1), .int .i64 0, .int .i64 0]) ?_ 2 _ rfl; (with_reducible repeat (first | apply blN | apply blD | apply blA)); refine blk_put (cs := #[.string ((rd_T43 l0 x7_1).f0), .string (⟨#[]⟩ : ByteArray), .int .i64 0, .int .i64 0]) ?_ 1 _ rfl; (with_reducible repeat (first | apply blN | apply blD | apply blA)); refine blk_put (cs := #[.string (⟨#[]⟩ : ByteArray), .string (⟨#[]⟩ : ByteArray), .int .i64 0, .int .i64 0]) ?_ 0 _ rfl; (with_reducible repeat (first | apply blN | apply blD | apply blA)); exact BK131.out⟩
               have n1_ : Aside0 (Below w.heap.size w ((((w35.setCell ⟨gb131, 0, none⟩ (.string ((rd_T43 l0 x7_1).f0))).setCell ⟨gb131, 1, none⟩ (.string ((rd_T43 l0 x7_1).f1))).setCell ⟨gb131, 2, none⟩ (.int .i64 ((rd_T43 l0 x7_1).f2.f0))).setCell ⟨gb131, 3, none⟩ (.int .i64 ((rd_T43 l0 x7_1).f2.f1)))) := ⟨by repeat (first | (with_reducible first | exact HB.out | apply below_alloc | apply pw_below_drewN | apply below_drew1 | refine below_set ?_ GE131.out) | exact HB.out)⟩
               (try clear BK131)
               (try clear HB)
               generalize ((((w35.setCell ⟨gb131, 0, none⟩ (.string ((rd_T43 l0 x7_1).f0))).setCell ⟨gb131, 1, none⟩ (.string ((rd_T43 l0 x7_1).f1))).setCell ⟨gb131, 2, none⟩ (.int .i64 ((rd_T43 l0 x7_1).f2.f0))).setCell ⟨gb131, 3, none⟩ (.int .i64 ((rd_T43 l0 x7_1).f2.f1))) = w37 at n0_ n1_ ⊢
               have BK131 := n0_
               have HB := n1_
               clear n0_ n1_
               have n0_ := Aside0.mk (blk_drew BK131.out)
               have n1_ := Aside0.mk (below_drew1 HB.out)
               clear BK131
               clear HB
               have BK131 := n0_
               have HB := n1_
               clear n0_ n1_
               have p134 : 0 ≤ ((ji25) : Int) := of_decide_eq_true (by first | (with_reducible assumption) | assumption)
               have q134 : (ji25) < (l0.length : Int) := of_decide_eq_true (by first | (with_reducible assumption) | assumption)
               obtain ⟨ad134, e134, hx134_0, hx134_1, hx134_2, hx134_3⟩ := at_T43 HR0.out (ji25) p134 q134
               have hw134_3 := hx134_3
               have hw134_2 := hx134_2
               have hw134_1 := hx134_1
               have hw134_0 := hx134_0
               obtain rfl : ad130 = ad134 := (by injection e134)
               replace hx134_0 := (HB.out.cell (World.block_lt_of_cell? w _ hx134_0)).trans hx134_0
               replace hx134_1 := (HB.out.cell (World.block_lt_of_cell? w _ hx134_1)).trans hx134_1
               replace hx134_2 := (HB.out.cell (World.block_lt_of_cell? w _ hx134_2)).trans hx134_2
               replace hx134_3 := (HB.out.cell (World.block_lt_of_cell? w _ hx134_3)).trans hx134_3
               replace p134 := eq_true p134
               replace q134 := eq_true q134
               refine start_ (n := 42) (S := fun w' => w'.cell? ⟨gb131, 0, none⟩ = some (.string ((rd_T43 l0 x7_1).f0)) ∧ w'.cell? ⟨gb131, 1, none⟩ = some (.string ((rd_T43 l0 x7_1).f1)) ∧ w'.cell? ⟨gb131, 2, none⟩ = some (.int .i64 ((rd_T43 l0 x7_1).f2.f0)) ∧ w'.cell? ⟨gb131, 3, none⟩ = some (.int .i64 ((rd_T43 l0 x7_1).f2.f1)) ∧ w'.cell? (ad130.add (((ji25)).toNat * 4)) = some (.string ((rd_T43 l0 (ji25)).f0)) ∧ w'.cell? ⟨(ad130.add (((ji25)).toNat * 4)).block, (ad130.add (((ji25)).toNat * 4)).off + 1, none⟩ = some (.string ((rd_T43 l0 (ji25)).f1)) ∧ w'.cell? ⟨(ad130.add (((ji25)).toNat * 4)).block, (ad130.add (((ji25)).toNat * 4)).off + 2, none⟩ = some (.int .i64 ((rd_T43 l0 (ji25)).f2.f0)) ∧ w'.cell? ⟨(ad130.add (((ji25)).toNat * 4)).block, (ad130.add (((ji25)).toNat * 4)).off + 3, none⟩ = some (.int .i64 ((rd_T43 l0 (ji25)).f2.f1))) (ds := []) #[O,O,O,O,O,O,O,O,O,O,O,O,O,O,O,O,O,O,O,O,O,O,O,O,O,O,O,O,O,O,O,O,O,O,O,O,O,O,O,O,O,O] (by kernel_rfl) rfl rfl ⟨(blk_cell BK131.out 0).trans rfl, (blk_cell BK131.out 1).trans rfl, (blk_cell BK131.out 2).trans rfl, (blk_cell BK131.out 3).trans rfl, ((HB.out.cell (World.block_lt_of_cell? w _ hw134_0)).trans hw134_0), ((HB.out.cell (World.block_lt_of_cell? w _ hw134_1)).trans hw134_1), ((HB.out.cell (World.block_lt_of_cell? w _ hw134_2)).trans hw134_2), ((HB.out.cell (World.block_lt_of_cell? w _ hw134_3)).trans hw134_3)⟩ (fun hHeld => ?_); refine with_tabW pair_May.tab4 pair_May.bits4 (fun HT_ HW_ => ?_)
               generalize w37.drew = w38 at BK131 HB hx134_0 hx134_1 hx134_2 hx134_3 hHeld ⊢
               refine sqP (i := 0) (N := some 12) (v := ?_) (a' := ?_) #[I,O,O,O,O,O,O,O,O,O,O,O,O,O,O,O,O,O,O,O,O,O,O,O,O,O,O,O,O,O,O,O,O,O,O,O,O,O,O,O,O,O] rfl rfl HT_.out (Or.inl ⟨by rfl, ?_⟩) ?_ ?_
               rotate_left
               ·intro w'
                go_simp
                with_reducible rfl
               rotate_left
               ·simp only [Act.put, sqA, sqB, sqC, i64_w, i32_w]
                rfl
               refine take_ (i := 1) (N := some 13) (v := ?_) (a' := ?_) #[I,I,O,O,O,O,O,O,O,O,O,O,O,O,O,O,O,O,O,O,O,O,O,O,O,O,O,O,O,O,O,O,O,O,O,O,O,O,O,O,O,O] rfl rfl (take_ofW HT_.out HW_.out (by kernel_rfl)) (fun _ _ _ h => h) (Or.inl ⟨by rfl, ?_⟩) hHeld ?_ ?_
               rotate_left
               ·rintro w' ⟨s0, s1, s2, s3, s4, s5, s6, s7⟩
                go_simp
                with_reducible rfl
               rotate_left
               ·simp only [Act.put, sqA, sqB, sqC, i64_w, i32_w]
                rfl
               refine one_ (i := 2) (N := some 14) #[I,I,I,O,O,O,O,O,O,O,O,O,O,O,O,O,O,O,O,O,O,O,O,O,O,O,O,O,O,O,O,O,O,O,O,O,O,O,O,O,O,O] rfl rfl (one_of HT_.out (by kernel_rfl)) (by decide) (fun K hK => ?_)
               refine goes_ Tryz.func76 (by kernel_rfl) rfl #[.string ((rd_T43 l0 x7_1).f0)] (by rfl) rfl rfl (by (try simp only [List.map_toArray, List.map_cons, List.map_nil]); first | done | rfl | (simp only [List.length_drop, List.length_take]; rfl)) ?_
               with_reducible refine (ops_Key.calls ((rd_T43 l0 x7_1).f0) true _ A5.out).mono ?_
               rintro e w' ⟨rfl, ⟨nd, rfl⟩⟩
               refine ⟨_, rfl, ?_⟩
               refine hK.out _ _ ⟨(blk_cell BK131.out 0).trans rfl, (blk_cell BK131.out 1).trans rfl, (blk_cell BK131.out 2).trans rfl, (blk_cell BK131.out 3).trans rfl, ((HB.out.cell (World.block_lt_of_cell? w _ hw134_0)).trans hw134_0), ((HB.out.cell (World.block_lt_of_cell? w _ hw134_1)).trans hw134_1), ((HB.out.cell (World.block_lt_of_cell? w _ hw134_2)).trans hw134_2), ((HB.out.cell (World.block_lt_of_cell? w _ hw134_3)).trans hw134_3)⟩ (fun hHeld => ?_)
               clear hK K
               refine norm_ (a' := ?_) ?_ ?_
               rotate_left
               ·show Act.put _ (some 14) _ = _
                simp only [Act.put, sqA, sqB, sqC, i64_w, i32_w]
                rfl
               refine sqP (i := 3) (N := some 15) (v := ?_) (a' := ?_) #[I,I,I,I,O,O,O,O,O,O,O,O,O,O,O,O,O,O,O,O,O,O,O,O,O,O,O,O,O,O,O,O,O,O,O,O,O,O,O,O,O,O] rfl rfl HT_.out (Or.inl ⟨by rfl, ?_⟩) ?_ ?_
               rotate_left
               ·intro w'
                go_simp
                with_reducible rfl
               rotate_left
               ·simp only [Act.put, sqA, sqB, sqC, i64_w, i32_w]
                rfl
               refine sqP (i := 4) (N := some 16) (v := ?_) (a' := ?_) #[I,I,I,I,I,O,O,O,O,O,O,O,O,O,O,O,O,O,O,O,O,O,O,O,O,O,O,O,O,O,O,O,O,O,O,O,O,O,O,O,O,O] rfl rfl HT_.out (Or.inl ⟨by rfl, ?_⟩) ?_ ?_
               rotate_left
               ·intro w'
                go_simp
                with_reducible rfl
               rotate_left
               ·simp only [Act.put, sqA, sqB, sqC, i64_w, i32_w]
                rfl
               refine sqP (i := 5) (N := some 17) (v := ?_) (a' := ?_) #[I,I,I,I,I,I,O,O,O,O,O,O,O,O,O,O,O,O,O,O,O,O,O,O,O,O,O,O,O,O,O,O,O,O,O,O,O,O,O,O,O,O] rfl rfl HT_.out (Or.inl ⟨by rfl, ?_⟩) ?_ ?_
               rotate_left
               ·intro w'
                go_simp
                with_reducible rfl
               rotate_left
               ·simp only [Act.put, sqA, sqB, sqC, i64_w, i32_w]
                rfl
               refine take_ (i := 6) (N := some 18) (v := ?_) (a' := ?_) #[I,I,I,I,I,I,I,O,O,O,O,O,O,O,O,O,O,O,O,O,O,O,O,O,O,O,O,O,O,O,O,O,O,O,O,O,O,O,O,O,O,O] rfl rfl (take_ofW HT_.out HW_.out (by kernel_rfl)) (fun _ _ _ h => h) (Or.inl ⟨by rfl, ?_⟩) hHeld ?_ ?_
               rotate_left
               ·rintro w' ⟨s0, s1, s2, s3, s4, s5, s6, s7⟩
                go_simp
                with_reducible rfl
               rotate_left
               ·simp only [Act.put, sqA, sqB, sqC, i64_w, i32_w]
                rfl
               refine one_ (i := 7) (N := some 19) #[I,I,I,I,I,I,I,I,O,O,O,O,O,O,O,O,O,O,O,O,O,O,O,O,O,O,O,O,O,O,O,O,O,O,O,O,O,O,O,O,O,O] rfl rfl (one_of HT_.out (by kernel_rfl)) (by decide) (fun K hK => ?_)
               refine goes_ Tryz.func76 (by kernel_rfl) rfl #[.string ((rd_T43 l0 x7_1).f1)] (by rfl) rfl rfl (by (try simp only [List.map_toArray, List.map_cons, List.map_nil]); first | done | rfl | (simp only [List.length_drop, List.length_take]; rfl)) ?_
               with_reducible refine (ops_Key.calls ((rd_T43 l0 x7_1).f1) true _ A7.out).mono ?_
               rintro e w' ⟨rfl, ⟨nd, rfl⟩⟩
               refine ⟨_, rfl, ?_⟩
               refine hK.out _ _ ⟨(blk_cell BK131.out 0).trans rfl, (blk_cell BK131.out 1).trans rfl, (blk_cell BK131.out 2).trans rfl, (blk_cell BK131.out 3).trans rfl, ((HB.out.cell (World.block_lt_of_cell? w _ hw134_0)).trans hw134_0), ((HB.out.cell (World.block_lt_of_cell? w _ hw134_1)).trans hw134_1), ((HB.out.cell (World.block_lt_of_cell? w _ hw134_2)).trans hw134_2), ((HB.out.cell (World.block_lt_of_cell? w _ hw134_3)).trans hw134_3)⟩ (fun hHeld => ?_)
               clear hK K
               refine norm_ (a' := ?_) ?_ ?_
               rotate_left
               ·show Act.put _ (some 19) _ = _
                simp only [Act.put, sqA, sqB, sqC, i64_w, i32_w]
                rfl
               refine sqP (i := 8) (N := some 20) (v := ?_) (a' := ?_) #[I,I,I,I,I,I,I,I,I,O,O,O,O,O,O,O,O,O,O,O,O,O,O,O,O,O,O,O,O,O,O,O,O,O,O,O,O,O,O,O,O,O] rfl rfl HT_.out (Or.inl ⟨by rfl, ?_⟩) ?_ ?_
               rotate_left
               ·intro w'
                go_simp
                with_reducible rfl
               rotate_left
               ·simp only [Act.put, sqA, sqB, sqC, i64_w, i32_w]
                rfl
               refine sqP (i := 9) (N := some 21) (v := ?_) (a' := ?_) #[I,I,I,I,I,I,I,I,I,I,O,O,O,O,O,O,O,O,O,O,O,O,O,O,O,O,O,O,O,O,O,O,O,O,O,O,O,O,O,O,O,O] rfl rfl HT_.out (Or.inl ⟨by rfl, ?_⟩) ?_ ?_
               rotate_left
               ·intro w'
                go_simp
                with_reducible rfl
               rotate_left
               ·simp only [Act.put, sqA, sqB, sqC, i64_w, i32_w]
                rfl
               refine sqP (i := 10) (N := some 22) (v := ?_) (a' := ?_) #[I,I,I,I,I,I,I,I,I,I,I,O,O,O,O,O,O,O,O,O,O,O,O,O,O,O,O,O,O,O,O,O,O,O,O,O,O,O,O,O,O,O] rfl rfl HT_.out (Or.inl ⟨by rfl, ?_⟩) ?_ ?_
               rotate_left
               ·intro w'
                go_simp
                with_reducible rfl
               rotate_left
               ·simp only [Act.put, sqA, sqB, sqC, i64_w, i32_w]
                rfl
               refine sqP (i := 11) (N := some 23) (v := ?_) (a' := ?_) #[I,I,I,I,I,I,I,I,I,I,I,I,O,O,O,O,O,O,O,O,O,O,O,O,O,O,O,O,O,O,O,O,O,O,O,O,O,O,O,O,O,O] rfl rfl HT_.out (Or.inl ⟨by rfl, ?_⟩) ?_ ?_
               rotate_left
               ·intro w'
                go_simp
                with_reducible rfl
               rotate_left
               ·simp only [Act.put, sqA, sqB, sqC, i64_w, i32_w]
                rfl
               refine sqP (i := 12) (N := some 24) (v := ?_) (a' := ?_) #[I,I,I,I,I,I,I,I,I,I,I,I,I,O,O,O,O,O,O,O,O,O,O,O,O,O,O,O,O,O,O,O,O,O,O,O,O,O,O,O,O,O] rfl rfl HT_.out (Or.inl ⟨by rfl, ?_⟩) ?_ ?_
               rotate_left
               ·intro w'
                go_simp
                with_reducible rfl
               rotate_left
               ·simp only [Act.put, sqA, sqB, sqC, i64_w, i32_w]
                rfl
               refine take_ (i := 13) (N := some 25) (v := ?_) (a' := ?_) #[I,I,I,I,I,I,I,I,I,I,I,I,I,I,O,O,O,O,O,O,O,O,O,O,O,O,O,O,O,O,O,O,O,O,O,O,O,O,O,O,O,O] rfl rfl (take_ofW HT_.out HW_.out (by kernel_rfl)) (fun _ _ _ h => h) (Or.inl ⟨by rfl, ?_⟩) hHeld ?_ ?_
               rotate_left
               ·rintro w' ⟨s0, s1, s2, s3, s4, s5, s6, s7⟩
                go_simp
                with_reducible rfl
               rotate_left
               ·simp only [Act.put, sqA, sqB, sqC, i64_w, i32_w]
                rfl
               refine sqP (i := 14) (N := some 26) (v := ?_) (a' := ?_) #[I,I,I,I,I,I,I,I,I,I,I,I,I,I,I,O,O,O,O,O,O,O,O,O,O,O,O,O,O,O,O,O,O,O,O,O,O,O,O,O,O,O] rfl rfl HT_.out (Or.inl ⟨by rfl, ?_⟩) ?_ ?_
               rotate_left
               ·intro w'
                go_simp
                with_reducible rfl
               rotate_left
               ·simp only [Act.put, sqA, sqB, sqC, i64_w, i32_w]
                rfl
               refine sqP (i := 15) (N := some 27) (v := ?_) (a' := ?_) #[I,I,I,I,I,I,I,I,I,I,I,I,I,I,I,I,O,O,O,O,O,O,O,O,O,O,O,O,O,O,O,O,O,O,O,O,O,O,O,O,O,O] rfl rfl HT_.out (Or.inl ⟨by rfl, ?_⟩) ?_ ?_
               rotate_left
               ·intro w'
                go_simp
                with_reducible rfl
               rotate_left
               ·simp only [Act.put, sqA, sqB, sqC, i64_w, i32_w]
                rfl
               refine sqP (i := 16) (N := some 28) (v := ?_) (a' := ?_) #[I,I,I,I,I,I,I,I,I,I,I,I,I,I,I,I,I,O,O,O,O,O,O,O,O,O,O,O,O,O,O,O,O,O,O,O,O,O,O,O,O,O] rfl rfl HT_.out (Or.inl ⟨by rfl, ?_⟩) ?_ ?_
               rotate_left
               ·intro w'
                go_simp
                with_reducible rfl
               rotate_left
               ·simp only [Act.put, sqA, sqB, sqC, i64_w, i32_w]
                rfl
               refine sqP (i := 17) (N := some 29) (v := ?_) (a' := ?_) #[I,I,I,I,I,I,I,I,I,I,I,I,I,I,I,I,I,I,O,O,O,O,O,O,O,O,O,O,O,O,O,O,O,O,O,O,O,O,O,O,O,O] rfl rfl HT_.out (Or.inl ⟨by rfl, ?_⟩) ?_ ?_
               rotate_left
               ·intro w'
                go_simp
                with_reducible rfl
               rotate_left
               ·simp only [Act.put, sqA, sqB, sqC, i64_w, i32_w]
                rfl
               refine sqP (i := 18) (N := some 30) (v := ?_) (a' := ?_) #[I,I,I,I,I,I,I,I,I,I,I,I,I,I,I,I,I,I,I,O,O,O,O,O,O,O,O,O,O,O,O,O,O,O,O,O,O,O,O,O,O,O] rfl rfl HT_.out (Or.inl ⟨by rfl, ?_⟩) ?_ ?_
               rotate_left
               ·intro w'
                go_simp
                with_reducible rfl
               rotate_left
               ·simp only [Act.put, sqA, sqB, sqC, i64_w, i32_w]
                rfl
               refine take_ (i := 19) (N := some 31) (v := ?_) (a' := ?_) #[I,I,I,I,I,I,I,I,I,I,I,I,I,I,I,I,I,I,I,I,O,O,O,O,O,O,O,O,O,O,O,O,O,O,O,O,O,O,O,O,O,O] rfl rfl (take_ofW HT_.out HW_.out (by kernel_rfl)) (fun _ _ _ h => h) (Or.inl ⟨by rfl, ?_⟩) hHeld ?_ ?_
               rotate_left
               ·rintro w' ⟨s0, s1, s2, s3, s4, s5, s6, s7⟩
                go_simp
                with_reducible rfl
               rotate_left
               ·simp only [Act.put, sqA, sqB, sqC, i64_w, i32_w]
                rfl
               refine sqP (i := 20) (N := some 32) (v := ?_) (a' := ?_) #[I,I,I,I,I,I,I,I,I,I,I,I,I,I,I,I,I,I,I,I,I,O,O,O,O,O,O,O,O,O,O,O,O,O,O,O,O,O,O,O,O,O] rfl rfl HT_.out (Or.inl ⟨by rfl, ?_⟩) ?_ ?_
               rotate_left
               ·intro w'
                go_simp
                with_reducible rfl
               rotate_left
               ·simp only [Act.put, sqA, sqB, sqC, i64_w, i32_w]
                rfl
               refine sqP (i := 21) (N := some 33) (v := ?_) (a' := ?_) #[I,I,I,I,I,I,I,I,I,I,I,I,I,I,I,I,I,I,I,I,I,I,O,O,O,O,O,O,O,O,O,O,O,O,O,O,O,O,O,O,O,O] rfl rfl HT_.out (Or.inl ⟨by rfl, ?_⟩) ?_ ?_
               rotate_left
               ·intro w'
                go_simp
                with_reducible rfl
               rotate_left
               ·simp only [Act.put, sqA, sqB, sqC, i64_w, i32_w]
                rfl
               refine sqP (i := 22) (N := some 34) (v := ?_) (a' := ?_) #[I,I,I,I,I,I,I,I,I,I,I,I,I,I,I,I,I,I,I,I,I,I,I,O,O,O,O,O,O,O,O,O,O,O,O,O,O,O,O,O,O,O] rfl rfl HT_.out (Or.inl ⟨by rfl, ?_⟩) ?_ ?_
               rotate_left
               ·intro w'
                go_simp
                with_reducible rfl
               rotate_left
               ·simp only [Act.put, sqA, sqB, sqC, i64_w, i32_w]
                rfl
               refine sqP (i := 23) (N := some 35) (v := ?_) (a' := ?_) #[I,I,I,I,I,I,I,I,I,I,I,I,I,I,I,I,I,I,I,I,I,I,I,I,O,O,O,O,O,O,O,O,O,O,O,O,O,O,O,O,O,O] rfl rfl HT_.out (Or.inl ⟨by rfl, ?_⟩) ?_ ?_
               rotate_left
               ·intro w'
                go_simp
                with_reducible rfl
               rotate_left
               ·simp only [Act.put, sqA, sqB, sqC, i64_w, i32_w]
                rfl
               refine sqP (i := 24) (N := some 36) (v := ?_) (a' := ?_) #[I,I,I,I,I,I,I,I,I,I,I,I,I,I,I,I,I,I,I,I,I,I,I,I,I,O,O,O,O,O,O,O,O,O,O,O,O,O,O,O,O,O] rfl rfl HT_.out (Or.inl ⟨by rfl, ?_⟩) ?_ ?_
               rotate_left
               ·intro w'
                go_simp
                with_reducible rfl
               rotate_left
               ·simp only [Act.put, sqA, sqB, sqC, i64_w, i32_w]
                rfl
               refine take_ (i := 25) (N := some 37) (v := ?_) (a' := ?_) #[I,I,I,I,I,I,I,I,I,I,I,I,I,I,I,I,I,I,I,I,I,I,I,I,I,I,O,O,O,O,O,O,O,O,O,O,O,O,O,O,O,O] rfl rfl (take_ofW HT_.out HW_.out (by kernel_rfl)) (fun _ _ _ h => h) (Or.inl ⟨by rfl, ?_⟩) hHeld ?_ ?_
               rotate_left
               ·rintro w' ⟨s0, s1, s2, s3, s4, s5, s6, s7⟩
                go_simp
                with_reducible rfl
               rotate_left
               ·simp only [Act.put, sqA, sqB, sqC, i64_w, i32_w]
                rfl
               refine sqP (i := 26) (N := some 38) (v := ?_) (a' := ?_) #[I,I,I,I,I,I,I,I,I,I,I,I,I,I,I,I,I,I,I,I,I,I,I,I,I,I,I,O,O,O,O,O,O,O,O,O,O,O,O,O,O,O] rfl rfl HT_.out (Or.inl ⟨by rfl, ?_⟩) ?_ ?_
               rotate_left
               ·intro w'
                go_simp
                with_reducible rfl
               rotate_left
               ·simp only [Act.put, sqA, sqB, sqC, i64_w, i32_w]
                rfl
               refine sqP (i := 27) (N := some 39) (v := ?_) (a' := ?_) #[I,I,I,I,I,I,I,I,I,I,I,I,I,I,I,I,I,I,I,I,I,I,I,I,I,I,I,I,O,O,O,O,O,O,O,O,O,O,O,O,O,O] rfl rfl HT_.out (Or.inl ⟨by rfl, ?_⟩) ?_ ?_
               rotate_left
               ·intro w'
                go_simp
                with_reducible rfl
               rotate_left
               ·simp only [Act.put, sqA, sqB, sqC, i64_w, i32_w]
                rfl
               refine sqP (i := 28) (N := some 40) (v := ?_) (a' := ?_) #[I,I,I,I,I,I,I,I,I,I,I,I,I,I,I,I,I,I,I,I,I,I,I,I,I,I,I,I,I,O,O,O,O,O,O,O,O,O,O,O,O,O] rfl rfl HT_.out (Or.inl ⟨by rfl, ?_⟩) ?_ ?_
               rotate_left
               ·intro w'
                go_simp
                with_reducible rfl
               rotate_left
               ·simp only [Act.put, sqA, sqB, sqC, i64_w, i32_w]
                rfl
               refine sqP (i := 29) (N := some 41) (v := ?_) (a' := ?_) #[I,I,I,I,I,I,I,I,I,I,I,I,I,I,I,I,I,I,I,I,I,I,I,I,I,I,I,I,I,I,O,O,O,O,O,O,O,O,O,O,O,O] rfl rfl HT_.out (Or.inl ⟨by rfl, ?_⟩) ?_ ?_
               rotate_left
               ·intro w'
                go_simp
                with_reducible rfl
               rotate_left
               ·simp only [Act.put, sqA, sqB, sqC, i64_w, i32_w]
                rfl
               refine sqP (i := 30) (N := some 42) (v := ?_) (a' := ?_) #[I,I,I,I,I,I,I,I,I,I,I,I,I,I,I,I,I,I,I,I,I,I,I,I,I,I,I,I,I,I,I,O,O,O,O,O,O,O,O,O,O,O] rfl rfl HT_.out (Or.inl ⟨by rfl, ?_⟩) ?_ ?_
               rotate_left
               ·intro w'
                go_simp
                with_reducible rfl
               rotate_left
               ·simp only [Act.put, sqA, sqB, sqC, i64_w, i32_w]
                rfl
               refine sqP (i := 31) (N := some 43) (v := ?_) (a' := ?_) #[I,I,I,I,I,I,I,I,I,I,I,I,I,I,I,I,I,I,I,I,I,I,I,I,I,I,I,I,I,I,I,I,O,O,O,O,O,O,O,O,O,O] rfl rfl HT_.out (Or.inl ⟨by rfl, ?_⟩) ?_ ?_
               rotate_left
               ·intro w'
                go_simp
                with_reducible rfl
               rotate_left
               ·simp only [Act.put, sqA, sqB, sqC, i64_w, i32_w]
                rfl
               refine sqP (i := 32) (N := some 44) (v := ?_) (a' := ?_) #[I,I,I,I,I,I,I,I,I,I,I,I,I,I,I,I,I,I,I,I,I,I,I,I,I,I,I,I,I,I,I,I,I,O,O,O,O,O,O,O,O,O] rfl rfl HT_.out (Or.inl ⟨by rfl, ?_⟩) ?_ ?_
               rotate_left
               ·intro w'
                go_simp
                with_reducible rfl
               rotate_left
               ·simp only [Act.put, sqA, sqB, sqC, i64_w, i32_w]
                rfl
               refine sqP (i := 33) (N := some 45) (v := ?_) (a' := ?_) #[I,I,I,I,I,I,I,I,I,I,I,I,I,I,I,I,I,I,I,I,I,I,I,I,I,I,I,I,I,I,I,I,I,I,O,O,O,O,O,O,O,O] rfl rfl HT_.out (Or.inl ⟨by rfl, ?_⟩) ?_ ?_
               rotate_left
               ·intro w'
                go_simp
                with_reducible rfl
               rotate_left
               ·simp only [Act.put, sqA, sqB, sqC, i64_w, i32_w]
                rfl
               refine sqP (i := 34) (N := some 46) (v := ?_) (a' := ?_) #[I,I,I,I,I,I,I,I,I,I,I,I,I,I,I,I,I,I,I,I,I,I,I,I,I,I,I,I,I,I,I,I,I,I,I,O,O,O,O,O,O,O] rfl rfl HT_.out (Or.inl ⟨by rfl, ?_⟩) ?_ ?_
               rotate_left
               ·intro w'
                go_simp
                with_reducible rfl
               rotate_left
               ·simp only [Act.put, sqA, sqB, sqC, i64_w, i32_w]
                rfl
               refine sqP (i := 35) (N := some 47) (v := ?_) (a' := ?_) #[I,I,I,I,I,I,I,I,I,I,I,I,I,I,I,I,I,I,I,I,I,I,I,I,I,I,I,I,I,I,I,I,I,I,I,I,O,O,O,O,O,O] rfl rfl HT_.out (Or.inl ⟨by rfl, ?_⟩) ?_ ?_
               rotate_left
               ·intro w'
                go_simp
                with_reducible rfl
               rotate_left
               ·simp only [Act.put, sqA, sqB, sqC, i64_w, i32_w]
                rfl
               refine take_ (i := 36) (N := some 48) (v := ?_) (a' := ?_) #[I,I,I,I,I,I,I,I,I,I,I,I,I,I,I,I,I,I,I,I,I,I,I,I,I,I,I,I,I,I,I,I,I,I,I,I,I,O,O,O,O,O] rfl rfl (take_ofW HT_.out HW_.out (by kernel_rfl)) (fun _ _ _ h => h) (Or.inl ⟨by rfl, ?_⟩) hHeld ?_ ?_
               rotate_left
               ·rintro w' ⟨s0, s1, s2, s3, s4, s5, s6, s7⟩
                go_simp
                with_reducible rfl
               rotate_left
               ·simp only [Act.put, sqA, sqB, sqC, i64_w, i32_w]
                rfl
               refine take_ (i := 37) (N := some 49) (v := ?_) (a' := ?_) #[I,I,I,I,I,I,I,I,I,I,I,I,I,I,I,I,I,I,I,I,I,I,I,I,I,I,I,I,I,I,I,I,I,I,I,I,I,I,O,O,O,O] rfl rfl (take_ofW HT_.out HW_.out (by kernel_rfl)) (fun _ _ _ h => h) (Or.inl ⟨by rfl, ?_⟩) hHeld ?_ ?_
               rotate_left
               ·rintro w' ⟨s0, s1, s2, s3, s4, s5, s6, s7⟩
                go_simp
                with_reducible rfl
               rotate_left
               ·simp only [Act.put, sqA, sqB, sqC, i64_w, i32_w]
                rfl
               refine one_ (i := 38) (N := some 50) #[I,I,I,I,I,I,I,I,I,I,I,I,I,I,I,I,I,I,I,I,I,I,I,I,I,I,I,I,I,I,I,I,I,I,I,I,I,I,I,O,O,O] rfl rfl (one_of HT_.out (by kernel_rfl)) (by decide) (fun K hK => ?_)
               refine goes_ Tryz.func95 (by kernel_rfl) rfl #[.agg #[.string ((rd_T43 l0 (ji25)).f0), .string ((rd_T43 l0 (ji25)).f1), .int .i64 ((rd_T43 l0 (ji25)).f2.f0), .int .i64 ((rd_T43 l0 (ji25)).f2.f1)], .agg #[.string ((rd_T43 l0 x7_1).f0), .string ((rd_T43 l0 x7_1).f1), .int .i64 ((rd_T43 l0 x7_1).f2.f0), .int .i64 ((rd_T43 l0 x7_1).f2.f1)]] (by rfl) rfl rfl (by (try simp only [List.map_toArray, List.map_cons, List.map_nil]); first | done | (simp only [hji25]; rfl) | rfl | (simp only [List.length_drop, List.length_take]; rfl)) ?_
               with_reducible refine (pair_Less.calls k1 ((rd_T43 l0 (ji25)).f0) ((rd_T43 l0 (ji25)).f1) ((rd_T43 l0 (ji25)).f2.f0) ((rd_T43 l0 (ji25)).f2.f1) ((rd_T43 l0 x7_1).f0) ((rd_T43 l0 x7_1).f1) ((rd_T43 l0 x7_1).f2.f0) ((rd_T43 l0 x7_1).f2.f1) false _ A28.out).mono ?_
               rintro e w39 ⟨rfl, hb⟩
               refine ⟨_, rfl, ?_⟩
               have n0_ := Aside0.mk (blk_below (g := gb131) (o := .cells #[.string ((rd_T43 l0 x7_1).f0), .string ((rd_T43 l0 x7_1).f1), .int .i64 ((rd_T43 l0 x7_1).f2.f0), .int .i64 ((rd_T43 l0 x7_1).f2.f1)] 43 (0, 0)) (by (with_reducible repeat (first | apply blN | apply blD | apply blA)); exact BK131.out) hb)
               have n1_ := Aside0.mk (below_step (by repeat (first | (with_reducible first | exact HB.out | apply below_alloc | apply pw_below_drewN | apply below_drew1 | refine below_set ?_ GE131.out) | exact HB.out)) hb)
               clear BK131
               clear HB
               have BK131 := n0_
               have HB := n1_
               clear n0_ n1_
               (try clear hb)
               (try clear hb2)
               (try clear hk)
               (try clear hi)
               refine hK.out _ _ ⟨(blk_cell BK131.out 0).trans rfl, (blk_cell BK131.out 1).trans rfl, (blk_cell BK131.out 2).trans rfl, (blk_cell BK131.out 3).trans rfl, ((HB.out.cell (World.block_lt_of_cell? w _ hw134_0)).trans hw134_0), ((HB.out.cell (World.block_lt_of_cell? w _ hw134_1)).trans hw134_1), ((HB.out.cell (World.block_lt_of_cell? w _ hw134_2)).trans hw134_2), ((HB.out.cell (World.block_lt_of_cell? w _ hw134_3)).trans hw134_3)⟩ (fun hHeld => ?_)
               clear hK K
               refine norm_ (a' := ?_) ?_ ?_
               rotate_left
               ·show Act.put _ (some 50) _ = _
                simp only [Act.put, sqA, sqB, sqC, i64_w, i32_w]
                rfl
               refine sqP (i := 39) (N := some 51) (v := ?_) (a' := ?_) #[I,I,I,I,I,I,I,I,I,I,I,I,I,I,I,I,I,I,I,I,I,I,I,I,I,I,I,I,I,I,I,I,I,I,I,I,I,I,I,I,O,O] rfl rfl HT_.out (Or.inl ⟨by rfl, ?_⟩) ?_ ?_
               rotate_left
               ·intro w'
                go_simp
                with_reducible rfl
               rotate_left
               ·simp only [Act.put, sqA, sqB, sqC, i64_w, i32_w]
                rfl
               refine sqP (i := 40) (N := some 52) (v := ?_) (a' := ?_) #[I,I,I,I,I,I,I,I,I,I,I,I,I,I,I,I,I,I,I,I,I,I,I,I,I,I,I,I,I,I,I,I,I,I,I,I,I,I,I,I,I,O] rfl rfl HT_.out (Or.inl ⟨by rfl, ?_⟩) ?_ ?_
               rotate_left
               ·intro w'
                go_simp
                with_reducible rfl
               rotate_left
               ·simp only [Act.put, sqA, sqB, sqC, i64_w, i32_w]
                rfl
               refine sqP (i := 41) (N := some 53) (v := ?_) (a' := ?_) #[I,I,I,I,I,I,I,I,I,I,I,I,I,I,I,I,I,I,I,I,I,I,I,I,I,I,I,I,I,I,I,I,I,I,I,I,I,I,I,I,I,I] rfl rfl HT_.out (Or.inl ⟨by rfl, ?_⟩) ?_ ?_
               rotate_left
               ·intro w'
                go_simp
                with_reducible rfl
               rotate_left
               ·simp only [Act.put, sqA, sqB, sqC, i64_w, i32_w]
                rfl
               refine done_ (done_of HT_.out (by kernel_rfl)) ?_
               try go_wp2
               go_ret
               exact ⟨by first | rfl | (simp [errW_none, errW_some] <;> rfl) | (simp only [← hji25]; first | rfl | (simp [errW_none, errW_some] <;> rfl)) | (simp [*, errW_none, errW_some] <;> rfl), by repeat (first | (with_reducible first | exact HB.out | apply below_alloc | apply pw_below_drewN | apply below_drew1 | refine below_set ?_ GE131.out) | exact HB.out)⟩
             ·rw [if_neg c27] at H
              exact absurd H (by simp)
            ·rw [if_neg c26] at H
             exact absurd H (by simp)
           ·rw [if_neg c24] at H
            have c24b0 : decide (0 < x7_1) = false := decide_eq_false c24
            clear c24
            have H' := Aside0.mk H
            clear H
            have p130 : 0 ≤ (x7_1 : Int) := of_decide_eq_true (by first | (with_reducible assumption) | assumption)
            have q130 : x7_1 < (l0.length : Int) := of_decide_eq_true (by first | (with_reducible assumption) | assumption)
            obtain ⟨ad130, e130, hx130_0, hx130_1, hx130_2, hx130_3⟩ := at_T43 HR0.out x7_1 p130 q130
            cases e130
            replace hx130_0 := (HB.out.cell (World.block_lt_of_cell? w _ hx130_0)).trans hx130_0
            replace hx130_1 := (HB.out.cell (World.block_lt_of_cell? w _ hx130_1)).trans hx130_1
            replace hx130_2 := (HB.out.cell (World.block_lt_of_cell? w _ hx130_2)).trans hx130_2
            replace hx130_3 := (HB.out.cell (World.block_lt_of_cell? w _ hx130_3)).trans hx130_3
            replace p130 := eq_true p130
            replace q130 := eq_true q130
            try go_wp2_with (first | ((with_reducible refine gate_dst (N := 4) rfl ?_); refine box_event ?hg (N := 4) ?hd (cs := #[.string (⟨#[]⟩ : ByteArray), .string (⟨#[]⟩ : ByteArray), .int .i64 0, .int .i64 0]) (t := 43) ?hr ?_; (case hd => rfl); (case hg => rfl); (case hr => first | (go_simp; done) | (go_simp; rfl)); intro gb131 hg w40 hbox hb; have n0_ := Aside0.mk (below_step (by repeat (first | (with_reducible first | exact HB.out | apply below_alloc | apply pw_below_drewN | apply below_drew1) | exact HB.out)) hb); have n1_ := Aside0.mk (hbox); have n2_ := Aside0.mk ((by rw [hg]; exact (below_size (by repeat (first | (with_reducible first | exact HB.out | apply below_alloc | apply pw_below_drewN | apply below_drew1) | exact HB.out))) : w.heap.size ≤ gb131)); have n3_ := Aside0.mk ((by rw [hg]; exact (below_size (by repeat (first | (with_reducible first | exact HB.out | apply below_alloc | apply pw_below_drewN | apply below_drew1) | exact HB.out))) : w.heap.size ≤ gb131)); clear HB; have HB := n0_; have BK131 := n1_; have GW131 := n2_; have GE131 := n3_; clear n0_ n1_ n2_ n3_; clear hb hbox hg; have hcz41_0 : w40.cell? ⟨gb131, 0, none⟩ = some (.string (⟨#[]⟩ : ByteArray)) := (blk_cell BK131.out 0).trans rfl; have hcz41_1 : w40.cell? ⟨gb131, 1, none⟩ = some (.string (⟨#[]⟩ : ByteArray)) := (blk_cell BK131.out 1).trans rfl; have hcz41_2 : w40.cell? ⟨gb131, 2, none⟩ = some (.int .i64 0) := (blk_cell BK131.out 2).trans rfl; have hcz41_3 : w40.cell? ⟨gb131, 3, none⟩ = some (.int .i64 0) := (blk_cell BK131.out 3).trans rfl; have hfz41_0 := blk_frozen BK131.out 0; have hfz41_1 := blk_frozen BK131.out 1; have hfz41_2 := blk_frozen BK131.out 2; have hfz41_3 := blk_frozen BK131.out 3))
            have n0_ : Aside0 (((((w40.setCell ⟨gb131, 0, none⟩ (.string ((rd_T43 l0 x7_1).f0))).setCell ⟨gb131, 1, none⟩ (.string ((rd_T43 l0 x7_1).f1))).setCell ⟨gb131, 2, none⟩ (.int .i64 ((rd_T43 l0 x7_1).f2.f0))).setCell ⟨gb131, 3, none⟩ (.int .i64 ((rd_T43 l0 x7_1).f2.f1))).heap[gb131]? = some (.cells #[.string ((rd_T43 l0 x7_1).f0), .string ((rd_T43 l0 x7_1).f1), .int .i64 ((rd_T43 l0 x7_1).f2.f0), .int .i64 ((rd_T43 l0 x7_1).f2.f1)] 43 (0, 0))) := ⟨by (with_reducible repeat (first | apply blN | apply blD | apply blA)); refine blk_put (cs := #[.string ((rd_T43 l0 x7_1).f0), .string ((rd_T43 l0 x7_1).f1), .int .i64 ((rd_T43 l0 x7_1).f2.f0), .int .i64 0]) ?_ 3 _ rfl; (with_reducible repeat (first | apply blN | apply blD | apply blA)); refine blk_put (cs := #[.string ((rd_T43 l0 x7_1).f0), .string ((rd_T43 l0 x7_1).f1), .int .i64 0, .int .i64 0]) ?_ 2 _ rfl; (with_reducible repeat (first | apply blN | apply blD | apply blA)); refine blk_put (cs := #[.string ((rd_T43 l0 x7_1).f0), .string (⟨#[]⟩ : ByteArray), .int .i64 0, .int .i64 0]) ?_ 1 _ rfl; (with_reducible repeat (first | apply blN | apply blD | apply blA)); refine blk_put (cs := #[.string (⟨#[]⟩ : ByteArray), .string (⟨#[]⟩ : ByteArray), .int .i64 0, .int .i64 0]) ?_ 0 _ rfl; (with_reducible repeat (first | apply blN | apply blD | apply blA)); exact BK131.out⟩
            have n1_ : Aside0 (Below w.heap.size w ((((w40.setCell ⟨gb131, 0, none⟩ (.string ((rd_T43 l0 x7_1).f0))).setCell ⟨gb131, 1, none⟩ (.string ((rd_T43 l0 x7_1).f1))).setCell ⟨gb131, 2, none⟩ (.int .i64 ((rd_T43 l0 x7_1).f2.f0))).setCell ⟨gb131, 3, none⟩ (.int .i64 ((rd_T43 l0 x7_1).f2.f1)))) := ⟨by repeat (first | (with_reducible first | exact HB.out | apply below_alloc | apply pw_below_drewN | apply below_drew1 | refine below_set ?_ GE131.out) | exact HB.out)⟩
            (try clear BK131)
            (try clear HB)
            generalize ((((w40.setCell ⟨gb131, 0, none⟩ (.string ((rd_T43 l0 x7_1).f0))).setCell ⟨gb131, 1, none⟩ (.string ((rd_T43 l0 x7_1).f1))).setCell ⟨gb131, 2, none⟩ (.int .i64 ((rd_T43 l0 x7_1).f2.f0))).setCell ⟨gb131, 3, none⟩ (.int .i64 ((rd_T43 l0 x7_1).f2.f1))) = w42 at n0_ n1_ ⊢
            have BK131 := n0_
            have HB := n1_
            clear n0_ n1_
            have n0_ := Aside0.mk (blk_drew BK131.out)
            have n1_ := Aside0.mk (below_drew1 HB.out)
            clear BK131
            clear HB
            have BK131 := n0_
            have HB := n1_
            clear n0_ n1_
            refine start_ (n := 42) (S := fun w' => w'.cell? ⟨gb131, 0, none⟩ = some (.string ((rd_T43 l0 x7_1).f0)) ∧ w'.cell? ⟨gb131, 1, none⟩ = some (.string ((rd_T43 l0 x7_1).f1)) ∧ w'.cell? ⟨gb131, 2, none⟩ = some (.int .i64 ((rd_T43 l0 x7_1).f2.f0)) ∧ w'.cell? ⟨gb131, 3, none⟩ = some (.int .i64 ((rd_T43 l0 x7_1).f2.f1))) (ds := []) #[O,O,O,O,O,O,O,O,O,O,O,O,O,O,O,O,O,O,O,O,O,O,O,O,O,O,O,O,O,O,O,O,O,O,O,O,O,O,O,O,O,O] (by kernel_rfl) rfl rfl ⟨(blk_cell BK131.out 0).trans rfl, (blk_cell BK131.out 1).trans rfl, (blk_cell BK131.out 2).trans rfl, (blk_cell BK131.out 3).trans rfl⟩ (fun hHeld => ?_); refine with_tabW pair_May.tab4 pair_May.bits4 (fun HT_ HW_ => ?_)
            generalize w42.drew = w43 at BK131 HB hHeld ⊢
            refine sqP (i := 0) (N := some 12) (v := ?_) (a' := ?_) #[I,O,O,O,O,O,O,O,O,O,O,O,O,O,O,O,O,O,O,O,O,O,O,O,O,O,O,O,O,O,O,O,O,O,O,O,O,O,O,O,O,O] rfl rfl HT_.out (Or.inl ⟨by rfl, ?_⟩) ?_ ?_
            rotate_left
            ·intro w'
             go_simp
             with_reducible rfl
            rotate_left
            ·simp only [Act.put, sqA, sqB, sqC, i64_w, i32_w]
             rfl
            refine take_ (i := 1) (N := some 13) (v := ?_) (a' := ?_) #[I,I,O,O,O,O,O,O,O,O,O,O,O,O,O,O,O,O,O,O,O,O,O,O,O,O,O,O,O,O,O,O,O,O,O,O,O,O,O,O,O,O] rfl rfl (take_ofW HT_.out HW_.out (by kernel_rfl)) (fun _ _ _ h => h) (Or.inl ⟨by rfl, ?_⟩) hHeld ?_ ?_
            rotate_left
            ·rintro w' ⟨s0, s1, s2, s3⟩
             go_simp
             with_reducible rfl
            rotate_left
            ·simp only [Act.put, sqA, sqB, sqC, i64_w, i32_w]
             rfl
            refine one_ (i := 2) (N := some 14) #[I,I,I,O,O,O,O,O,O,O,O,O,O,O,O,O,O,O,O,O,O,O,O,O,O,O,O,O,O,O,O,O,O,O,O,O,O,O,O,O,O,O] rfl rfl (one_of HT_.out (by kernel_rfl)) (by decide) (fun K hK => ?_)
            refine goes_ Tryz.func76 (by kernel_rfl) rfl #[.string ((rd_T43 l0 x7_1).f0)] (by rfl) rfl rfl (by (try simp only [List.map_toArray, List.map_cons, List.map_nil]); first | done | rfl | (simp only [List.length_drop, List.length_take]; rfl)) ?_
            with_reducible refine (ops_Key.calls ((rd_T43 l0 x7_1).f0) true _ A5.out).mono ?_
            rintro e w' ⟨rfl, ⟨nd, rfl⟩⟩
            refine ⟨_, rfl, ?_⟩
            refine hK.out _ _ ⟨(blk_cell BK131.out 0).trans rfl, (blk_cell BK131.out 1).trans rfl, (blk_cell BK131.out 2).trans rfl, (blk_cell BK131.out 3).trans rfl⟩ (fun hHeld => ?_)
            clear hK K
            refine norm_ (a' := ?_) ?_ ?_
            rotate_left
            ·show Act.put _ (some 14) _ = _
             simp only [Act.put, sqA, sqB, sqC, i64_w, i32_w]
             rfl
            refine sqP (i := 3) (N := some 15) (v := ?_) (a' := ?_) #[I,I,I,I,O,O,O,O,O,O,O,O,O,O,O,O,O,O,O,O,O,O,O,O,O,O,O,O,O,O,O,O,O,O,O,O,O,O,O,O,O,O] rfl rfl HT_.out (Or.inl ⟨by rfl, ?_⟩) ?_ ?_
            rotate_left
            ·intro w'
             go_simp
             with_reducible rfl
            rotate_left
            ·simp only [Act.put, sqA, sqB, sqC, i64_w, i32_w]
             rfl
            refine sqP (i := 4) (N := some 16) (v := ?_) (a' := ?_) #[I,I,I,I,I,O,O,O,O,O,O,O,O,O,O,O,O,O,O,O,O,O,O,O,O,O,O,O,O,O,O,O,O,O,O,O,O,O,O,O,O,O] rfl rfl HT_.out (Or.inl ⟨by rfl, ?_⟩) ?_ ?_
            rotate_left
            ·intro w'
             go_simp
             with_reducible rfl
            rotate_left
            ·simp only [Act.put, sqA, sqB, sqC, i64_w, i32_w]
             rfl
            refine sqP (i := 5) (N := some 17) (v := ?_) (a' := ?_) #[I,I,I,I,I,I,O,O,O,O,O,O,O,O,O,O,O,O,O,O,O,O,O,O,O,O,O,O,O,O,O,O,O,O,O,O,O,O,O,O,O,O] rfl rfl HT_.out (Or.inl ⟨by rfl, ?_⟩) ?_ ?_
            rotate_left
            ·intro w'
             go_simp
             with_reducible rfl
            rotate_left
            ·simp only [Act.put, sqA, sqB, sqC, i64_w, i32_w]
             rfl
            refine take_ (i := 6) (N := some 18) (v := ?_) (a' := ?_) #[I,I,I,I,I,I,I,O,O,O,O,O,O,O,O,O,O,O,O,O,O,O,O,O,O,O,O,O,O,O,O,O,O,O,O,O,O,O,O,O,O,O] rfl rfl (take_ofW HT_.out HW_.out (by kernel_rfl)) (fun _ _ _ h => h) (Or.inl ⟨by rfl, ?_⟩) hHeld ?_ ?_
            rotate_left
            ·rintro w' ⟨s0, s1, s2, s3⟩
             go_simp
             with_reducible rfl
            rotate_left
            ·simp only [Act.put, sqA, sqB, sqC, i64_w, i32_w]
             rfl
            refine one_ (i := 7) (N := some 19) #[I,I,I,I,I,I,I,I,O,O,O,O,O,O,O,O,O,O,O,O,O,O,O,O,O,O,O,O,O,O,O,O,O,O,O,O,O,O,O,O,O,O] rfl rfl (one_of HT_.out (by kernel_rfl)) (by decide) (fun K hK => ?_)
            refine goes_ Tryz.func76 (by kernel_rfl) rfl #[.string ((rd_T43 l0 x7_1).f1)] (by rfl) rfl rfl (by (try simp only [List.map_toArray, List.map_cons, List.map_nil]); first | done | rfl | (simp only [List.length_drop, List.length_take]; rfl)) ?_
            with_reducible refine (ops_Key.calls ((rd_T43 l0 x7_1).f1) true _ A7.out).mono ?_
            rintro e w' ⟨rfl, ⟨nd, rfl⟩⟩
            refine ⟨_, rfl, ?_⟩
            refine hK.out _ _ ⟨(blk_cell BK131.out 0).trans rfl, (blk_cell BK131.out 1).trans rfl, (blk_cell BK131.out 2).trans rfl, (blk_cell BK131.out 3).trans rfl⟩ (fun hHeld => ?_)
            clear hK K
            refine norm_ (a' := ?_) ?_ ?_
            rotate_left
            ·show Act.put _ (some 19) _ = _
             simp only [Act.put, sqA, sqB, sqC, i64_w, i32_w]
             rfl
            refine sqP (i := 8) (N := some 20) (v := ?_) (a' := ?_) #[I,I,I,I,I,I,I,I,I,O,O,O,O,O,O,O,O,O,O,O,O,O,O,O,O,O,O,O,O,O,O,O,O,O,O,O,O,O,O,O,O,O] rfl rfl HT_.out (Or.inl ⟨by rfl, ?_⟩) ?_ ?_
            rotate_left
            ·intro w'
             go_simp
             with_reducible rfl
            rotate_left
            ·simp only [Act.put, sqA, sqB, sqC, i64_w, i32_w]
             rfl
            refine sqP (i := 9) (N := some 21) (v := ?_) (a' := ?_) #[I,I,I,I,I,I,I,I,I,I,O,O,O,O,O,O,O,O,O,O,O,O,O,O,O,O,O,O,O,O,O,O,O,O,O,O,O,O,O,O,O,O] rfl rfl HT_.out (Or.inl ⟨by rfl, ?_⟩) ?_ ?_
            rotate_left
            ·intro w'
             go_simp
             with_reducible rfl
            rotate_left
            ·simp only [Act.put, sqA, sqB, sqC, i64_w, i32_w]
             rfl
            refine sqP (i := 10) (N := some 22) (v := ?_) (a' := ?_) #[I,I,I,I,I,I,I,I,I,I,I,O,O,O,O,O,O,O,O,O,O,O,O,O,O,O,O,O,O,O,O,O,O,O,O,O,O,O,O,O,O,O] rfl rfl HT_.out (Or.inl ⟨by rfl, ?_⟩) ?_ ?_
            rotate_left
            ·intro w'
             go_simp
             with_reducible rfl
            rotate_left
            ·simp only [Act.put, sqA, sqB, sqC, i64_w, i32_w]
             rfl
            refine sqP (i := 11) (N := some 23) (v := ?_) (a' := ?_) #[I,I,I,I,I,I,I,I,I,I,I,I,O,O,O,O,O,O,O,O,O,O,O,O,O,O,O,O,O,O,O,O,O,O,O,O,O,O,O,O,O,O] rfl rfl HT_.out (Or.inl ⟨by rfl, ?_⟩) ?_ ?_
            rotate_left
            ·intro w'
             go_simp
             with_reducible rfl
            rotate_left
            ·simp only [Act.put, sqA, sqB, sqC, i64_w, i32_w]
             rfl
            refine sqP (i := 12) (N := some 24) (v := ?_) (a' := ?_) #[I,I,I,I,I,I,I,I,I,I,I,I,I,O,O,O,O,O,O,O,O,O,O,O,O,O,O,O,O,O,O,O,O,O,O,O,O,O,O,O,O,O] rfl rfl HT_.out (Or.inl ⟨by rfl, ?_⟩) ?_ ?_
            rotate_left
            ·intro w'
             go_simp
             with_reducible rfl
            rotate_left
            ·simp only [Act.put, sqA, sqB, sqC, i64_w, i32_w]
             rfl
            refine take_ (i := 13) (N := some 25) (v := ?_) (a' := ?_) #[I,I,I,I,I,I,I,I,I,I,I,I,I,I,O,O,O,O,O,O,O,O,O,O,O,O,O,O,O,O,O,O,O,O,O,O,O,O,O,O,O,O] rfl rfl (take_ofW HT_.out HW_.out (by kernel_rfl)) (fun _ _ _ h => h) (Or.inl ⟨by rfl, ?_⟩) hHeld ?_ ?_
            rotate_left
            ·rintro w' ⟨s0, s1, s2, s3⟩
             go_simp
             with_reducible rfl
            rotate_left
            ·simp only [Act.put, sqA, sqB, sqC, i64_w, i32_w]
             rfl
            refine sqP (i := 14) (N := some 26) (v := ?_) (a' := ?_) #[I,I,I,I,I,I,I,I,I,I,I,I,I,I,I,O,O,O,O,O,O,O,O,O,O,O,O,O,O,O,O,O,O,O,O,O,O,O,O,O,O,O] rfl rfl HT_.out (Or.inl ⟨by rfl, ?_⟩) ?_ ?_
            rotate_left
            ·intro w'
             go_simp
             with_reducible rfl
            rotate_left
            ·simp only [Act.put, sqA, sqB, sqC, i64_w, i32_w]
             rfl
            refine sqP (i := 15) (N := some 27) (v := ?_) (a' := ?_) #[I,I,I,I,I,I,I,I,I,I,I,I,I,I,I,I,O,O,O,O,O,O,O,O,O,O,O,O,O,O,O,O,O,O,O,O,O,O,O,O,O,O] rfl rfl HT_.out (Or.inl ⟨by rfl, ?_⟩) ?_ ?_
            rotate_left
            ·intro w'
             go_simp
             with_reducible rfl
            rotate_left
            ·simp only [Act.put, sqA, sqB, sqC, i64_w, i32_w]
             rfl
            refine sqP (i := 16) (N := some 28) (v := ?_) (a' := ?_) #[I,I,I,I,I,I,I,I,I,I,I,I,I,I,I,I,I,O,O,O,O,O,O,O,O,O,O,O,O,O,O,O,O,O,O,O,O,O,O,O,O,O] rfl rfl HT_.out (Or.inl ⟨by rfl, ?_⟩) ?_ ?_
            rotate_left
            ·intro w'
             go_simp
             with_reducible rfl
            rotate_left
            ·simp only [Act.put, sqA, sqB, sqC, i64_w, i32_w]
             rfl
            refine sqP (i := 17) (N := some 29) (v := ?_) (a' := ?_) #[I,I,I,I,I,I,I,I,I,I,I,I,I,I,I,I,I,I,O,O,O,O,O,O,O,O,O,O,O,O,O,O,O,O,O,O,O,O,O,O,O,O] rfl rfl HT_.out (Or.inl ⟨by rfl, ?_⟩) ?_ ?_
            rotate_left
            ·intro w'
             go_simp
             with_reducible rfl
            rotate_left
            ·simp only [Act.put, sqA, sqB, sqC, i64_w, i32_w]
             rfl
            refine sqP (i := 18) (N := some 30) (v := ?_) (a' := ?_) #[I,I,I,I,I,I,I,I,I,I,I,I,I,I,I,I,I,I,I,O,O,O,O,O,O,O,O,O,O,O,O,O,O,O,O,O,O,O,O,O,O,O] rfl rfl HT_.out (Or.inl ⟨by rfl, ?_⟩) ?_ ?_
            rotate_left
            ·intro w'
             go_simp
             with_reducible rfl
            rotate_left
            ·simp only [Act.put, sqA, sqB, sqC, i64_w, i32_w]
             rfl
            refine take_ (i := 19) (N := some 31) (v := ?_) (a' := ?_) #[I,I,I,I,I,I,I,I,I,I,I,I,I,I,I,I,I,I,I,I,O,O,O,O,O,O,O,O,O,O,O,O,O,O,O,O,O,O,O,O,O,O] rfl rfl (take_ofW HT_.out HW_.out (by kernel_rfl)) (fun _ _ _ h => h) (Or.inl ⟨by rfl, ?_⟩) hHeld ?_ ?_
            rotate_left
            ·rintro w' ⟨s0, s1, s2, s3⟩
             go_simp
             with_reducible rfl
            rotate_left
            ·simp only [Act.put, sqA, sqB, sqC, i64_w, i32_w]
             rfl
            refine sqP (i := 20) (N := some 32) (v := ?_) (a' := ?_) #[I,I,I,I,I,I,I,I,I,I,I,I,I,I,I,I,I,I,I,I,I,O,O,O,O,O,O,O,O,O,O,O,O,O,O,O,O,O,O,O,O,O] rfl rfl HT_.out (Or.inl ⟨by rfl, ?_⟩) ?_ ?_
            rotate_left
            ·intro w'
             go_simp
             with_reducible rfl
            rotate_left
            ·simp only [Act.put, sqA, sqB, sqC, i64_w, i32_w]
             rfl
            refine sqP (i := 21) (N := some 33) (v := ?_) (a' := ?_) #[I,I,I,I,I,I,I,I,I,I,I,I,I,I,I,I,I,I,I,I,I,I,O,O,O,O,O,O,O,O,O,O,O,O,O,O,O,O,O,O,O,O] rfl rfl HT_.out (Or.inl ⟨by rfl, ?_⟩) ?_ ?_
            rotate_left
            ·intro w'
             go_simp
             with_reducible rfl
            rotate_left
            ·simp only [Act.put, sqA, sqB, sqC, i64_w, i32_w]
             rfl
            refine sqP (i := 22) (N := some 34) (v := ?_) (a' := ?_) #[I,I,I,I,I,I,I,I,I,I,I,I,I,I,I,I,I,I,I,I,I,I,I,O,O,O,O,O,O,O,O,O,O,O,O,O,O,O,O,O,O,O] rfl rfl HT_.out (Or.inl ⟨by rfl, ?_⟩) ?_ ?_
            rotate_left
            ·intro w'
             go_simp
             with_reducible rfl
            rotate_left
            ·simp only [Act.put, sqA, sqB, sqC, i64_w, i32_w]
             rfl
            refine sqP (i := 23) (N := some 35) (v := ?_) (a' := ?_) #[I,I,I,I,I,I,I,I,I,I,I,I,I,I,I,I,I,I,I,I,I,I,I,I,O,O,O,O,O,O,O,O,O,O,O,O,O,O,O,O,O,O] rfl rfl HT_.out (Or.inl ⟨by rfl, ?_⟩) ?_ ?_
            rotate_left
            ·intro w'
             go_simp
             with_reducible rfl
            rotate_left
            ·simp only [Act.put, sqA, sqB, sqC, i64_w, i32_w]
             rfl
            refine sqP (i := 24) (N := some 36) (v := ?_) (a' := ?_) #[I,I,I,I,I,I,I,I,I,I,I,I,I,I,I,I,I,I,I,I,I,I,I,I,I,O,O,O,O,O,O,O,O,O,O,O,O,O,O,O,O,O] rfl rfl HT_.out (Or.inl ⟨by rfl, ?_⟩) ?_ ?_
            rotate_left
            ·intro w'
             go_simp
             with_reducible rfl
            rotate_left
            ·simp only [Act.put, sqA, sqB, sqC, i64_w, i32_w]
             rfl
            refine take_ (i := 25) (N := some 37) (v := ?_) (a' := ?_) #[I,I,I,I,I,I,I,I,I,I,I,I,I,I,I,I,I,I,I,I,I,I,I,I,I,I,O,O,O,O,O,O,O,O,O,O,O,O,O,O,O,O] rfl rfl (take_ofW HT_.out HW_.out (by kernel_rfl)) (fun _ _ _ h => h) (Or.inl ⟨by rfl, ?_⟩) hHeld ?_ ?_
            rotate_left
            ·rintro w' ⟨s0, s1, s2, s3⟩
             go_simp
             with_reducible rfl
            rotate_left
            ·simp only [Act.put, sqA, sqB, sqC, i64_w, i32_w]
             rfl
            refine sqP (i := 26) (N := some 38) (v := ?_) (a' := ?_) #[I,I,I,I,I,I,I,I,I,I,I,I,I,I,I,I,I,I,I,I,I,I,I,I,I,I,I,O,O,O,O,O,O,O,O,O,O,O,O,O,O,O] rfl rfl HT_.out (Or.inl ⟨by rfl, ?_⟩) ?_ ?_
            rotate_left
            ·intro w'
             go_simp
             with_reducible rfl
            rotate_left
            ·simp only [Act.put, sqA, sqB, sqC, i64_w, i32_w]
             rfl
            refine sqP (i := 27) (N := some 39) (v := ?_) (a' := ?_) #[I,I,I,I,I,I,I,I,I,I,I,I,I,I,I,I,I,I,I,I,I,I,I,I,I,I,I,I,O,O,O,O,O,O,O,O,O,O,O,O,O,O] rfl rfl HT_.out (Or.inl ⟨by rfl, ?_⟩) ?_ ?_
            rotate_left
            ·intro w'
             go_simp
             with_reducible rfl
            rotate_left
            ·simp only [Act.put, sqA, sqB, sqC, i64_w, i32_w]
             rfl
            refine sqP (i := 28) (N := some 40) (v := ?_) (a' := ?_) #[I,I,I,I,I,I,I,I,I,I,I,I,I,I,I,I,I,I,I,I,I,I,I,I,I,I,I,I,I,O,O,O,O,O,O,O,O,O,O,O,O,O] rfl rfl HT_.out (Or.inl ⟨by rfl, ?_⟩) ?_ ?_
            rotate_left
            ·intro w'
             go_simp
             with_reducible rfl
            rotate_left
            ·simp only [Act.put, sqA, sqB, sqC, i64_w, i32_w]
             rfl
            refine sqP (i := 29) (N := some 41) (v := ?_) (a' := ?_) #[I,I,I,I,I,I,I,I,I,I,I,I,I,I,I,I,I,I,I,I,I,I,I,I,I,I,I,I,I,I,O,O,O,O,O,O,O,O,O,O,O,O] rfl rfl HT_.out (Or.inl ⟨by rfl, ?_⟩) ?_ ?_
            rotate_left
            ·intro w'
             go_simp
             with_reducible rfl
            rotate_left
            ·simp only [Act.put, sqA, sqB, sqC, i64_w, i32_w]
             rfl
            refine sqP (i := 30) (N := some 42) (v := ?_) (a' := ?_) #[I,I,I,I,I,I,I,I,I,I,I,I,I,I,I,I,I,I,I,I,I,I,I,I,I,I,I,I,I,I,I,O,O,O,O,O,O,O,O,O,O,O] rfl rfl HT_.out (Or.inl ⟨by rfl, ?_⟩) ?_ ?_
            rotate_left
            ·intro w'
             go_simp
             with_reducible rfl
            rotate_left
            ·simp only [Act.put, sqA, sqB, sqC, i64_w, i32_w]
             rfl
            refine sqP (i := 31) (N := some 43) (v := ?_) (a' := ?_) #[I,I,I,I,I,I,I,I,I,I,I,I,I,I,I,I,I,I,I,I,I,I,I,I,I,I,I,I,I,I,I,I,O,O,O,O,O,O,O,O,O,O] rfl rfl HT_.out (Or.inl ⟨by rfl, ?_⟩) ?_ ?_
            rotate_left
            ·intro w'
             go_simp
             with_reducible rfl
            rotate_left
            ·simp only [Act.put, sqA, sqB, sqC, i64_w, i32_w]
             rfl
            refine sqP (i := 32) (N := some 44) (v := undef) (a' := ?_) #[I,I,I,I,I,I,I,I,I,I,I,I,I,I,I,I,I,I,I,I,I,I,I,I,I,I,I,I,I,I,I,I,I,O,O,O,O,O,O,O,O,O] rfl rfl HT_.out (Or.inr ⟨by rfl, rfl⟩) ?_ ?_
            rotate_left
            ·simp only [Act.put, sqA, sqB, sqC, i64_w, i32_w]
             rfl
            refine sqP (i := 33) (N := some 45) (v := undef) (a' := ?_) #[I,I,I,I,I,I,I,I,I,I,I,I,I,I,I,I,I,I,I,I,I,I,I,I,I,I,I,I,I,I,I,I,I,I,O,O,O,O,O,O,O,O] rfl rfl HT_.out (Or.inr ⟨by rfl, rfl⟩) ?_ ?_
            rotate_left
            ·simp only [Act.put, sqA, sqB, sqC, i64_w, i32_w]
             rfl
            refine sqP (i := 34) (N := some 46) (v := undef) (a' := ?_) #[I,I,I,I,I,I,I,I,I,I,I,I,I,I,I,I,I,I,I,I,I,I,I,I,I,I,I,I,I,I,I,I,I,I,I,O,O,O,O,O,O,O] rfl rfl HT_.out (Or.inr ⟨by rfl, rfl⟩) ?_ ?_
            rotate_left
            ·simp only [Act.put, sqA, sqB, sqC, i64_w, i32_w]
             rfl
            refine sqP (i := 35) (N := some 47) (v := undef) (a' := ?_) #[I,I,I,I,I,I,I,I,I,I,I,I,I,I,I,I,I,I,I,I,I,I,I,I,I,I,I,I,I,I,I,I,I,I,I,I,O,O,O,O,O,O] rfl rfl HT_.out (Or.inr ⟨by rfl, rfl⟩) ?_ ?_
            rotate_left
            ·simp only [Act.put, sqA, sqB, sqC, i64_w, i32_w]
             rfl
            refine sqP (i := 36) (N := some 48) (v := undef) (a' := ?_) #[I,I,I,I,I,I,I,I,I,I,I,I,I,I,I,I,I,I,I,I,I,I,I,I,I,I,I,I,I,I,I,I,I,I,I,I,I,O,O,O,O,O] rfl rfl HT_.out (Or.inr ⟨by rfl, rfl⟩) ?_ ?_
            rotate_left
            ·simp only [Act.put, sqA, sqB, sqC, i64_w, i32_w]
             rfl
            refine sqP (i := 37) (N := some 49) (v := undef) (a' := ?_) #[I,I,I,I,I,I,I,I,I,I,I,I,I,I,I,I,I,I,I,I,I,I,I,I,I,I,I,I,I,I,I,I,I,I,I,I,I,I,O,O,O,O] rfl rfl HT_.out (Or.inr ⟨by rfl, rfl⟩) ?_ ?_
            rotate_left
            ·simp only [Act.put, sqA, sqB, sqC, i64_w, i32_w]
             rfl
            refine sqP (i := 38) (N := some 50) (v := undef) (a' := ?_) #[I,I,I,I,I,I,I,I,I,I,I,I,I,I,I,I,I,I,I,I,I,I,I,I,I,I,I,I,I,I,I,I,I,I,I,I,I,I,I,O,O,O] rfl rfl HT_.out (Or.inr ⟨by rfl, rfl⟩) ?_ ?_
            rotate_left
            ·simp only [Act.put, sqA, sqB, sqC, i64_w, i32_w]
             rfl
            refine sqP (i := 39) (N := some 51) (v := undef) (a' := ?_) #[I,I,I,I,I,I,I,I,I,I,I,I,I,I,I,I,I,I,I,I,I,I,I,I,I,I,I,I,I,I,I,I,I,I,I,I,I,I,I,I,O,O] rfl rfl HT_.out (Or.inr ⟨by rfl, rfl⟩) ?_ ?_
            rotate_left
            ·simp only [Act.put, sqA, sqB, sqC, i64_w, i32_w]
             rfl
            refine sqP (i := 40) (N := some 52) (v := ?_) (a' := ?_) #[I,I,I,I,I,I,I,I,I,I,I,I,I,I,I,I,I,I,I,I,I,I,I,I,I,I,I,I,I,I,I,I,I,I,I,I,I,I,I,I,I,O] rfl rfl HT_.out (Or.inl ⟨by rfl, ?_⟩) ?_ ?_
            rotate_left
            ·intro w'
             go_simp
             with_reducible rfl
            rotate_left
            ·simp only [Act.put, sqA, sqB, sqC, i64_w, i32_w]
             rfl
            refine sqP (i := 41) (N := some 53) (v := ?_) (a' := ?_) #[I,I,I,I,I,I,I,I,I,I,I,I,I,I,I,I,I,I,I,I,I,I,I,I,I,I,I,I,I,I,I,I,I,I,I,I,I,I,I,I,I,I] rfl rfl HT_.out (Or.inl ⟨by rfl, ?_⟩) ?_ ?_
            rotate_left
            ·intro w'
             go_simp
             with_reducible rfl
            rotate_left
            ·simp only [Act.put, sqA, sqB, sqC, i64_w, i32_w]
             rfl
            refine done_ (done_of HT_.out (by kernel_rfl)) ?_
            try go_wp2
            go_roundg k1
            case measure => have := HK1.out; omega
            case rel => exact ⟨(wrap64 (x7_1 + 1)), (by first | rfl | (simp; done) | (simp [*]; done)), H', ⟨by have := HK1.out; omega⟩, ⟨by repeat (first | (with_reducible first | exact HB.out | apply below_alloc | apply pw_below_drewN | apply below_drew1 | refine below_set ?_ GE131.out) | exact HB.out)⟩⟩
       ·replace c8 := Bool.eq_false_iff.mpr c8
        subst c8
        have H1 : (some false) = some r := by rw [if_neg (show ¬ (false = true) by decide)] at H; exact H
        clear H
        have H := H1
        clear H1
        obtain rfl := Option.some.inj H
        have p130 : 0 ≤ (x7_1 : Int) := of_decide_eq_true (by first | (with_reducible assumption) | assumption)
        have q130 : x7_1 < (l0.length : Int) := of_decide_eq_true (by first | (with_reducible assumption) | assumption)
        obtain ⟨ad130, e130, hx130_0, hx130_1, hx130_2, hx130_3⟩ := at_T43 HR0.out x7_1 p130 q130
        cases e130
        replace hx130_0 := (HB.out.cell (World.block_lt_of_cell? w _ hx130_0)).trans hx130_0
        replace hx130_1 := (HB.out.cell (World.block_lt_of_cell? w _ hx130_1)).trans hx130_1
        replace hx130_2 := (HB.out.cell (World.block_lt_of_cell? w _ hx130_2)).trans hx130_2
        replace hx130_3 := (HB.out.cell (World.block_lt_of_cell? w _ hx130_3)).trans hx130_3
        replace p130 := eq_true p130
        replace q130 := eq_true q130
        try go_wp2_with (first | ((with_reducible refine gate_dst (N := 4) rfl ?_); refine box_event ?hg (N := 4) ?hd (cs := #[.string (⟨#[]⟩ : ByteArray), .string (⟨#[]⟩ : ByteArray), .int .i64 0, .int .i64 0]) (t := 43) ?hr ?_; (case hd => rfl); (case hg => rfl); (case hr => first | (go_simp; done) | (go_simp; rfl)); intro gb131 hg w44 hbox hb; have n0_ := Aside0.mk (below_step (by repeat (first | (with_reducible first | exact HB.out | apply below_alloc | apply pw_below_drewN | apply below_drew1) | exact HB.out)) hb); have n1_ := Aside0.mk (hbox); have n2_ := Aside0.mk ((by rw [hg]; exact (below_size (by repeat (first | (with_reducible first | exact HB.out | apply below_alloc | apply pw_below_drewN | apply below_drew1) | exact HB.out))) : w.heap.size ≤ gb131)); have n3_ := Aside0.mk ((by rw [hg]; exact (below_size (by repeat (first | (with_reducible first | exact HB.out | apply below_alloc | apply pw_below_drewN | apply below_drew1) | exact HB.out))) : w.heap.size ≤ gb131)); clear HB; have HB := n0_; have BK131 := n1_; have GW131 := n2_; have GE131 := n3_; clear n0_ n1_ n2_ n3_; clear hb hbox hg; have hcz45_0 : w44.cell? ⟨gb131, 0, none⟩ = some (.string (⟨#[]⟩ : ByteArray)) := (blk_cell BK131.out 0).trans rfl; have hcz45_1 : w44.cell? ⟨gb131, 1, none⟩ = some (.string (⟨#[]⟩ : ByteArray)) := (blk_cell BK131.out 1).trans rfl; have hcz45_2 : w44.cell? ⟨gb131, 2, none⟩ = some (.int .i64 0) := (blk_cell BK131.out 2).trans rfl; have hcz45_3 : w44.cell? ⟨gb131, 3, none⟩ = some (.int .i64 0) := (blk_cell BK131.out 3).trans rfl; have hfz45_0 := blk_frozen BK131.out 0; have hfz45_1 := blk_frozen BK131.out 1; have hfz45_2 := blk_frozen BK131.out 2; have hfz45_3 := blk_frozen BK131.out 3))
        have n0_ : Aside0 (((((w44.setCell ⟨gb131, 0, none⟩ (.string ((rd_T43 l0 x7_1).f0))).setCell ⟨gb131, 1, none⟩ (.string ((rd_T43 l0 x7_1).f1))).setCell ⟨gb131, 2, none⟩ (.int .i64 ((rd_T43 l0 x7_1).f2.f0))).setCell ⟨gb131, 3, none⟩ (.int .i64 ((rd_T43 l0 x7_1).f2.f1))).heap[gb131]? = some (.cells #[.string ((rd_T43 l0 x7_1).f0), .string ((rd_T43 l0 x7_1).f1), .int .i64 ((rd_T43 l0 x7_1).f2.f0), .int .i64 ((rd_T43 l0 x7_1).f2.f1)] 43 (0, 0))) := ⟨by (with_reducible repeat (first | apply blN | apply blD | apply blA)); refine blk_put (cs := #[.string ((rd_T43 l0 x7_1).f0), .string ((rd_T43 l0 x7_1).f1), .int .i64 ((rd_T43 l0 x7_1).f2.f0), .int .i64 0]) ?_ 3 _ rfl; (with_reducible repeat (first | apply blN | apply blD | apply blA)); refine blk_put (cs := #[.string ((rd_T43 l0 x7_1).f0), .string ((rd_T43 l0 x7_1).f1), .int .i64 0, .int .i64 0]) ?_ 2 _ rfl; (with_reducible repeat (first | apply blN | apply blD | apply blA)); refine blk_put (cs := #[.string ((rd_T43 l0 x7_1).f0), .string (⟨#[]⟩ : ByteArray), .int .i64 0, .int .i64 0]) ?_ 1 _ rfl; (with_reducible repeat (first | apply blN | apply blD | apply blA)); refine blk_put (cs := #[.string (⟨#[]⟩ : ByteArray), .string (⟨#[]⟩ : ByteArray), .int .i64 0, .int .i64 0]) ?_ 0 _ rfl; (with_reducible repeat (first | apply blN | apply blD | apply blA)); exact BK131.out⟩
        have n1_ : Aside0 (Below w.heap.size w ((((w44.setCell ⟨gb131, 0, none⟩ (.string ((rd_T43 l0 x7_1).f0))).setCell ⟨gb131, 1, none⟩ (.string ((rd_T43 l0 x7_1).f1))).setCell ⟨gb131, 2, none⟩ (.int .i64 ((rd_T43 l0 x7_1).f2.f0))).setCell ⟨gb131, 3, none⟩ (.int .i64 ((rd_T43 l0 x7_1).f2.f1)))) := ⟨by repeat (first | (with_reducible first | exact HB.out | apply below_alloc | apply pw_below_drewN | apply below_drew1 | refine below_set ?_ GE131.out) | exact HB.out)⟩
        (try clear BK131)
        (try clear HB)
        generalize ((((w44.setCell ⟨gb131, 0, none⟩ (.string ((rd_T43 l0 x7_1).f0))).setCell ⟨gb131, 1, none⟩ (.string ((rd_T43 l0 x7_1).f1))).setCell ⟨gb131, 2, none⟩ (.int .i64 ((rd_T43 l0 x7_1).f2.f0))).setCell ⟨gb131, 3, none⟩ (.int .i64 ((rd_T43 l0 x7_1).f2.f1))) = w46 at n0_ n1_ ⊢
        have BK131 := n0_
        have HB := n1_
        clear n0_ n1_
        have n0_ := Aside0.mk (blk_drew BK131.out)
        have n1_ := Aside0.mk (below_drew1 HB.out)
        clear BK131
        clear HB
        have BK131 := n0_
        have HB := n1_
        clear n0_ n1_
        refine start_ (n := 42) (S := fun w' => w'.cell? ⟨gb131, 0, none⟩ = some (.string ((rd_T43 l0 x7_1).f0)) ∧ w'.cell? ⟨gb131, 1, none⟩ = some (.string ((rd_T43 l0 x7_1).f1)) ∧ w'.cell? ⟨gb131, 2, none⟩ = some (.int .i64 ((rd_T43 l0 x7_1).f2.f0)) ∧ w'.cell? ⟨gb131, 3, none⟩ = some (.int .i64 ((rd_T43 l0 x7_1).f2.f1))) (ds := []) #[O,O,O,O,O,O,O,O,O,O,O,O,O,O,O,O,O,O,O,O,O,O,O,O,O,O,O,O,O,O,O,O,O,O,O,O,O,O,O,O,O,O] (by kernel_rfl) rfl rfl ⟨(blk_cell BK131.out 0).trans rfl, (blk_cell BK131.out 1).trans rfl, (blk_cell BK131.out 2).trans rfl, (blk_cell BK131.out 3).trans rfl⟩ (fun hHeld => ?_); refine with_tabW pair_May.tab4 pair_May.bits4 (fun HT_ HW_ => ?_)
        generalize w46.drew = w47 at BK131 HB hHeld ⊢
        refine sqP (i := 0) (N := some 12) (v := ?_) (a' := ?_) #[I,O,O,O,O,O,O,O,O,O,O,O,O,O,O,O,O,O,O,O,O,O,O,O,O,O,O,O,O,O,O,O,O,O,O,O,O,O,O,O,O,O] rfl rfl HT_.out (Or.inl ⟨by rfl, ?_⟩) ?_ ?_
        rotate_left
        ·intro w'
         go_simp
         with_reducible rfl
        rotate_left
        ·simp only [Act.put, sqA, sqB, sqC, i64_w, i32_w]
         rfl
        refine take_ (i := 1) (N := some 13) (v := ?_) (a' := ?_) #[I,I,O,O,O,O,O,O,O,O,O,O,O,O,O,O,O,O,O,O,O,O,O,O,O,O,O,O,O,O,O,O,O,O,O,O,O,O,O,O,O,O] rfl rfl (take_ofW HT_.out HW_.out (by kernel_rfl)) (fun _ _ _ h => h) (Or.inl ⟨by rfl, ?_⟩) hHeld ?_ ?_
        rotate_left
        ·rintro w' ⟨s0, s1, s2, s3⟩
         go_simp
         with_reducible rfl
        rotate_left
        ·simp only [Act.put, sqA, sqB, sqC, i64_w, i32_w]
         rfl
        refine one_ (i := 2) (N := some 14) #[I,I,I,O,O,O,O,O,O,O,O,O,O,O,O,O,O,O,O,O,O,O,O,O,O,O,O,O,O,O,O,O,O,O,O,O,O,O,O,O,O,O] rfl rfl (one_of HT_.out (by kernel_rfl)) (by decide) (fun K hK => ?_)
        refine goes_ Tryz.func76 (by kernel_rfl) rfl #[.string ((rd_T43 l0 x7_1).f0)] (by rfl) rfl rfl (by (try simp only [List.map_toArray, List.map_cons, List.map_nil]); first | done | rfl | (simp only [List.length_drop, List.length_take]; rfl)) ?_
        with_reducible refine (ops_Key.calls ((rd_T43 l0 x7_1).f0) true _ A5.out).mono ?_
        rintro e w' ⟨rfl, ⟨nd, rfl⟩⟩
        refine ⟨_, rfl, ?_⟩
        refine hK.out _ _ ⟨(blk_cell BK131.out 0).trans rfl, (blk_cell BK131.out 1).trans rfl, (blk_cell BK131.out 2).trans rfl, (blk_cell BK131.out 3).trans rfl⟩ (fun hHeld => ?_)
        clear hK K
        refine norm_ (a' := ?_) ?_ ?_
        rotate_left
        ·show Act.put _ (some 14) _ = _
         simp only [Act.put, sqA, sqB, sqC, i64_w, i32_w]
         rfl
        refine sqP (i := 3) (N := some 15) (v := ?_) (a' := ?_) #[I,I,I,I,O,O,O,O,O,O,O,O,O,O,O,O,O,O,O,O,O,O,O,O,O,O,O,O,O,O,O,O,O,O,O,O,O,O,O,O,O,O] rfl rfl HT_.out (Or.inl ⟨by rfl, ?_⟩) ?_ ?_
        rotate_left
        ·intro w'
         go_simp
         with_reducible rfl
        rotate_left
        ·simp only [Act.put, sqA, sqB, sqC, i64_w, i32_w]
         rfl
        refine sqP (i := 4) (N := some 16) (v := ?_) (a' := ?_) #[I,I,I,I,I,O,O,O,O,O,O,O,O,O,O,O,O,O,O,O,O,O,O,O,O,O,O,O,O,O,O,O,O,O,O,O,O,O,O,O,O,O] rfl rfl HT_.out (Or.inl ⟨by rfl, ?_⟩) ?_ ?_
        rotate_left
        ·intro w'
         go_simp
         with_reducible rfl
        rotate_left
        ·simp only [Act.put, sqA, sqB, sqC, i64_w, i32_w]
         rfl
        refine sqP (i := 5) (N := some 17) (v := ?_) (a' := ?_) #[I,I,I,I,I,I,O,O,O,O,O,O,O,O,O,O,O,O,O,O,O,O,O,O,O,O,O,O,O,O,O,O,O,O,O,O,O,O,O,O,O,O] rfl rfl HT_.out (Or.inl ⟨by rfl, ?_⟩) ?_ ?_
        rotate_left
        ·intro w'
         go_simp
         with_reducible rfl
        rotate_left
        ·simp only [Act.put, sqA, sqB, sqC, i64_w, i32_w]
         rfl
        refine take_ (i := 6) (N := some 18) (v := ?_) (a' := ?_) #[I,I,I,I,I,I,I,O,O,O,O,O,O,O,O,O,O,O,O,O,O,O,O,O,O,O,O,O,O,O,O,O,O,O,O,O,O,O,O,O,O,O] rfl rfl (take_ofW HT_.out HW_.out (by kernel_rfl)) (fun _ _ _ h => h) (Or.inl ⟨by rfl, ?_⟩) hHeld ?_ ?_
        rotate_left
        ·rintro w' ⟨s0, s1, s2, s3⟩
         go_simp
         with_reducible rfl
        rotate_left
        ·simp only [Act.put, sqA, sqB, sqC, i64_w, i32_w]
         rfl
        refine one_ (i := 7) (N := some 19) #[I,I,I,I,I,I,I,I,O,O,O,O,O,O,O,O,O,O,O,O,O,O,O,O,O,O,O,O,O,O,O,O,O,O,O,O,O,O,O,O,O,O] rfl rfl (one_of HT_.out (by kernel_rfl)) (by decide) (fun K hK => ?_)
        refine goes_ Tryz.func76 (by kernel_rfl) rfl #[.string ((rd_T43 l0 x7_1).f1)] (by rfl) rfl rfl (by (try simp only [List.map_toArray, List.map_cons, List.map_nil]); first | done | rfl | (simp only [List.length_drop, List.length_take]; rfl)) ?_
        with_reducible refine (ops_Key.calls ((rd_T43 l0 x7_1).f1) false _ A7.out).mono ?_
        rintro e w' ⟨rfl, ⟨nd, rfl⟩⟩
        refine ⟨_, rfl, ?_⟩
        refine hK.out _ _ ⟨(blk_cell BK131.out 0).trans rfl, (blk_cell BK131.out 1).trans rfl, (blk_cell BK131.out 2).trans rfl, (blk_cell BK131.out 3).trans rfl⟩ (fun hHeld => ?_)
        clear hK K
        refine norm_ (a' := ?_) ?_ ?_
        rotate_left
        ·show Act.put _ (some 19) _ = _
         simp only [Act.put, sqA, sqB, sqC, i64_w, i32_w]
         rfl
        refine sqP (i := 8) (N := some 20) (v := ?_) (a' := ?_) #[I,I,I,I,I,I,I,I,I,O,O,O,O,O,O,O,O,O,O,O,O,O,O,O,O,O,O,O,O,O,O,O,O,O,O,O,O,O,O,O,O,O] rfl rfl HT_.out (Or.inl ⟨by rfl, ?_⟩) ?_ ?_
        rotate_left
        ·intro w'
         go_simp
         with_reducible rfl
        rotate_left
        ·simp only [Act.put, sqA, sqB, sqC, i64_w, i32_w]
         rfl
        refine sqP (i := 9) (N := some 21) (v := ?_) (a' := ?_) #[I,I,I,I,I,I,I,I,I,I,O,O,O,O,O,O,O,O,O,O,O,O,O,O,O,O,O,O,O,O,O,O,O,O,O,O,O,O,O,O,O,O] rfl rfl HT_.out (Or.inl ⟨by rfl, ?_⟩) ?_ ?_
        rotate_left
        ·intro w'
         go_simp
         with_reducible rfl
        rotate_left
        ·simp only [Act.put, sqA, sqB, sqC, i64_w, i32_w]
         rfl
        refine sqP (i := 10) (N := some 22) (v := ?_) (a' := ?_) #[I,I,I,I,I,I,I,I,I,I,I,O,O,O,O,O,O,O,O,O,O,O,O,O,O,O,O,O,O,O,O,O,O,O,O,O,O,O,O,O,O,O] rfl rfl HT_.out (Or.inl ⟨by rfl, ?_⟩) ?_ ?_
        rotate_left
        ·intro w'
         go_simp
         with_reducible rfl
        rotate_left
        ·simp only [Act.put, sqA, sqB, sqC, i64_w, i32_w]
         rfl
        refine sqP (i := 11) (N := some 23) (v := undef) (a' := ?_) #[I,I,I,I,I,I,I,I,I,I,I,I,O,O,O,O,O,O,O,O,O,O,O,O,O,O,O,O,O,O,O,O,O,O,O,O,O,O,O,O,O,O] rfl rfl HT_.out (Or.inr ⟨by rfl, rfl⟩) ?_ ?_
        rotate_left
        ·simp only [Act.put, sqA, sqB, sqC, i64_w, i32_w]
         rfl
        refine sqP (i := 12) (N := some 24) (v := undef) (a' := ?_) #[I,I,I,I,I,I,I,I,I,I,I,I,I,O,O,O,O,O,O,O,O,O,O,O,O,O,O,O,O,O,O,O,O,O,O,O,O,O,O,O,O,O] rfl rfl HT_.out (Or.inr ⟨by rfl, rfl⟩) ?_ ?_
        rotate_left
        ·simp only [Act.put, sqA, sqB, sqC, i64_w, i32_w]
         rfl
        refine sqP (i := 13) (N := some 25) (v := undef) (a' := ?_) #[I,I,I,I,I,I,I,I,I,I,I,I,I,I,O,O,O,O,O,O,O,O,O,O,O,O,O,O,O,O,O,O,O,O,O,O,O,O,O,O,O,O] rfl rfl HT_.out (Or.inr ⟨by rfl, rfl⟩) ?_ ?_
        rotate_left
        ·simp only [Act.put, sqA, sqB, sqC, i64_w, i32_w]
         rfl
        refine sqP (i := 14) (N := some 26) (v := undef) (a' := ?_) #[I,I,I,I,I,I,I,I,I,I,I,I,I,I,I,O,O,O,O,O,O,O,O,O,O,O,O,O,O,O,O,O,O,O,O,O,O,O,O,O,O,O] rfl rfl HT_.out (Or.inr ⟨by rfl, rfl⟩) ?_ ?_
        rotate_left
        ·simp only [Act.put, sqA, sqB, sqC, i64_w, i32_w]
         rfl
        refine sqP (i := 15) (N := some 27) (v := ?_) (a' := ?_) #[I,I,I,I,I,I,I,I,I,I,I,I,I,I,I,I,O,O,O,O,O,O,O,O,O,O,O,O,O,O,O,O,O,O,O,O,O,O,O,O,O,O] rfl rfl HT_.out (Or.inl ⟨by rfl, ?_⟩) ?_ ?_
        rotate_left
        ·intro w'
         go_simp
         with_reducible rfl
        rotate_left
        ·simp only [Act.put, sqA, sqB, sqC, i64_w, i32_w]
         rfl
        refine sqP (i := 16) (N := some 28) (v := ?_) (a' := ?_) #[I,I,I,I,I,I,I,I,I,I,I,I,I,I,I,I,I,O,O,O,O,O,O,O,O,O,O,O,O,O,O,O,O,O,O,O,O,O,O,O,O,O] rfl rfl HT_.out (Or.inl ⟨by rfl, ?_⟩) ?_ ?_
        rotate_left
        ·intro w'
         go_simp
         with_reducible rfl
        rotate_left
        ·simp only [Act.put, sqA, sqB, sqC, i64_w, i32_w]
         rfl
        refine sqP (i := 17) (N := some 29) (v := undef) (a' := ?_) #[I,I,I,I,I,I,I,I,I,I,I,I,I,I,I,I,I,I,O,O,O,O,O,O,O,O,O,O,O,O,O,O,O,O,O,O,O,O,O,O,O,O] rfl rfl HT_.out (Or.inr ⟨by rfl, rfl⟩) ?_ ?_
        rotate_left
        ·simp only [Act.put, sqA, sqB, sqC, i64_w, i32_w]
         rfl
        refine sqP (i := 18) (N := some 30) (v := undef) (a' := ?_) #[I,I,I,I,I,I,I,I,I,I,I,I,I,I,I,I,I,I,I,O,O,O,O,O,O,O,O,O,O,O,O,O,O,O,O,O,O,O,O,O,O,O] rfl rfl HT_.out (Or.inr ⟨by rfl, rfl⟩) ?_ ?_
        rotate_left
        ·simp only [Act.put, sqA, sqB, sqC, i64_w, i32_w]
         rfl
        refine sqP (i := 19) (N := some 31) (v := undef) (a' := ?_) #[I,I,I,I,I,I,I,I,I,I,I,I,I,I,I,I,I,I,I,I,O,O,O,O,O,O,O,O,O,O,O,O,O,O,O,O,O,O,O,O,O,O] rfl rfl HT_.out (Or.inr ⟨by rfl, rfl⟩) ?_ ?_
        rotate_left
        ·simp only [Act.put, sqA, sqB, sqC, i64_w, i32_w]
         rfl
        refine sqP (i := 20) (N := some 32) (v := undef) (a' := ?_) #[I,I,I,I,I,I,I,I,I,I,I,I,I,I,I,I,I,I,I,I,I,O,O,O,O,O,O,O,O,O,O,O,O,O,O,O,O,O,O,O,O,O] rfl rfl HT_.out (Or.inr ⟨by rfl, rfl⟩) ?_ ?_
        rotate_left
        ·simp only [Act.put, sqA, sqB, sqC, i64_w, i32_w]
         rfl
        refine sqP (i := 21) (N := some 33) (v := ?_) (a' := ?_) #[I,I,I,I,I,I,I,I,I,I,I,I,I,I,I,I,I,I,I,I,I,I,O,O,O,O,O,O,O,O,O,O,O,O,O,O,O,O,O,O,O,O] rfl rfl HT_.out (Or.inl ⟨by rfl, ?_⟩) ?_ ?_
        rotate_left
        ·intro w'
         go_simp
         with_reducible rfl
        rotate_left
        ·simp only [Act.put, sqA, sqB, sqC, i64_w, i32_w]
         rfl
        refine sqP (i := 22) (N := some 34) (v := ?_) (a' := ?_) #[I,I,I,I,I,I,I,I,I,I,I,I,I,I,I,I,I,I,I,I,I,I,I,O,O,O,O,O,O,O,O,O,O,O,O,O,O,O,O,O,O,O] rfl rfl HT_.out (Or.inl ⟨by rfl, ?_⟩) ?_ ?_
        rotate_left
        ·intro w'
         go_simp
         with_reducible rfl
        rotate_left
        ·simp only [Act.put, sqA, sqB, sqC, i64_w, i32_w]
         rfl
        refine sqP (i := 23) (N := some 35) (v := undef) (a' := ?_) #[I,I,I,I,I,I,I,I,I,I,I,I,I,I,I,I,I,I,I,I,I,I,I,I,O,O,O,O,O,O,O,O,O,O,O,O,O,O,O,O,O,O] rfl rfl HT_.out (Or.inr ⟨by rfl, rfl⟩) ?_ ?_
        rotate_left
        ·simp only [Act.put, sqA, sqB, sqC, i64_w, i32_w]
         rfl
        refine sqP (i := 24) (N := some 36) (v := undef) (a' := ?_) #[I,I,I,I,I,I,I,I,I,I,I,I,I,I,I,I,I,I,I,I,I,I,I,I,I,O,O,O,O,O,O,O,O,O,O,O,O,O,O,O,O,O] rfl rfl HT_.out (Or.inr ⟨by rfl, rfl⟩) ?_ ?_
        rotate_left
        ·simp only [Act.put, sqA, sqB, sqC, i64_w, i32_w]
         rfl
        refine sqP (i := 25) (N := some 37) (v := undef) (a' := ?_) #[I,I,I,I,I,I,I,I,I,I,I,I,I,I,I,I,I,I,I,I,I,I,I,I,I,I,O,O,O,O,O,O,O,O,O,O,O,O,O,O,O,O] rfl rfl HT_.out (Or.inr ⟨by rfl, rfl⟩) ?_ ?_
        rotate_left
        ·simp only [Act.put, sqA, sqB, sqC, i64_w, i32_w]
         rfl
        refine sqP (i := 26) (N := some 38) (v := undef) (a' := ?_) #[I,I,I,I,I,I,I,I,I,I,I,I,I,I,I,I,I,I,I,I,I,I,I,I,I,I,I,O,O,O,O,O,O,O,O,O,O,O,O,O,O,O] rfl rfl HT_.out (Or.inr ⟨by rfl, rfl⟩) ?_ ?_
        rotate_left
        ·simp only [Act.put, sqA, sqB, sqC, i64_w, i32_w]
         rfl
        refine sqP (i := 27) (N := some 39) (v := ?_) (a' := ?_) #[I,I,I,I,I,I,I,I,I,I,I,I,I,I,I,I,I,I,I,I,I,I,I,I,I,I,I,I,O,O,O,O,O,O,O,O,O,O,O,O,O,O] rfl rfl HT_.out (Or.inl ⟨by rfl, ?_⟩) ?_ ?_
        rotate_left
        ·intro w'
         go_simp
         with_reducible rfl
        rotate_left
        ·simp only [Act.put, sqA, sqB, sqC, i64_w, i32_w]
         rfl
        refine sqP (i := 28) (N := some 40) (v := ?_) (a' := ?_) #[I,I,I,I,I,I,I,I,I,I,I,I,I,I,I,I,I,I,I,I,I,I,I,I,I,I,I,I,I,O,O,O,O,O,O,O,O,O,O,O,O,O] rfl rfl HT_.out (Or.inl ⟨by rfl, ?_⟩) ?_ ?_
        rotate_left
        ·intro w'
         go_simp
         with_reducible rfl
        rotate_left
        ·simp only [Act.put, sqA, sqB, sqC, i64_w, i32_w]
         rfl
        refine sqP (i := 29) (N := some 41) (v := undef) (a' := ?_) #[I,I,I,I,I,I,I,I,I,I,I,I,I,I,I,I,I,I,I,I,I,I,I,I,I,I,I,I,I,I,O,O,O,O,O,O,O,O,O,O,O,O] rfl rfl HT_.out (Or.inr ⟨by rfl, rfl⟩) ?_ ?_
        rotate_left
        ·simp only [Act.put, sqA, sqB, sqC, i64_w, i32_w]
         rfl
        refine sqP (i := 30) (N := some 42) (v := undef) (a' := ?_) #[I,I,I,I,I,I,I,I,I,I,I,I,I,I,I,I,I,I,I,I,I,I,I,I,I,I,I,I,I,I,I,O,O,O,O,O,O,O,O,O,O,O] rfl rfl HT_.out (Or.inr ⟨by rfl, rfl⟩) ?_ ?_
        rotate_left
        ·simp only [Act.put, sqA, sqB, sqC, i64_w, i32_w]
         rfl
        refine sqP (i := 31) (N := some 43) (v := undef) (a' := ?_) #[I,I,I,I,I,I,I,I,I,I,I,I,I,I,I,I,I,I,I,I,I,I,I,I,I,I,I,I,I,I,I,I,O,O,O,O,O,O,O,O,O,O] rfl rfl HT_.out (Or.inr ⟨by rfl, rfl⟩) ?_ ?_
        rotate_left
        ·simp only [Act.put, sqA, sqB, sqC, i64_w, i32_w]
         rfl
        refine sqP (i := 32) (N := some 44) (v := undef) (a' := ?_) #[I,I,I,I,I,I,I,I,I,I,I,I,I,I,I,I,I,I,I,I,I,I,I,I,I,I,I,I,I,I,I,I,I,O,O,O,O,O,O,O,O,O] rfl rfl HT_.out (Or.inr ⟨by rfl, rfl⟩) ?_ ?_
        rotate_left
        ·simp only [Act.put, sqA, sqB, sqC, i64_w, i32_w]
         rfl
        refine sqP (i := 33) (N := some 45) (v := undef) (a' := ?_) #[I,I,I,I,I,I,I,I,I,I,I,I,I,I,I,I,I,I,I,I,I,I,I,I,I,I,I,I,I,I,I,I,I,I,O,O,O,O,O,O,O,O] rfl rfl HT_.out (Or.inr ⟨by rfl, rfl⟩) ?_ ?_
        rotate_left
        ·simp only [Act.put, sqA, sqB, sqC, i64_w, i32_w]
         rfl
        refine sqP (i := 34) (N := some 46) (v := undef) (a' := ?_) #[I,I,I,I,I,I,I,I,I,I,I,I,I,I,I,I,I,I,I,I,I,I,I,I,I,I,I,I,I,I,I,I,I,I,I,O,O,O,O,O,O,O] rfl rfl HT_.out (Or.inr ⟨by rfl, rfl⟩) ?_ ?_
        rotate_left
        ·simp only [Act.put, sqA, sqB, sqC, i64_w, i32_w]
         rfl
        refine sqP (i := 35) (N := some 47) (v := undef) (a' := ?_) #[I,I,I,I,I,I,I,I,I,I,I,I,I,I,I,I,I,I,I,I,I,I,I,I,I,I,I,I,I,I,I,I,I,I,I,I,O,O,O,O,O,O] rfl rfl HT_.out (Or.inr ⟨by rfl, rfl⟩) ?_ ?_
        rotate_left
        ·simp only [Act.put, sqA, sqB, sqC, i64_w, i32_w]
         rfl
        refine sqP (i := 36) (N := some 48) (v := undef) (a' := ?_) #[I,I,I,I,I,I,I,I,I,I,I,I,I,I,I,I,I,I,I,I,I,I,I,I,I,I,I,I,I,I,I,I,I,I,I,I,I,O,O,O,O,O] rfl rfl HT_.out (Or.inr ⟨by rfl, rfl⟩) ?_ ?_
        rotate_left
        ·simp only [Act.put, sqA, sqB, sqC, i64_w, i32_w]
         rfl
        refine sqP (i := 37) (N := some 49) (v := undef) (a' := ?_) #[I,I,I,I,I,I,I,I,I,I,I,I,I,I,I,I,I,I,I,I,I,I,I,I,I,I,I,I,I,I,I,I,I,I,I,I,I,I,O,O,O,O] rfl rfl HT_.out (Or.inr ⟨by rfl, rfl⟩) ?_ ?_
        rotate_left
        ·simp only [Act.put, sqA, sqB, sqC, i64_w, i32_w]
         rfl
        refine sqP (i := 38) (N := some 50) (v := undef) (a' := ?_) #[I,I,I,I,I,I,I,I,I,I,I,I,I,I,I,I,I,I,I,I,I,I,I,I,I,I,I,I,I,I,I,I,I,I,I,I,I,I,I,O,O,O] rfl rfl HT_.out (Or.inr ⟨by rfl, rfl⟩) ?_ ?_
        rotate_left
        ·simp only [Act.put, sqA, sqB, sqC, i64_w, i32_w]
         rfl
        refine sqP (i := 39) (N := some 51) (v := undef) (a' := ?_) #[I,I,I,I,I,I,I,I,I,I,I,I,I,I,I,I,I,I,I,I,I,I,I,I,I,I,I,I,I,I,I,I,I,I,I,I,I,I,I,I,O,O] rfl rfl HT_.out (Or.inr ⟨by rfl, rfl⟩) ?_ ?_
        rotate_left
        ·simp only [Act.put, sqA, sqB, sqC, i64_w, i32_w]
         rfl
        refine sqP (i := 40) (N := some 52) (v := undef) (a' := ?_) #[I,I,I,I,I,I,I,I,I,I,I,I,I,I,I,I,I,I,I,I,I,I,I,I,I,I,I,I,I,I,I,I,I,I,I,I,I,I,I,I,I,O] rfl rfl HT_.out (Or.inr ⟨by rfl, rfl⟩) ?_ ?_
        rotate_left
        ·simp only [Act.put, sqA, sqB, sqC, i64_w, i32_w]
         rfl
        refine sqP (i := 41) (N := some 53) (v := ?_) (a' := ?_) #[I,I,I,I,I,I,I,I,I,I,I,I,I,I,I,I,I,I,I,I,I,I,I,I,I,I,I,I,I,I,I,I,I,I,I,I,I,I,I,I,I,I] rfl rfl HT_.out (Or.inl ⟨by rfl, ?_⟩) ?_ ?_
        rotate_left
        ·intro w'
         go_simp
         with_reducible rfl
        rotate_left
        ·simp only [Act.put, sqA, sqB, sqC, i64_w, i32_w]
         rfl
        refine done_ (done_of HT_.out (by kernel_rfl)) ?_
        try go_wp2
        go_ret
        exact ⟨by first | rfl | (simp [errW_none, errW_some] <;> rfl) | (simp [*, errW_none, errW_some] <;> rfl), by repeat (first | (with_reducible first | exact HB.out | apply below_alloc | apply pw_below_drewN | apply below_drew1 | refine below_set ?_ GE131.out) | exact HB.out)⟩
      ·replace c6 := Bool.eq_false_iff.mpr c6
       subst c6
       have H1 : (some false) = some r := by rw [if_neg (show ¬ (false = true) by decide)] at H; exact H
       clear H
       have H := H1
       clear H1
       obtain rfl := Option.some.inj H
       have p130 : 0 ≤ (x7_1 : Int) := of_decide_eq_true (by first | (with_reducible assumption) | assumption)
       have q130 : x7_1 < (l0.length : Int) := of_decide_eq_true (by first | (with_reducible assumption) | assumption)
       obtain ⟨ad130, e130, hx130_0, hx130_1, hx130_2, hx130_3⟩ := at_T43 HR0.out x7_1 p130 q130
       cases e130
       replace hx130_0 := (HB.out.cell (World.block_lt_of_cell? w _ hx130_0)).trans hx130_0
       replace hx130_1 := (HB.out.cell (World.block_lt_of_cell? w _ hx130_1)).trans hx130_1
       replace hx130_2 := (HB.out.cell (World.block_lt_of_cell? w _ hx130_2)).trans hx130_2
       replace hx130_3 := (HB.out.cell (World.block_lt_of_cell? w _ hx130_3)).trans hx130_3
       replace p130 := eq_true p130
       replace q130 := eq_true q130
       try go_wp2_with (first | ((with_reducible refine gate_dst (N := 4) rfl ?_); refine box_event ?hg (N := 4) ?hd (cs := #[.string (⟨#[]⟩ : ByteArray), .string (⟨#[]⟩ : ByteArray), .int .i64 0, .int .i64 0]) (t := 43) ?hr ?_; (case hd => rfl); (case hg => rfl); (case hr => first | (go_simp; done) | (go_simp; rfl)); intro gb131 hg w48 hbox hb; have n0_ := Aside0.mk (below_step (by repeat (first | (with_reducible first | exact HB.out | apply below_alloc | apply pw_below_drewN | apply below_drew1) | exact HB.out)) hb); have n1_ := Aside0.mk (hbox); have n2_ := Aside0.mk ((by rw [hg]; exact (below_size (by repeat (first | (with_reducible first | exact HB.out | apply below_alloc | apply pw_below_drewN | apply below_drew1) | exact HB.out))) : w.heap.size ≤ gb131)); have n3_ := Aside0.mk ((by rw [hg]; exact (below_size (by repeat (first | (with_reducible first | exact HB.out | apply below_alloc | apply pw_below_drewN | apply below_drew1) | exact HB.out))) : w.heap.size ≤ gb131)); clear HB; have HB := n0_; have BK131 := n1_; have GW131 := n2_; have GE131 := n3_; clear n0_ n1_ n2_ n3_; clear hb hbox hg; have hcz49_0 : w48.cell? ⟨gb131, 0, none⟩ = some (.string (⟨#[]⟩ : ByteArray)) := (blk_cell BK131.out 0).trans rfl; have hcz49_1 : w48.cell? ⟨gb131, 1, none⟩ = some (.string (⟨#[]⟩ : ByteArray)) := (blk_cell BK131.out 1).trans rfl; have hcz49_2 : w48.cell? ⟨gb131, 2, none⟩ = some (.int .i64 0) := (blk_cell BK131.out 2).trans rfl; have hcz49_3 : w48.cell? ⟨gb131, 3, none⟩ = some (.int .i64 0) := (blk_cell BK131.out 3).trans rfl; have hfz49_0 := blk_frozen BK131.out 0; have hfz49_1 := blk_frozen BK131.out 1; have hfz49_2 := blk_frozen BK131.out 2; have hfz49_3 := blk_frozen BK131.out 3))
       have n0_ : Aside0 (((((w48.setCell ⟨gb131, 0, none⟩ (.string ((rd_T43 l0 x7_1).f0))).setCell ⟨gb131, 1, none⟩ (.string ((rd_T43 l0 x7_1).f1))).setCell ⟨gb131, 2, none⟩ (.int .i64 ((rd_T43 l0 x7_1).f2.f0))).setCell ⟨gb131, 3, none⟩ (.int .i64 ((rd_T43 l0 x7_1).f2.f1))).heap[gb131]? = some (.cells #[.string ((rd_T43 l0 x7_1).f0), .string ((rd_T43 l0 x7_1).f1), .int .i64 ((rd_T43 l0 x7_1).f2.f0), .int .i64 ((rd_T43 l0 x7_1).f2.f1)] 43 (0, 0))) := ⟨by (with_reducible repeat (first | apply blN | apply blD | apply blA)); refine blk_put (cs := #[.string ((rd_T43 l0 x7_1).f0), .string ((rd_T43 l0 x7_1).f1), .int .i64 ((rd_T43 l0 x7_1).f2.f0), .int .i64 0]) ?_ 3 _ rfl; (with_reducible repeat (first | apply blN | apply blD | apply blA)); refine blk_put (cs := #[.string ((rd_T43 l0 x7_1).f0), .string ((rd_T43 l0 x7_1).f1), .int .i64 0, .int .i64 0]) ?_ 2 _ rfl; (with_reducible repeat (first | apply blN | apply blD | apply blA)); refine blk_put (cs := #[.string ((rd_T43 l0 x7_1).f0), .string (⟨#[]⟩ : ByteArray), .int .i64 0, .int .i64 0]) ?_ 1 _ rfl; (with_reducible repeat (first | apply blN | apply blD | apply blA)); refine blk_put (cs := #[.string (⟨#[]⟩ : ByteArray), .string (⟨#[]⟩ : ByteArray), .int .i64 0, .int .i64 0]) ?_ 0 _ rfl; (with_reducible repeat (first | apply blN | apply blD | apply blA)); exact BK131.out⟩
       have n1_ : Aside0 (Below w.heap.size w ((((w48.setCell ⟨gb131, 0, none⟩ (.string ((rd_T43 l0 x7_1).f0))).setCell ⟨gb131, 1, none⟩ (.string ((rd_T43 l0 x7_1).f1))).setCell ⟨gb131, 2, none⟩ (.int .i64 ((rd_T43 l0 x7_1).f2.f0))).setCell ⟨gb131, 3, none⟩ (.int .i64 ((rd_T43 l0 x7_1).f2.f1)))) := ⟨by repeat (first | (with_reducible first | exact HB.out | apply below_alloc | apply pw_below_drewN | apply below_drew1 | refine below_set ?_ GE131.out) | exact HB.out)⟩
       (try clear BK131)
       (try clear HB)
       generalize ((((w48.setCell ⟨gb131, 0, none⟩ (.string ((rd_T43 l0 x7_1).f0))).setCell ⟨gb131, 1, none⟩ (.string ((rd_T43 l0 x7_1).f1))).setCell ⟨gb131, 2, none⟩ (.int .i64 ((rd_T43 l0 x7_1).f2.f0))).setCell ⟨gb131, 3, none⟩ (.int .i64 ((rd_T43 l0 x7_1).f2.f1))) = w50 at n0_ n1_ ⊢
       have BK131 := n0_
       have HB := n1_
       clear n0_ n1_
       have n0_ := Aside0.mk (blk_drew BK131.out)
       have n1_ := Aside0.mk (below_drew1 HB.out)
       clear BK131
       clear HB
       have BK131 := n0_
       have HB := n1_
       clear n0_ n1_
       refine start_ (n := 42) (S := fun w' => w'.cell? ⟨gb131, 0, none⟩ = some (.string ((rd_T43 l0 x7_1).f0)) ∧ w'.cell? ⟨gb131, 1, none⟩ = some (.string ((rd_T43 l0 x7_1).f1)) ∧ w'.cell? ⟨gb131, 2, none⟩ = some (.int .i64 ((rd_T43 l0 x7_1).f2.f0)) ∧ w'.cell? ⟨gb131, 3, none⟩ = some (.int .i64 ((rd_T43 l0 x7_1).f2.f1))) (ds := []) #[O,O,O,O,O,O,O,O,O,O,O,O,O,O,O,O,O,O,O,O,O,O,O,O,O,O,O,O,O,O,O,O,O,O,O,O,O,O,O,O,O,O] (by kernel_rfl) rfl rfl ⟨(blk_cell BK131.out 0).trans rfl, (blk_cell BK131.out 1).trans rfl, (blk_cell BK131.out 2).trans rfl, (blk_cell BK131.out 3).trans rfl⟩ (fun hHeld => ?_); refine with_tabW pair_May.tab4 pair_May.bits4 (fun HT_ HW_ => ?_)
       generalize w50.drew = w51 at BK131 HB hHeld ⊢
       refine sqP (i := 0) (N := some 12) (v := ?_) (a' := ?_) #[I,O,O,O,O,O,O,O,O,O,O,O,O,O,O,O,O,O,O,O,O,O,O,O,O,O,O,O,O,O,O,O,O,O,O,O,O,O,O,O,O,O] rfl rfl HT_.out (Or.inl ⟨by rfl, ?_⟩) ?_ ?_
       rotate_left
       ·intro w'
        go_simp
        with_reducible rfl
       rotate_left
       ·simp only [Act.put, sqA, sqB, sqC, i64_w, i32_w]
        rfl
       refine take_ (i := 1) (N := some 13) (v := ?_) (a' := ?_) #[I,I,O,O,O,O,O,O,O,O,O,O,O,O,O,O,O,O,O,O,O,O,O,O,O,O,O,O,O,O,O,O,O,O,O,O,O,O,O,O,O,O] rfl rfl (take_ofW HT_.out HW_.out (by kernel_rfl)) (fun _ _ _ h => h) (Or.inl ⟨by rfl, ?_⟩) hHeld ?_ ?_
       rotate_left
       ·rintro w' ⟨s0, s1, s2, s3⟩
        go_simp
        with_reducible rfl
       rotate_left
       ·simp only [Act.put, sqA, sqB, sqC, i64_w, i32_w]
        rfl
       refine one_ (i := 2) (N := some 14) #[I,I,I,O,O,O,O,O,O,O,O,O,O,O,O,O,O,O,O,O,O,O,O,O,O,O,O,O,O,O,O,O,O,O,O,O,O,O,O,O,O,O] rfl rfl (one_of HT_.out (by kernel_rfl)) (by decide) (fun K hK => ?_)
       refine goes_ Tryz.func76 (by kernel_rfl) rfl #[.string ((rd_T43 l0 x7_1).f0)] (by rfl) rfl rfl (by (try simp only [List.map_toArray, List.map_cons, List.map_nil]); first | done | rfl | (simp only [List.length_drop, List.length_take]; rfl)) ?_
       with_reducible refine (ops_Key.calls ((rd_T43 l0 x7_1).f0) false _ A5.out).mono ?_
       rintro e w' ⟨rfl, ⟨nd, rfl⟩⟩
       refine ⟨_, rfl, ?_⟩
       refine hK.out _ _ ⟨(blk_cell BK131.out 0).trans rfl, (blk_cell BK131.out 1).trans rfl, (blk_cell BK131.out 2).trans rfl, (blk_cell BK131.out 3).trans rfl⟩ (fun hHeld => ?_)
       clear hK K
       refine norm_ (a' := ?_) ?_ ?_
       rotate_left
       ·show Act.put _ (some 14) _ = _
        simp only [Act.put, sqA, sqB, sqC, i64_w, i32_w]
        rfl
       refine sqP (i := 3) (N := some 15) (v := ?_) (a' := ?_) #[I,I,I,I,O,O,O,O,O,O,O,O,O,O,O,O,O,O,O,O,O,O,O,O,O,O,O,O,O,O,O,O,O,O,O,O,O,O,O,O,O,O] rfl rfl HT_.out (Or.inl ⟨by rfl, ?_⟩) ?_ ?_
       rotate_left
       ·intro w'
        go_simp
        with_reducible rfl
       rotate_left
       ·simp only [Act.put, sqA, sqB, sqC, i64_w, i32_w]
        rfl
       refine sqP (i := 4) (N := some 16) (v := ?_) (a' := ?_) #[I,I,I,I,I,O,O,O,O,O,O,O,O,O,O,O,O,O,O,O,O,O,O,O,O,O,O,O,O,O,O,O,O,O,O,O,O,O,O,O,O,O] rfl rfl HT_.out (Or.inl ⟨by rfl, ?_⟩) ?_ ?_
       rotate_left
       ·intro w'
        go_simp
        with_reducible rfl
       rotate_left
       ·simp only [Act.put, sqA, sqB, sqC, i64_w, i32_w]
        rfl
       refine sqP (i := 5) (N := some 17) (v := undef) (a' := ?_) #[I,I,I,I,I,I,O,O,O,O,O,O,O,O,O,O,O,O,O,O,O,O,O,O,O,O,O,O,O,O,O,O,O,O,O,O,O,O,O,O,O,O] rfl rfl HT_.out (Or.inr ⟨by rfl, rfl⟩) ?_ ?_
       rotate_left
       ·simp only [Act.put, sqA, sqB, sqC, i64_w, i32_w]
        rfl
       refine sqP (i := 6) (N := some 18) (v := undef) (a' := ?_) #[I,I,I,I,I,I,I,O,O,O,O,O,O,O,O,O,O,O,O,O,O,O,O,O,O,O,O,O,O,O,O,O,O,O,O,O,O,O,O,O,O,O] rfl rfl HT_.out (Or.inr ⟨by rfl, rfl⟩) ?_ ?_
       rotate_left
       ·simp only [Act.put, sqA, sqB, sqC, i64_w, i32_w]
        rfl
       refine sqP (i := 7) (N := some 19) (v := undef) (a' := ?_) #[I,I,I,I,I,I,I,I,O,O,O,O,O,O,O,O,O,O,O,O,O,O,O,O,O,O,O,O,O,O,O,O,O,O,O,O,O,O,O,O,O,O] rfl rfl HT_.out (Or.inr ⟨by rfl, rfl⟩) ?_ ?_
       rotate_left
       ·simp only [Act.put, sqA, sqB, sqC, i64_w, i32_w]
        rfl
       refine sqP (i := 8) (N := some 20) (v := undef) (a' := ?_) #[I,I,I,I,I,I,I,I,I,O,O,O,O,O,O,O,O,O,O,O,O,O,O,O,O,O,O,O,O,O,O,O,O,O,O,O,O,O,O,O,O,O] rfl rfl HT_.out (Or.inr ⟨by rfl, rfl⟩) ?_ ?_
       rotate_left
       ·simp only [Act.put, sqA, sqB, sqC, i64_w, i32_w]
        rfl
       refine sqP (i := 9) (N := some 21) (v := ?_) (a' := ?_) #[I,I,I,I,I,I,I,I,I,I,O,O,O,O,O,O,O,O,O,O,O,O,O,O,O,O,O,O,O,O,O,O,O,O,O,O,O,O,O,O,O,O] rfl rfl HT_.out (Or.inl ⟨by rfl, ?_⟩) ?_ ?_
       rotate_left
       ·intro w'
        go_simp
        with_reducible rfl
       rotate_left
       ·simp only [Act.put, sqA, sqB, sqC, i64_w, i32_w]
        rfl
       refine sqP (i := 10) (N := some 22) (v := ?_) (a' := ?_) #[I,I,I,I,I,I,I,I,I,I,I,O,O,O,O,O,O,O,O,O,O,O,O,O,O,O,O,O,O,O,O,O,O,O,O,O,O,O,O,O,O,O] rfl rfl HT_.out (Or.inl ⟨by rfl, ?_⟩) ?_ ?_
       rotate_left
       ·intro w'
        go_simp
        with_reducible rfl
       rotate_left
       ·simp only [Act.put, sqA, sqB, sqC, i64_w, i32_w]
        rfl
       refine sqP (i := 11) (N := some 23) (v := undef) (a' := ?_) #[I,I,I,I,I,I,I,I,I,I,I,I,O,O,O,O,O,O,O,O,O,O,O,O,O,O,O,O,O,O,O,O,O,O,O,O,O,O,O,O,O,O] rfl rfl HT_.out (Or.inr ⟨by rfl, rfl⟩) ?_ ?_
       rotate_left
       ·simp only [Act.put, sqA, sqB, sqC, i64_w, i32_w]
        rfl
       refine sqP (i := 12) (N := some 24) (v := undef) (a' := ?_) #[I,I,I,I,I,I,I,I,I,I,I,I,I,O,O,O,O,O,O,O,O,O,O,O,O,O,O,O,O,O,O,O,O,O,O,O,O,O,O,O,O,O] rfl rfl HT_.out (Or.inr ⟨by rfl, rfl⟩) ?_ ?_
       rotate_left
       ·simp only [Act.put, sqA, sqB, sqC, i64_w, i32_w]
        rfl
       refine sqP (i := 13) (N := some 25) (v := undef) (a' := ?_) #[I,I,I,I,I,I,I,I,I,I,I,I,I,I,O,O,O,O,O,O,O,O,O,O,O,O,O,O,O,O,O,O,O,O,O,O,O,O,O,O,O,O] rfl rfl HT_.out (Or.inr ⟨by rfl, rfl⟩) ?_ ?_
       rotate_left
       ·simp only [Act.put, sqA, sqB, sqC, i64_w, i32_w]
        rfl
       refine sqP (i := 14) (N := some 26) (v := undef) (a' := ?_) #[I,I,I,I,I,I,I,I,I,I,I,I,I,I,I,O,O,O,O,O,O,O,O,O,O,O,O,O,O,O,O,O,O,O,O,O,O,O,O,O,O,O] rfl rfl HT_.out (Or.inr ⟨by rfl, rfl⟩) ?_ ?_
       rotate_left
       ·simp only [Act.put, sqA, sqB, sqC, i64_w, i32_w]
        rfl
       refine sqP (i := 15) (N := some 27) (v := ?_) (a' := ?_) #[I,I,I,I,I,I,I,I,I,I,I,I,I,I,I,I,O,O,O,O,O,O,O,O,O,O,O,O,O,O,O,O,O,O,O,O,O,O,O,O,O,O] rfl rfl HT_.out (Or.inl ⟨by rfl, ?_⟩) ?_ ?_
       rotate_left
       ·intro w'
        go_simp
        with_reducible rfl
       rotate_left
       ·simp only [Act.put, sqA, sqB, sqC, i64_w, i32_w]
        rfl
       refine sqP (i := 16) (N := some 28) (v := ?_) (a' := ?_) #[I,I,I,I,I,I,I,I,I,I,I,I,I,I,I,I,I,O,O,O,O,O,O,O,O,O,O,O,O,O,O,O,O,O,O,O,O,O,O,O,O,O] rfl rfl HT_.out (Or.inl ⟨by rfl, ?_⟩) ?_ ?_
       rotate_left
       ·intro w'
        go_simp
        with_reducible rfl
       rotate_left
       ·simp only [Act.put, sqA, sqB, sqC, i64_w, i32_w]
        rfl
       refine sqP (i := 17) (N := some 29) (v := undef) (a' := ?_) #[I,I,I,I,I,I,I,I,I,I,I,I,I,I,I,I,I,I,O,O,O,O,O,O,O,O,O,O,O,O,O,O,O,O,O,O,O,O,O,O,O,O] rfl rfl HT_.out (Or.inr ⟨by rfl, rfl⟩) ?_ ?_
       rotate_left
       ·simp only [Act.put, sqA, sqB, sqC, i64_w, i32_w]
        rfl
       refine sqP (i := 18) (N := some 30) (v := undef) (a' := ?_) #[I,I,I,I,I,I,I,I,I,I,I,I,I,I,I,I,I,I,I,O,O,O,O,O,O,O,O,O,O,O,O,O,O,O,O,O,O,O,O,O,O,O] rfl rfl HT_.out (Or.inr ⟨by rfl, rfl⟩) ?_ ?_
       rotate_left
       ·simp only [Act.put, sqA, sqB, sqC, i64_w, i32_w]
        rfl
       refine sqP (i := 19) (N := some 31) (v := undef) (a' := ?_) #[I,I,I,I,I,I,I,I,I,I,I,I,I,I,I,I,I,I,I,I,O,O,O,O,O,O,O,O,O,O,O,O,O,O,O,O,O,O,O,O,O,O] rfl rfl HT_.out (Or.inr ⟨by rfl, rfl⟩) ?_ ?_
       rotate_left
       ·simp only [Act.put, sqA, sqB, sqC, i64_w, i32_w]
        rfl
       refine sqP (i := 20) (N := some 32) (v := undef) (a' := ?_) #[I,I,I,I,I,I,I,I,I,I,I,I,I,I,I,I,I,I,I,I,I,O,O,O,O,O,O,O,O,O,O,O,O,O,O,O,O,O,O,O,O,O] rfl rfl HT_.out (Or.inr ⟨by rfl, rfl⟩) ?_ ?_
       rotate_left
       ·simp only [Act.put, sqA, sqB, sqC, i64_w, i32_w]
        rfl
       refine sqP (i := 21) (N := some 33) (v := ?_) (a' := ?_) #[I,I,I,I,I,I,I,I,I,I,I,I,I,I,I,I,I,I,I,I,I,I,O,O,O,O,O,O,O,O,O,O,O,O,O,O,O,O,O,O,O,O] rfl rfl HT_.out (Or.inl ⟨by rfl, ?_⟩) ?_ ?_
       rotate_left
       ·intro w'
        go_simp
        with_reducible rfl
       rotate_left
       ·simp only [Act.put, sqA, sqB, sqC, i64_w, i32_w]
        rfl
       refine sqP (i := 22) (N := some 34) (v := ?_) (a' := ?_) #[I,I,I,I,I,I,I,I,I,I,I,I,I,I,I,I,I,I,I,I,I,I,I,O,O,O,O,O,O,O,O,O,O,O,O,O,O,O,O,O,O,O] rfl rfl HT_.out (Or.inl ⟨by rfl, ?_⟩) ?_ ?_
       rotate_left
       ·intro w'
        go_simp
        with_reducible rfl
       rotate_left
       ·simp only [Act.put, sqA, sqB, sqC, i64_w, i32_w]
        rfl
       refine sqP (i := 23) (N := some 35) (v := undef) (a' := ?_) #[I,I,I,I,I,I,I,I,I,I,I,I,I,I,I,I,I,I,I,I,I,I,I,I,O,O,O,O,O,O,O,O,O,O,O,O,O,O,O,O,O,O] rfl rfl HT_.out (Or.inr ⟨by rfl, rfl⟩) ?_ ?_
       rotate_left
       ·simp only [Act.put, sqA, sqB, sqC, i64_w, i32_w]
        rfl
       refine sqP (i := 24) (N := some 36) (v := undef) (a' := ?_) #[I,I,I,I,I,I,I,I,I,I,I,I,I,I,I,I,I,I,I,I,I,I,I,I,I,O,O,O,O,O,O,O,O,O,O,O,O,O,O,O,O,O] rfl rfl HT_.out (Or.inr ⟨by rfl, rfl⟩) ?_ ?_
       rotate_left
       ·simp only [Act.put, sqA, sqB, sqC, i64_w, i32_w]
        rfl
       refine sqP (i := 25) (N := some 37) (v := undef) (a' := ?_) #[I,I,I,I,I,I,I,I,I,I,I,I,I,I,I,I,I,I,I,I,I,I,I,I,I,I,O,O,O,O,O,O,O,O,O,O,O,O,O,O,O,O] rfl rfl HT_.out (Or.inr ⟨by rfl, rfl⟩) ?_ ?_
       rotate_left
       ·simp only [Act.put, sqA, sqB, sqC, i64_w, i32_w]
        rfl
       refine sqP (i := 26) (N := some 38) (v := undef) (a' := ?_) #[I,I,I,I,I,I,I,I,I,I,I,I,I,I,I,I,I,I,I,I,I,I,I,I,I,I,I,O,O,O,O,O,O,O,O,O,O,O,O,O,O,O] rfl rfl HT_.out (Or.inr ⟨by rfl, rfl⟩) ?_ ?_
       rotate_left
       ·simp only [Act.put, sqA, sqB, sqC, i64_w, i32_w]
        rfl
       refine sqP (i := 27) (N := some 39) (v := ?_) (a' := ?_) #[I,I,I,I,I,I,I,I,I,I,I,I,I,I,I,I,I,I,I,I,I,I,I,I,I,I,I,I,O,O,O,O,O,O,O,O,O,O,O,O,O,O] rfl rfl HT_.out (Or.inl ⟨by rfl, ?_⟩) ?_ ?_
       rotate_left
       ·intro w'
        go_simp
        with_reducible rfl
       rotate_left
       ·simp only [Act.put, sqA, sqB, sqC, i64_w, i32_w]
        rfl
       refine sqP (i := 28) (N := some 40) (v := ?_) (a' := ?_) #[I,I,I,I,I,I,I,I,I,I,I,I,I,I,I,I,I,I,I,I,I,I,I,I,I,I,I,I,I,O,O,O,O,O,O,O,O,O,O,O,O,O] rfl rfl HT_.out (Or.inl ⟨by rfl, ?_⟩) ?_ ?_
       rotate_left
       ·intro w'
        go_simp
        with_reducible rfl
       rotate_left
       ·simp only [Act.put, sqA, sqB, sqC, i64_w, i32_w]
        rfl
       refine sqP (i := 29) (N := some 41) (v := undef) (a' := ?_) #[I,I,I,I,I,I,I,I,I,I,I,I,I,I,I,I,I,I,I,I,I,I,I,I,I,I,I,I,I,I,O,O,O,O,O,O,O,O,O,O,O,O] rfl rfl HT_.out (Or.inr ⟨by rfl, rfl⟩) ?_ ?_
       rotate_left
       ·simp only [Act.put, sqA, sqB, sqC, i64_w, i32_w]
        rfl
       refine sqP (i := 30) (N := some 42) (v := undef) (a' := ?_) #[I,I,I,I,I,I,I,I,I,I,I,I,I,I,I,I,I,I,I,I,I,I,I,I,I,I,I,I,I,I,I,O,O,O,O,O,O,O,O,O,O,O] rfl rfl HT_.out (Or.inr ⟨by rfl, rfl⟩) ?_ ?_
       rotate_left
       ·simp only [Act.put, sqA, sqB, sqC, i64_w, i32_w]
        rfl
       refine sqP (i := 31) (N := some 43) (v := undef) (a' := ?_) #[I,I,I,I,I,I,I,I,I,I,I,I,I,I,I,I,I,I,I,I,I,I,I,I,I,I,I,I,I,I,I,I,O,O,O,O,O,O,O,O,O,O] rfl rfl HT_.out (Or.inr ⟨by rfl, rfl⟩) ?_ ?_
       rotate_left
       ·simp only [Act.put, sqA, sqB, sqC, i64_w, i32_w]
        rfl
       refine sqP (i := 32) (N := some 44) (v := undef) (a' := ?_) #[I,I,I,I,I,I,I,I,I,I,I,I,I,I,I,I,I,I,I,I,I,I,I,I,I,I,I,I,I,I,I,I,I,O,O,O,O,O,O,O,O,O] rfl rfl HT_.out (Or.inr ⟨by rfl, rfl⟩) ?_ ?_
       rotate_left
       ·simp only [Act.put, sqA, sqB, sqC, i64_w, i32_w]
        rfl
       refine sqP (i := 33) (N := some 45) (v := undef) (a' := ?_) #[I,I,I,I,I,I,I,I,I,I,I,I,I,I,I,I,I,I,I,I,I,I,I,I,I,I,I,I,I,I,I,I,I,I,O,O,O,O,O,O,O,O] rfl rfl HT_.out (Or.inr ⟨by rfl, rfl⟩) ?_ ?_
       rotate_left
       ·simp only [Act.put, sqA, sqB, sqC, i64_w, i32_w]
        rfl
       refine sqP (i := 34) (N := some 46) (v := undef) (a' := ?_) #[I,I,I,I,I,I,I,I,I,I,I,I,I,I,I,I,I,I,I,I,I,I,I,I,I,I,I,I,I,I,I,I,I,I,I,O,O,O,O,O,O,O] rfl rfl HT_.out (Or.inr ⟨by rfl, rfl⟩) ?_ ?_
       rotate_left
       ·simp only [Act.put, sqA, sqB, sqC, i64_w, i32_w]
        rfl
       refine sqP (i := 35) (N := some 47) (v := undef) (a' := ?_) #[I,I,I,I,I,I,I,I,I,I,I,I,I,I,I,I,I,I,I,I,I,I,I,I,I,I,I,I,I,I,I,I,I,I,I,I,O,O,O,O,O,O] rfl rfl HT_.out (Or.inr ⟨by rfl, rfl⟩) ?_ ?_
       rotate_left
       ·simp only [Act.put, sqA, sqB, sqC, i64_w, i32_w]
        rfl
       refine sqP (i := 36) (N := some 48) (v := undef) (a' := ?_) #[I,I,I,I,I,I,I,I,I,I,I,I,I,I,I,I,I,I,I,I,I,I,I,I,I,I,I,I,I,I,I,I,I,I,I,I,I,O,O,O,O,O] rfl rfl HT_.out (Or.inr ⟨by rfl, rfl⟩) ?_ ?_
       rotate_left
       ·simp only [Act.put, sqA, sqB, sqC, i64_w, i32_w]
        rfl
       refine sqP (i := 37) (N := some 49) (v := undef) (a' := ?_) #[I,I,I,I,I,I,I,I,I,I,I,I,I,I,I,I,I,I,I,I,I,I,I,I,I,I,I,I,I,I,I,I,I,I,I,I,I,I,O,O,O,O] rfl rfl HT_.out (Or.inr ⟨by rfl, rfl⟩) ?_ ?_
       rotate_left
       ·simp only [Act.put, sqA, sqB, sqC, i64_w, i32_w]
        rfl
       refine sqP (i := 38) (N := some 50) (v := undef) (a' := ?_) #[I,I,I,I,I,I,I,I,I,I,I,I,I,I,I,I,I,I,I,I,I,I,I,I,I,I,I,I,I,I,I,I,I,I,I,I,I,I,I,O,O,O] rfl rfl HT_.out (Or.inr ⟨by rfl, rfl⟩) ?_ ?_
       rotate_left
       ·simp only [Act.put, sqA, sqB, sqC, i64_w, i32_w]
        rfl
       refine sqP (i := 39) (N := some 51) (v := undef) (a' := ?_) #[I,I,I,I,I,I,I,I,I,I,I,I,I,I,I,I,I,I,I,I,I,I,I,I,I,I,I,I,I,I,I,I,I,I,I,I,I,I,I,I,O,O] rfl rfl HT_.out (Or.inr ⟨by rfl, rfl⟩) ?_ ?_
       rotate_left
       ·simp only [Act.put, sqA, sqB, sqC, i64_w, i32_w]
        rfl
       refine sqP (i := 40) (N := some 52) (v := undef) (a' := ?_) #[I,I,I,I,I,I,I,I,I,I,I,I,I,I,I,I,I,I,I,I,I,I,I,I,I,I,I,I,I,I,I,I,I,I,I,I,I,I,I,I,I,O] rfl rfl HT_.out (Or.inr ⟨by rfl, rfl⟩) ?_ ?_
       rotate_left
       ·simp only [Act.put, sqA, sqB, sqC, i64_w, i32_w]
        rfl
       refine sqP (i := 41) (N := some 53) (v := ?_) (a' := ?_) #[I,I,I,I,I,I,I,I,I,I,I,I,I,I,I,I,I,I,I,I,I,I,I,I,I,I,I,I,I,I,I,I,I,I,I,I,I,I,I,I,I,I] rfl rfl HT_.out (Or.inl ⟨by rfl, ?_⟩) ?_ ?_
       rotate_left
       ·intro w'
        go_simp
        with_reducible rfl
       rotate_left
       ·simp only [Act.put, sqA, sqB, sqC, i64_w, i32_w]
        rfl
       refine done_ (done_of HT_.out (by kernel_rfl)) ?_
       try go_wp2
       go_ret
       exact ⟨by first | rfl | (simp [errW_none, errW_some] <;> rfl) | (simp [*, errW_none, errW_some] <;> rfl), by repeat (first | (with_reducible first | exact HB.out | apply below_alloc | apply pw_below_drewN | apply below_drew1 | refine below_set ?_ GE131.out) | exact HB.out)⟩
     ·rw [if_neg c4] at H
      exact absurd H (by simp)
    ·rw [if_neg c3] at H
     exact absurd H (by simp)
   ·rw [if_neg c2] at H
    have c2b0 : decide (x7_1 < (l0.length : Int)) = false := decide_eq_false c2
    clear c2
    obtain rfl := Option.some.inj H
    go_wp2
    go_ret
    exact ⟨by first | rfl | (simp [errW_none, errW_some] <;> rfl) | (simp [*, errW_none, errW_some] <;> rfl), by repeat (first | (with_reducible first | exact HB.out | apply below_alloc | apply pw_below_drewN | apply below_drew1) | exact HB.out)⟩

end Go.Proofs.YtmcddoolniaehaaGreat.S
end
