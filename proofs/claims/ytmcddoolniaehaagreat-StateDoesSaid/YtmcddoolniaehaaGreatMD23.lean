/- Several of the walk's texts in one: Sx24, SRR1, Sx20, SHRPMay. -/
import Derived.BigQuiet
import Derived.Test.YtmcddoolniaehaaGreatMD04
import Derived.Test.YtmcddoolniaehaaGreatMD05
import Derived.Test.YtmcddoolniaehaaGreatMD17
import Derived.Test.YtmcddoolniaehaaGreatMD18
import Derived.Test.YtmcddoolniaehaaGreatMD21
import Derived.Test.YtmcddoolniaehaaGreatMD22
section
namespace Go.Proofs.YtmcddoolniaehaaGreat.S
open Go.RowKit Go.Proofs.YtmcddoolniaehaaGreatW.PrintWords Go.Proofs.YtmcddoolniaehaaGreatW.PrintLast Go.Proofs.YtmcddoolniaehaaGreatW.PrintMore
attribute [local go_sem] max2_int min2_int max_two min_two max_three min_three max_four min_four   -- for this text's walks alone
set_option linter.unusedVariables false
set_option linter.unusedSimpArgs false

def ref07_Newer.f (a0_0 : ByteArray) (a0_1 : ByteArray) (a0_2 : Int) (a0_3 : Int) (a0_4 : Int) (a1_0 : ByteArray) (a1_1 : ByteArray) (a1_2 : Int) (a1_3 : Int) (a1_4 : Int) : Option (Bool) := if a0_2 = a1_2 then (if a0_3 = a1_3 then (if a0_4 = a1_4 then (some (Op.bytesLess a1_1.toList a0_1.toList)) else (some (decide (a0_4 > a1_4)))) else (some (decide (a0_3 > a1_3)))) else (some (decide (a0_2 > a1_2)))
set_option maxHeartbeats 8000000 in
set_option maxRecDepth 100000 in
theorem ref07_Newer.calls (a0_0 : ByteArray) (a0_1 : ByteArray) (a0_2 : Int) (a0_3 : Int) (a0_4 : Int) (a1_0 : ByteArray) (a1_1 : ByteArray) (a1_2 : Int) (a1_3 : Int) (a1_4 : Int) (r : Bool) (w : World) (h : ref07_Newer.f a0_0 a0_1 a0_2 a0_3 a0_4 a1_0 a1_1 a1_2 a1_3 a1_4 = some r) :
  Calls Tryz.prog 92 #[.agg #[.string a0_0, .string a0_1, .int .i64 a0_2, .int .i64 a0_3, .int .i64 a0_4], .agg #[.string a1_0, .string a1_1, .int .i64 a1_2, .int .i64 a1_3, .int .i64 a1_4]] w fun e w' => e = .returned (.bool r) ∧ Below w.heap.size w w' := by
 have hu47 := Tryz.underlying47
 have HB := Aside0.mk (Below.refl w.heap.size w)
 have H : (if a0_2 = a1_2 then (if a0_3 = a1_3 then (if a0_4 = a1_4 then (some (Op.bytesLess a1_1.toList a0_1.toList)) else (some (decide (a0_4 > a1_4)))) else (some (decide (a0_3 > a1_3)))) else (some (decide (a0_2 > a1_2)))) = some r := h
 clear h
 by_cases c3 : a0_2 = a1_2
 ·rw [if_pos c3] at H
  have c3b0 : (a0_2 == a1_2) = true := beq_iff_eq.mpr c3
  have c3b1 : (a0_2 != a1_2) = false := bne_eq_false_iff_eq.mpr c3
  clear c3
  by_cases c4 : a0_3 = a1_3
  ·rw [if_pos c4] at H
   have c4b0 : (a0_3 == a1_3) = true := beq_iff_eq.mpr c4
   have c4b1 : (a0_3 != a1_3) = false := bne_eq_false_iff_eq.mpr c4
   clear c4
   by_cases c5 : a0_4 = a1_4
   ·rw [if_pos c5] at H
    have c5b0 : (a0_4 == a1_4) = true := beq_iff_eq.mpr c5
    have c5b1 : (a0_4 != a1_4) = false := bne_eq_false_iff_eq.mpr c5
    clear c5
    obtain rfl := Option.some.inj H
    go_enter Tryz.func92, Tryz.ntmps92
    go_wp2_with (first | ((with_reducible refine gate_dst (N := 2) rfl ?_); refine box_event ?hg (N := 2) ?hd (cs := #[.string a0_0, .string a0_1, .int .i64 a0_2, .int .i64 a0_3, .int .i64 a0_4]) (t := 47) ?hr ?_; (case hd => rfl); (case hg => rfl); (case hr => first | (go_simp; done) | (go_simp; rfl)); intro gb242 hg w6 hbox hb; have n0_ := Aside0.mk (below_step (by repeat (first | (with_reducible first | exact HB.out | apply below_alloc | apply pw_below_drewN | apply below_drew1) | exact HB.out)) hb); have n1_ := Aside0.mk (hbox); have n2_ := Aside0.mk ((by rw [hg]; exact (below_size (by repeat (first | (with_reducible first | exact HB.out | apply below_alloc | apply pw_below_drewN | apply below_drew1) | exact HB.out))) : w.heap.size ≤ gb242)); have n3_ := Aside0.mk ((by rw [hg]; exact (below_size (by repeat (first | (with_reducible first | exact HB.out | apply below_alloc | apply pw_below_drewN | apply below_drew1) | exact HB.out))) : w.heap.size ≤ gb242)); clear HB; have HB := n0_; have BK242 := n1_; have GW242 := n2_; have GE242 := n3_; clear n0_ n1_ n2_ n3_; clear hb hbox hg) | ((with_reducible refine gate_dst (N := 3) rfl ?_); refine box_event ?hg (N := 3) ?hd (cs := #[.string a1_0, .string a1_1, .int .i64 a1_2, .int .i64 a1_3, .int .i64 a1_4]) (t := 47) ?hr ?_; (case hd => rfl); (case hg => rfl); (case hr => first | (go_simp; done) | (go_simp; rfl)); intro gb243 hg w7 hbox hb; have n0_ := Aside0.mk (blk_below (g := gb242) (o := .cells #[.string a0_0, .string a0_1, .int .i64 a0_2, .int .i64 a0_3, .int .i64 a0_4] 47 (0, 0)) (by (with_reducible repeat (first | refine blk_drewN ?_ _ | refine blk_drew ?_ | refine blk_alloc ?_ _)); exact BK242.out) hb); have n1_ := Aside0.mk (below_step (by repeat (first | (with_reducible first | exact HB.out | apply below_alloc | apply pw_below_drewN | apply below_drew1 | refine below_set ?_ GE242.out) | exact HB.out)) hb); have n2_ := Aside0.mk (hbox); have n3_ := Aside0.mk ((by rw [hg]; exact (below_size (by repeat (first | (with_reducible first | exact HB.out | apply below_alloc | apply pw_below_drewN | apply below_drew1 | refine below_set ?_ GE242.out) | exact HB.out))) : w.heap.size ≤ gb243)); have n4_ := Aside0.mk ((by rw [hg]; exact (below_size (by repeat (first | (with_reducible first | exact HB.out | apply below_alloc | apply pw_below_drewN | apply below_drew1 | refine below_set ?_ GE242.out) | exact HB.out))) : w.heap.size ≤ gb243)); have n5_ := Aside0.mk ((by rw [hg]; exact Nat.ne_of_lt (blk_lt (g := gb242) (o := .cells #[.string a0_0, .string a0_1, .int .i64 a0_2, .int .i64 a0_3, .int .i64 a0_4] 47 (0, 0)) (by (with_reducible repeat (first | refine blk_drewN ?_ _ | refine blk_drew ?_ | refine blk_alloc ?_ _)); exact BK242.out)) : gb242 ≠ gb243)); have n6_ := Aside0.mk ((by rw [hg]; exact Nat.ne_of_gt (blk_lt (g := gb242) (o := .cells #[.string a0_0, .string a0_1, .int .i64 a0_2, .int .i64 a0_3, .int .i64 a0_4] 47 (0, 0)) (by (with_reducible repeat (first | refine blk_drewN ?_ _ | refine blk_drew ?_ | refine blk_alloc ?_ _)); exact BK242.out)) : gb243 ≠ gb242)); clear BK242; clear HB; have BK242 := n0_; have HB := n1_; have BK243 := n2_; have GW243 := n3_; have GE243 := n4_; have NB242_243 := n5_; have NB243_242 := n6_; clear n0_ n1_ n2_ n3_ n4_ n5_ n6_; clear hb hbox hg; have hnb8 := NB242_243.out; have hnc8 := NB243_242.out; have hcz9_0 : w7.cell? ⟨gb242, 0, none⟩ = some (.string a0_0) := (blk_cell BK242.out 0).trans rfl; have hcz9_1 : w7.cell? ⟨gb242, 1, none⟩ = some (.string a0_1) := (blk_cell BK242.out 1).trans rfl; have hcz9_2 : w7.cell? ⟨gb242, 2, none⟩ = some (.int .i64 a0_2) := (blk_cell BK242.out 2).trans rfl; have hcz9_3 : w7.cell? ⟨gb242, 3, none⟩ = some (.int .i64 a0_3) := (blk_cell BK242.out 3).trans rfl; have hcz9_4 : w7.cell? ⟨gb242, 4, none⟩ = some (.int .i64 a0_4) := (blk_cell BK242.out 4).trans rfl; have hfz9_0 := blk_frozen BK242.out 0; have hfz9_1 := blk_frozen BK242.out 1; have hfz9_2 := blk_frozen BK242.out 2; have hfz9_3 := blk_frozen BK242.out 3; have hfz9_4 := blk_frozen BK242.out 4; have hcz10_0 : w7.cell? ⟨gb243, 0, none⟩ = some (.string a1_0) := (blk_cell BK243.out 0).trans rfl; have hcz10_1 : w7.cell? ⟨gb243, 1, none⟩ = some (.string a1_1) := (blk_cell BK243.out 1).trans rfl; have hcz10_2 : w7.cell? ⟨gb243, 2, none⟩ = some (.int .i64 a1_2) := (blk_cell BK243.out 2).trans rfl; have hcz10_3 : w7.cell? ⟨gb243, 3, none⟩ = some (.int .i64 a1_3) := (blk_cell BK243.out 3).trans rfl; have hcz10_4 : w7.cell? ⟨gb243, 4, none⟩ = some (.int .i64 a1_4) := (blk_cell BK243.out 4).trans rfl; have hfz10_0 := blk_frozen BK243.out 0; have hfz10_1 := blk_frozen BK243.out 1; have hfz10_2 := blk_frozen BK243.out 2; have hfz10_3 := blk_frozen BK243.out 3; have hfz10_4 := blk_frozen BK243.out 4))
    go_ret
    exact ⟨by first | rfl | (simp [errW_none, errW_some] <;> rfl) | (simp [*, errW_none, errW_some] <;> rfl), by repeat (first | (with_reducible first | exact HB.out | apply below_alloc | apply pw_below_drewN | apply below_drew1 | refine below_set ?_ GE242.out | refine below_set ?_ GE243.out) | exact HB.out)⟩
   ·rw [if_neg c5] at H
    have c5b0 : (a0_4 == a1_4) = false := beq_eq_false_iff_ne.mpr c5
    have c5b1 : (a0_4 != a1_4) = true := bne_iff_ne.mpr c5
    obtain rfl := Option.some.inj H
    go_enter Tryz.func92, Tryz.ntmps92
    go_wp2_with (first | ((with_reducible refine gate_dst (N := 2) rfl ?_); refine box_event ?hg (N := 2) ?hd (cs := #[.string a0_0, .string a0_1, .int .i64 a0_2, .int .i64 a0_3, .int .i64 a0_4]) (t := 47) ?hr ?_; (case hd => rfl); (case hg => rfl); (case hr => first | (go_simp; done) | (go_simp; rfl)); intro gb242 hg w11 hbox hb; have n0_ := Aside0.mk (below_step (by repeat (first | (with_reducible first | exact HB.out | apply below_alloc | apply pw_below_drewN | apply below_drew1) | exact HB.out)) hb); have n1_ := Aside0.mk (hbox); have n2_ := Aside0.mk ((by rw [hg]; exact (below_size (by repeat (first | (with_reducible first | exact HB.out | apply below_alloc | apply pw_below_drewN | apply below_drew1) | exact HB.out))) : w.heap.size ≤ gb242)); have n3_ := Aside0.mk ((by rw [hg]; exact (below_size (by repeat (first | (with_reducible first | exact HB.out | apply below_alloc | apply pw_below_drewN | apply below_drew1) | exact HB.out))) : w.heap.size ≤ gb242)); clear HB; have HB := n0_; have BK242 := n1_; have GW242 := n2_; have GE242 := n3_; clear n0_ n1_ n2_ n3_; clear hb hbox hg) | ((with_reducible refine gate_dst (N := 3) rfl ?_); refine box_event ?hg (N := 3) ?hd (cs := #[.string a1_0, .string a1_1, .int .i64 a1_2, .int .i64 a1_3, .int .i64 a1_4]) (t := 47) ?hr ?_; (case hd => rfl); (case hg => rfl); (case hr => first | (go_simp; done) | (go_simp; rfl)); intro gb243 hg w12 hbox hb; have n0_ := Aside0.mk (blk_below (g := gb242) (o := .cells #[.string a0_0, .string a0_1, .int .i64 a0_2, .int .i64 a0_3, .int .i64 a0_4] 47 (0, 0)) (by (with_reducible repeat (first | refine blk_drewN ?_ _ | refine blk_drew ?_ | refine blk_alloc ?_ _)); exact BK242.out) hb); have n1_ := Aside0.mk (below_step (by repeat (first | (with_reducible first | exact HB.out | apply below_alloc | apply pw_below_drewN | apply below_drew1 | refine below_set ?_ GE242.out) | exact HB.out)) hb); have n2_ := Aside0.mk (hbox); have n3_ := Aside0.mk ((by rw [hg]; exact (below_size (by repeat (first | (with_reducible first | exact HB.out | apply below_alloc | apply pw_below_drewN | apply below_drew1 | refine below_set ?_ GE242.out) | exact HB.out))) : w.heap.size ≤ gb243)); have n4_ := Aside0.mk ((by rw [hg]; exact (below_size (by repeat (first | (with_reducible first | exact HB.out | apply below_alloc | apply pw_below_drewN | apply below_drew1 | refine below_set ?_ GE242.out) | exact HB.out))) : w.heap.size ≤ gb243)); have n5_ := Aside0.mk ((by rw [hg]; exact Nat.ne_of_lt (blk_lt (g := gb242) (o := .cells #[.string a0_0, .string a0_1, .int .i64 a0_2, .int .i64 a0_3, .int .i64 a0_4] 47 (0, 0)) (by (with_reducible repeat (first | refine blk_drewN ?_ _ | refine blk_drew ?_ | refine blk_alloc ?_ _)); exact BK242.out)) : gb242 ≠ gb243)); have n6_ := Aside0.mk ((by rw [hg]; exact Nat.ne_of_gt (blk_lt (g := gb242) (o := .cells #[.string a0_0, .string a0_1, .int .i64 a0_2, .int .i64 a0_3, .int .i64 a0_4] 47 (0, 0)) (by (with_reducible repeat (first | refine blk_drewN ?_ _ | refine blk_drew ?_ | refine blk_alloc ?_ _)); exact BK242.out)) : gb243 ≠ gb242)); clear BK242; clear HB; have BK242 := n0_; have HB := n1_; have BK243 := n2_; have GW243 := n3_; have GE243 := n4_; have NB242_243 := n5_; have NB243_242 := n6_; clear n0_ n1_ n2_ n3_ n4_ n5_ n6_; clear hb hbox hg; have hnb13 := NB242_243.out; have hnc13 := NB243_242.out; have hcz14_0 : w12.cell? ⟨gb242, 0, none⟩ = some (.string a0_0) := (blk_cell BK242.out 0).trans rfl; have hcz14_1 : w12.cell? ⟨gb242, 1, none⟩ = some (.string a0_1) := (blk_cell BK242.out 1).trans rfl; have hcz14_2 : w12.cell? ⟨gb242, 2, none⟩ = some (.int .i64 a0_2) := (blk_cell BK242.out 2).trans rfl; have hcz14_3 : w12.cell? ⟨gb242, 3, none⟩ = some (.int .i64 a0_3) := (blk_cell BK242.out 3).trans rfl; have hcz14_4 : w12.cell? ⟨gb242, 4, none⟩ = some (.int .i64 a0_4) := (blk_cell BK242.out 4).trans rfl; have hfz14_0 := blk_frozen BK242.out 0; have hfz14_1 := blk_frozen BK242.out 1; have hfz14_2 := blk_frozen BK242.out 2; have hfz14_3 := blk_frozen BK242.out 3; have hfz14_4 := blk_frozen BK242.out 4; have hcz15_0 : w12.cell? ⟨gb243, 0, none⟩ = some (.string a1_0) := (blk_cell BK243.out 0).trans rfl; have hcz15_1 : w12.cell? ⟨gb243, 1, none⟩ = some (.string a1_1) := (blk_cell BK243.out 1).trans rfl; have hcz15_2 : w12.cell? ⟨gb243, 2, none⟩ = some (.int .i64 a1_2) := (blk_cell BK243.out 2).trans rfl; have hcz15_3 : w12.cell? ⟨gb243, 3, none⟩ = some (.int .i64 a1_3) := (blk_cell BK243.out 3).trans rfl; have hcz15_4 : w12.cell? ⟨gb243, 4, none⟩ = some (.int .i64 a1_4) := (blk_cell BK243.out 4).trans rfl; have hfz15_0 := blk_frozen BK243.out 0; have hfz15_1 := blk_frozen BK243.out 1; have hfz15_2 := blk_frozen BK243.out 2; have hfz15_3 := blk_frozen BK243.out 3; have hfz15_4 := blk_frozen BK243.out 4))
    go_ret
    exact ⟨by first | rfl | (simp [errW_none, errW_some] <;> rfl) | (simp [*, errW_none, errW_some] <;> rfl), by repeat (first | (with_reducible first | exact HB.out | apply below_alloc | apply pw_below_drewN | apply below_drew1 | refine below_set ?_ GE242.out | refine below_set ?_ GE243.out) | exact HB.out)⟩
  ·rw [if_neg c4] at H
   have c4b0 : (a0_3 == a1_3) = false := beq_eq_false_iff_ne.mpr c4
   have c4b1 : (a0_3 != a1_3) = true := bne_iff_ne.mpr c4
   obtain rfl := Option.some.inj H
   go_enter Tryz.func92, Tryz.ntmps92
   go_wp2_with (first | ((with_reducible refine gate_dst (N := 2) rfl ?_); refine box_event ?hg (N := 2) ?hd (cs := #[.string a0_0, .string a0_1, .int .i64 a0_2, .int .i64 a0_3, .int .i64 a0_4]) (t := 47) ?hr ?_; (case hd => rfl); (case hg => rfl); (case hr => first | (go_simp; done) | (go_simp; rfl)); intro gb242 hg w16 hbox hb; have n0_ := Aside0.mk (below_step (by repeat (first | (with_reducible first | exact HB.out | apply below_alloc | apply pw_below_drewN | apply below_drew1) | exact HB.out)) hb); have n1_ := Aside0.mk (hbox); have n2_ := Aside0.mk ((by rw [hg]; exact (below_size (by repeat (first | (with_reducible first | exact HB.out | apply below_alloc | apply pw_below_drewN | apply below_drew1) | exact HB.out))) : w.heap.size ≤ gb242)); have n3_ := Aside0.mk ((by rw [hg]; exact (below_size (by repeat (first | (with_reducible first | exact HB.out | apply below_alloc | apply pw_below_drewN | apply below_drew1) | exact HB.out))) : w.heap.size ≤ gb242)); clear HB; have HB := n0_; have BK242 := n1_; have GW242 := n2_; have GE242 := n3_; clear n0_ n1_ n2_ n3_; clear hb hbox hg) | ((with_reducible refine gate_dst (N := 3) rfl ?_); refine box_event ?hg (N := 3) ?hd (cs := #[.string a1_0, .string a1_1, .int .i64 a1_2, .int .i64 a1_3, .int .i64 a1_4]) (t := 47) ?hr ?_; (case hd => rfl); (case hg => rfl); (case hr => first | (go_simp; done) | (go_simp; rfl)); intro gb243 hg w17 hbox hb; have n0_ := Aside0.mk (blk_below (g := gb242) (o := .cells #[.string a0_0, .string a0_1, .int .i64 a0_2, .int .i64 a0_3, .int .i64 a0_4] 47 (0, 0)) (by (with_reducible repeat (first | refine blk_drewN ?_ _ | refine blk_drew ?_ | refine blk_alloc ?_ _)); exact BK242.out) hb); have n1_ := Aside0.mk (below_step (by repeat (first | (with_reducible first | exact HB.out | apply below_alloc | apply pw_below_drewN | apply below_drew1 | refine below_set ?_ GE242.out) | exact HB.out)) hb); have n2_ := Aside0.mk (hbox); have n3_ := Aside0.mk ((by rw [hg]; exact (below_size (by repeat (first | (with_reducible first | exact HB.out | apply below_alloc | apply pw_below_drewN | apply below_drew1 | refine below_set ?_ GE242.out) | exact HB.out))) : w.heap.size ≤ gb243)); have n4_ := Aside0.mk ((by rw [hg]; exact (below_size (by repeat (first | (with_reducible first | exact HB.out | apply below_alloc | apply pw_below_drewN | apply below_drew1 | refine below_set ?_ GE242.out) | exact HB.out))) : w.heap.size ≤ gb243)); have n5_ := Aside0.mk ((by rw [hg]; exact Nat.ne_of_lt (blk_lt (g := gb242) (o := .cells #[.string a0_0, .string a0_1, .int .i64 a0_2, .int .i64 a0_3, .int .i64 a0_4] 47 (0, 0)) (by (with_reducible repeat (first | refine blk_drewN ?_ _ | refine blk_drew ?_ | refine blk_alloc ?_ _)); exact BK242.out)) : gb242 ≠ gb243)); have n6_ := Aside0.mk ((by rw [hg]; exact Nat.ne_of_gt (blk_lt (g := gb242) (o := .cells #[.string a0_0, .string a0_1, .int .i64 a0_2, .int .i64 a0_3, .int .i64 a0_4] 47 (0, 0)) (by (with_reducible repeat (first | refine blk_drewN ?_ _ | refine blk_drew ?_ | refine blk_alloc ?_ _)); exact BK242.out)) : gb243 ≠ gb242)); clear BK242; clear HB; have BK242 := n0_; have HB := n1_; have BK243 := n2_; have GW243 := n3_; have GE243 := n4_; have NB242_243 := n5_; have NB243_242 := n6_; clear n0_ n1_ n2_ n3_ n4_ n5_ n6_; clear hb hbox hg; have hnb18 := NB242_243.out; have hnc18 := NB243_242.out; have hcz19_0 : w17.cell? ⟨gb242, 0, none⟩ = some (.string a0_0) := (blk_cell BK242.out 0).trans rfl; have hcz19_1 : w17.cell? ⟨gb242, 1, none⟩ = some (.string a0_1) := (blk_cell BK242.out 1).trans rfl; have hcz19_2 : w17.cell? ⟨gb242, 2, none⟩ = some (.int .i64 a0_2) := (blk_cell BK242.out 2).trans rfl; have hcz19_3 : w17.cell? ⟨gb242, 3, none⟩ = some (.int .i64 a0_3) := (blk_cell BK242.out 3).trans rfl; have hcz19_4 : w17.cell? ⟨gb242, 4, none⟩ = some (.int .i64 a0_4) := (blk_cell BK242.out 4).trans rfl; have hfz19_0 := blk_frozen BK242.out 0; have hfz19_1 := blk_frozen BK242.out 1; have hfz19_2 := blk_frozen BK242.out 2; have hfz19_3 := blk_frozen BK242.out 3; have hfz19_4 := blk_frozen BK242.out 4; have hcz20_0 : w17.cell? ⟨gb243, 0, none⟩ = some (.string a1_0) := (blk_cell BK243.out 0).trans rfl; have hcz20_1 : w17.cell? ⟨gb243, 1, none⟩ = some (.string a1_1) := (blk_cell BK243.out 1).trans rfl; have hcz20_2 : w17.cell? ⟨gb243, 2, none⟩ = some (.int .i64 a1_2) := (blk_cell BK243.out 2).trans rfl; have hcz20_3 : w17.cell? ⟨gb243, 3, none⟩ = some (.int .i64 a1_3) := (blk_cell BK243.out 3).trans rfl; have hcz20_4 : w17.cell? ⟨gb243, 4, none⟩ = some (.int .i64 a1_4) := (blk_cell BK243.out 4).trans rfl; have hfz20_0 := blk_frozen BK243.out 0; have hfz20_1 := blk_frozen BK243.out 1; have hfz20_2 := blk_frozen BK243.out 2; have hfz20_3 := blk_frozen BK243.out 3; have hfz20_4 := blk_frozen BK243.out 4))
   go_ret
   exact ⟨by first | rfl | (simp [errW_none, errW_some] <;> rfl) | (simp [*, errW_none, errW_some] <;> rfl), by repeat (first | (with_reducible first | exact HB.out | apply below_alloc | apply pw_below_drewN | apply below_drew1 | refine below_set ?_ GE242.out | refine below_set ?_ GE243.out) | exact HB.out)⟩
 ·rw [if_neg c3] at H
  have c3b0 : (a0_2 == a1_2) = false := beq_eq_false_iff_ne.mpr c3
  have c3b1 : (a0_2 != a1_2) = true := bne_iff_ne.mpr c3
  obtain rfl := Option.some.inj H
  go_enter Tryz.func92, Tryz.ntmps92
  go_wp2_with (first | ((with_reducible refine gate_dst (N := 2) rfl ?_); refine box_event ?hg (N := 2) ?hd (cs := #[.string a0_0, .string a0_1, .int .i64 a0_2, .int .i64 a0_3, .int .i64 a0_4]) (t := 47) ?hr ?_; (case hd => rfl); (case hg => rfl); (case hr => first | (go_simp; done) | (go_simp; rfl)); intro gb242 hg w21 hbox hb; have n0_ := Aside0.mk (below_step (by repeat (first | (with_reducible first | exact HB.out | apply below_alloc | apply pw_below_drewN | apply below_drew1) | exact HB.out)) hb); have n1_ := Aside0.mk (hbox); have n2_ := Aside0.mk ((by rw [hg]; exact (below_size (by repeat (first | (with_reducible first | exact HB.out | apply below_alloc | apply pw_below_drewN | apply below_drew1) | exact HB.out))) : w.heap.size ≤ gb242)); have n3_ := Aside0.mk ((by rw [hg]; exact (below_size (by repeat (first | (with_reducible first | exact HB.out | apply below_alloc | apply pw_below_drewN | apply below_drew1) | exact HB.out))) : w.heap.size ≤ gb242)); clear HB; have HB := n0_; have BK242 := n1_; have GW242 := n2_; have GE242 := n3_; clear n0_ n1_ n2_ n3_; clear hb hbox hg) | ((with_reducible refine gate_dst (N := 3) rfl ?_); refine box_event ?hg (N := 3) ?hd (cs := #[.string a1_0, .string a1_1, .int .i64 a1_2, .int .i64 a1_3, .int .i64 a1_4]) (t := 47) ?hr ?_; (case hd => rfl); (case hg => rfl); (case hr => first | (go_simp; done) | (go_simp; rfl)); intro gb243 hg w22 hbox hb; have n0_ := Aside0.mk (blk_below (g := gb242) (o := .cells #[.string a0_0, .string a0_1, .int .i64 a0_2, .int .i64 a0_3, .int .i64 a0_4] 47 (0, 0)) (by (with_reducible repeat (first | refine blk_drewN ?_ _ | refine blk_drew ?_ | refine blk_alloc ?_ _)); exact BK242.out) hb); have n1_ := Aside0.mk (below_step (by repeat (first | (with_reducible first | exact HB.out | apply below_alloc | apply pw_below_drewN | apply below_drew1 | refine below_set ?_ GE242.out) | exact HB.out)) hb); have n2_ := Aside0.mk (hbox); have n3_ := Aside0.mk ((by rw [hg]; exact (below_size (by repeat (first | (with_reducible first | exact HB.out | apply below_alloc | apply pw_below_drewN | apply below_drew1 | refine below_set ?_ GE242.out) | exact HB.out))) : w.heap.size ≤ gb243)); have n4_ := Aside0.mk ((by rw [hg]; exact (below_size (by repeat (first | (with_reducible first | exact HB.out | apply below_alloc | apply pw_below_drewN | apply below_drew1 | refine below_set ?_ GE242.out) | exact HB.out))) : w.heap.size ≤ gb243)); have n5_ := Aside0.mk ((by rw [hg]; exact Nat.ne_of_lt (blk_lt (g := gb242) (o := .cells #[.string a0_0, .string a0_1, .int .i64 a0_2, .int .i64 a0_3, .int .i64 a0_4] 47 (0, 0)) (by (with_reducible repeat (first | refine blk_drewN ?_ _ | refine blk_drew ?_ | refine blk_alloc ?_ _)); exact BK242.out)) : gb242 ≠ gb243)); have n6_ := Aside0.mk ((by rw [hg]; exact Nat.ne_of_gt (blk_lt (g := gb242) (o := .cells #[.string a0_0, .string a0_1, .int .i64 a0_2, .int .i64 a0_3, .int .i64 a0_4] 47 (0, 0)) (by (with_reducible repeat (first | refine blk_drewN ?_ _ | refine blk_drew ?_ | refine blk_alloc ?_ _)); exact BK242.out)) : gb243 ≠ gb242)); clear BK242; clear HB; have BK242 := n0_; have HB := n1_; have BK243 := n2_; have GW243 := n3_; have GE243 := n4_; have NB242_243 := n5_; have NB243_242 := n6_; clear n0_ n1_ n2_ n3_ n4_ n5_ n6_; clear hb hbox hg; have hnb23 := NB242_243.out; have hnc23 := NB243_242.out; have hcz24_0 : w22.cell? ⟨gb242, 0, none⟩ = some (.string a0_0) := (blk_cell BK242.out 0).trans rfl; have hcz24_1 : w22.cell? ⟨gb242, 1, none⟩ = some (.string a0_1) := (blk_cell BK242.out 1).trans rfl; have hcz24_2 : w22.cell? ⟨gb242, 2, none⟩ = some (.int .i64 a0_2) := (blk_cell BK242.out 2).trans rfl; have hcz24_3 : w22.cell? ⟨gb242, 3, none⟩ = some (.int .i64 a0_3) := (blk_cell BK242.out 3).trans rfl; have hcz24_4 : w22.cell? ⟨gb242, 4, none⟩ = some (.int .i64 a0_4) := (blk_cell BK242.out 4).trans rfl; have hfz24_0 := blk_frozen BK242.out 0; have hfz24_1 := blk_frozen BK242.out 1; have hfz24_2 := blk_frozen BK242.out 2; have hfz24_3 := blk_frozen BK242.out 3; have hfz24_4 := blk_frozen BK242.out 4; have hcz25_0 : w22.cell? ⟨gb243, 0, none⟩ = some (.string a1_0) := (blk_cell BK243.out 0).trans rfl; have hcz25_1 : w22.cell? ⟨gb243, 1, none⟩ = some (.string a1_1) := (blk_cell BK243.out 1).trans rfl; have hcz25_2 : w22.cell? ⟨gb243, 2, none⟩ = some (.int .i64 a1_2) := (blk_cell BK243.out 2).trans rfl; have hcz25_3 : w22.cell? ⟨gb243, 3, none⟩ = some (.int .i64 a1_3) := (blk_cell BK243.out 3).trans rfl; have hcz25_4 : w22.cell? ⟨gb243, 4, none⟩ = some (.int .i64 a1_4) := (blk_cell BK243.out 4).trans rfl; have hfz25_0 := blk_frozen BK243.out 0; have hfz25_1 := blk_frozen BK243.out 1; have hfz25_2 := blk_frozen BK243.out 2; have hfz25_3 := blk_frozen BK243.out 3; have hfz25_4 := blk_frozen BK243.out 4))
  go_ret
  exact ⟨by first | rfl | (simp [errW_none, errW_some] <;> rfl) | (simp [*, errW_none, errW_some] <;> rfl), by repeat (first | (with_reducible first | exact HB.out | apply below_alloc | apply pw_below_drewN | apply below_drew1 | refine below_set ?_ GE242.out | refine below_set ?_ GE243.out) | exact HB.out)⟩

end Go.Proofs.YtmcddoolniaehaaGreat.S
end
section
namespace Go.Proofs.YtmcddoolniaehaaGreat.S
open Go.RowKit Go.Proofs.YtmcddoolniaehaaGreatW.PrintWords Go.Proofs.YtmcddoolniaehaaGreatW.PrintLast Go.Proofs.YtmcddoolniaehaaGreatW.PrintMore Go.Proofs.YtmcddoolniaehaaGreatW
set_option linter.unusedVariables false
set_option linter.unusedSimpArgs false
theorem keyRef_f (a : ByteArray) (k : Nat) (hs : a.size ≤ 100) (hk : 100 < k) : ref05_Key.f k a = some (keyB a.data.toList) := keyD_f a k (by omega) (by omega)
theorem oneRef_f (r : Rg) (k : Nat) (h : smallR r) (hk : 100 < k) : ref07_one.f k r.f0 r.f1 r.f2 r.f3.f0 r.f3.f1 = some (oneB r) := by
  unfold ref07_one.f oneB
  rw [keyRef_f _ k h.1 hk, keyRef_f _ k h.2 hk]
  simp only [Option.bind_some]
  cases keyB r.f0.data.toList
  · rfl
  cases keyB r.f1.data.toList
  · rfl
  by_cases h1 : 0 < r.f2 <;> by_cases h2 : 0 ≤ r.f3.f0 <;> by_cases h3 : r.f3.f0 < 8 <;> simp [h1, h2, h3]
theorem mayRef_loop : ∀ (suf pre : List Rg) (k : Nat), suf.length + 101 < k → (pre ++ suf).length < 4611686018427387904 → (∀ x ∈ suf, smallR x) →
    ref07_May.l0 k (pre ++ suf) ((pre.length : Nat) : Int) = some (mayRP pre.getLast? suf)
  | suf, pre, 0, hk, _, _ => by omega
  | [], pre, k + 1, _, _, _ => by
    simp only [ref07_May.l0]
    rw [if_neg (by simp)]
    rfl
  | x :: suf, pre, k + 1, hk, hl, ho => by
    have hlt : ((pre.length : Nat) : Int) < (((pre ++ x :: suf).length : Nat) : Int) := by simp; omega
    have hpl : pre.length < 4611686018427387904 := by simp at hl; omega
    have ih := mayRef_loop suf (pre ++ [x]) k (by simp at hk; omega) (by simpa using hl) (fun y hy => ho y (List.mem_cons_of_mem _ hy))
    rw [app_snoc, List.getLast?_concat, len_snoc] at ih
    simp only [ref07_May.l0]
    rw [if_pos hlt, if_pos (by omega), rd_mid, oneRef_f x k (ho x List.mem_cons_self) (by simp at hk; omega), Option.bind_some, wrap_succ hpl]
    unfold mayRP
    cases h1 : oneB x with
    | false => rfl
    | true =>
      simp only [if_true, Bool.true_and]
      rcases List.eq_nil_or_concat pre with rfl | ⟨p, y, rfl⟩
      · rw [if_neg (by simp)]
        simpa using ih
      · rw [List.concat_eq_append] at *
        have hw : wrap64 ((((p ++ [y]).length : Nat) : Int) - 1) = ((p.length : Nat) : Int) := by
          rw [List.length_append, List.length_singleton]; exact wrap_pred (by simp at hpl; omega)
        rw [if_pos (by simp), hw, if_pos (by omega), if_pos (by simp; omega), app_snoc, rd_mid, List.getLast?_concat]
        rw [app_snoc] at ih
        cases h2 : Op.bytesLess y.f0.toList x.f0.toList with
        | false => simp [h2]
        | true =>
          simp only [if_true]
          rw [ih, h2]; rfl
theorem mayRef_f (k : Nat) (l : List Rg) (hk : l.length + 101 < k) (hl : l.length < 1000000) (ho : ∀ x ∈ l, smallR x) : ref07_May.f k l = some (mayB l) := by
  have := mayRef_loop l [] k hk (by simp; omega) ho
  simpa [ref07_May.f, mayB] using this
theorem newerRef_f (a b : Rg) : ref07_Newer.f a.f0 a.f1 a.f2 a.f3.f0 a.f3.f1 b.f0 b.f1 b.f2 b.f3.f0 b.f3.f1 = some (newerB a b) := by
  unfold ref07_Newer.f newerB
  split
  · split
    · split <;> rfl
    · rfl
  · rfl
end Go.Proofs.YtmcddoolniaehaaGreat.S
end
section
namespace Go.Proofs.YtmcddoolniaehaaGreat.S
open Go.RowKit Go.Proofs.YtmcddoolniaehaaGreatW.PrintWords Go.Proofs.YtmcddoolniaehaaGreatW.PrintLast Go.Proofs.YtmcddoolniaehaaGreatW.PrintMore
attribute [local go_sem] max2_int min2_int max_two min_two max_three min_three max_four min_four   -- for this text's walks alone
set_option linter.unusedVariables false
set_option linter.unusedSimpArgs false

def ref08_Less.f (a0_0 : ByteArray) (a0_1 : ByteArray) (a0_2 : Int) (a0_3 : Int) (a1_0 : ByteArray) (a1_1 : ByteArray) (a1_2 : Int) (a1_3 : Int) : Option (Bool) := if a0_0.toList = a1_0.toList then (if a0_1.toList = a1_1.toList then (if a0_2 = a1_2 then (some (decide (a0_3 < a1_3))) else (some (decide (a0_2 < a1_2)))) else (some (Op.bytesLess a0_1.toList a1_1.toList))) else (some (Op.bytesLess a0_0.toList a1_0.toList))
set_option maxHeartbeats 8000000 in
set_option maxRecDepth 100000 in
theorem ref08_Less.calls (a0_0 : ByteArray) (a0_1 : ByteArray) (a0_2 : Int) (a0_3 : Int) (a1_0 : ByteArray) (a1_1 : ByteArray) (a1_2 : Int) (a1_3 : Int) (r : Bool) (w : World) (h : ref08_Less.f a0_0 a0_1 a0_2 a0_3 a1_0 a1_1 a1_2 a1_3 = some r) :
  Calls Tryz.prog 94 #[.agg #[.string a0_0, .string a0_1, .int .i64 a0_2, .int .i64 a0_3], .agg #[.string a1_0, .string a1_1, .int .i64 a1_2, .int .i64 a1_3]] w fun e w' => e = .returned (.bool r) ∧ Below w.heap.size w w' := by
 have hu43 := Tryz.underlying43
 have HB := Aside0.mk (Below.refl w.heap.size w)
 have H : (if a0_0.toList = a1_0.toList then (if a0_1.toList = a1_1.toList then (if a0_2 = a1_2 then (some (decide (a0_3 < a1_3))) else (some (decide (a0_2 < a1_2)))) else (some (Op.bytesLess a0_1.toList a1_1.toList))) else (some (Op.bytesLess a0_0.toList a1_0.toList))) = some r := h
 clear h
 by_cases c3 : a0_0.toList = a1_0.toList
 ·rw [if_pos c3] at H
  have c3b0 : (a0_0.toList == a1_0.toList) = true := beq_iff_eq.mpr c3
  have c3b1 : (a0_0.toList != a1_0.toList) = false := bne_eq_false_iff_eq.mpr c3
  clear c3
  by_cases c4 : a0_1.toList = a1_1.toList
  ·rw [if_pos c4] at H
   have c4b0 : (a0_1.toList == a1_1.toList) = true := beq_iff_eq.mpr c4
   have c4b1 : (a0_1.toList != a1_1.toList) = false := bne_eq_false_iff_eq.mpr c4
   clear c4
   by_cases c5 : a0_2 = a1_2
   ·rw [if_pos c5] at H
    have c5b0 : (a0_2 == a1_2) = true := beq_iff_eq.mpr c5
    have c5b1 : (a0_2 != a1_2) = false := bne_eq_false_iff_eq.mpr c5
    clear c5
    obtain rfl := Option.some.inj H
    go_enter Tryz.func94, Tryz.ntmps94
    go_wp2_with (first | ((with_reducible refine gate_dst (N := 2) rfl ?_); refine box_event ?hg (N := 2) ?hd (cs := #[.string a0_0, .string a0_1, .int .i64 a0_2, .int .i64 a0_3]) (t := 43) ?hr ?_; (case hd => rfl); (case hg => rfl); (case hr => first | (go_simp; done) | (go_simp; rfl)); intro gb205 hg w6 hbox hb; have n0_ := Aside0.mk (below_step (by repeat (first | (with_reducible first | exact HB.out | apply below_alloc | apply pw_below_drewN | apply below_drew1) | exact HB.out)) hb); have n1_ := Aside0.mk (hbox); have n2_ := Aside0.mk ((by rw [hg]; exact (below_size (by repeat (first | (with_reducible first | exact HB.out | apply below_alloc | apply pw_below_drewN | apply below_drew1) | exact HB.out))) : w.heap.size ≤ gb205)); have n3_ := Aside0.mk ((by rw [hg]; exact (below_size (by repeat (first | (with_reducible first | exact HB.out | apply below_alloc | apply pw_below_drewN | apply below_drew1) | exact HB.out))) : w.heap.size ≤ gb205)); clear HB; have HB := n0_; have BK205 := n1_; have GW205 := n2_; have GE205 := n3_; clear n0_ n1_ n2_ n3_; clear hb hbox hg) | ((with_reducible refine gate_dst (N := 3) rfl ?_); refine box_event ?hg (N := 3) ?hd (cs := #[.string a1_0, .string a1_1, .int .i64 a1_2, .int .i64 a1_3]) (t := 43) ?hr ?_; (case hd => rfl); (case hg => rfl); (case hr => first | (go_simp; done) | (go_simp; rfl)); intro gb206 hg w7 hbox hb; have n0_ := Aside0.mk (blk_below (g := gb205) (o := .cells #[.string a0_0, .string a0_1, .int .i64 a0_2, .int .i64 a0_3] 43 (0, 0)) (by (with_reducible repeat (first | refine blk_drewN ?_ _ | refine blk_drew ?_ | refine blk_alloc ?_ _)); exact BK205.out) hb); have n1_ := Aside0.mk (below_step (by repeat (first | (with_reducible first | exact HB.out | apply below_alloc | apply pw_below_drewN | apply below_drew1 | refine below_set ?_ GE205.out) | exact HB.out)) hb); have n2_ := Aside0.mk (hbox); have n3_ := Aside0.mk ((by rw [hg]; exact (below_size (by repeat (first | (with_reducible first | exact HB.out | apply below_alloc | apply pw_below_drewN | apply below_drew1 | refine below_set ?_ GE205.out) | exact HB.out))) : w.heap.size ≤ gb206)); have n4_ := Aside0.mk ((by rw [hg]; exact (below_size (by repeat (first | (with_reducible first | exact HB.out | apply below_alloc | apply pw_below_drewN | apply below_drew1 | refine below_set ?_ GE205.out) | exact HB.out))) : w.heap.size ≤ gb206)); have n5_ := Aside0.mk ((by rw [hg]; exact Nat.ne_of_lt (blk_lt (g := gb205) (o := .cells #[.string a0_0, .string a0_1, .int .i64 a0_2, .int .i64 a0_3] 43 (0, 0)) (by (with_reducible repeat (first | refine blk_drewN ?_ _ | refine blk_drew ?_ | refine blk_alloc ?_ _)); exact BK205.out)) : gb205 ≠ gb206)); have n6_ := Aside0.mk ((by rw [hg]; exact Nat.ne_of_gt (blk_lt (g := gb205) (o := .cells #[.string a0_0, .string a0_1, .int .i64 a0_2, .int .i64 a0_3] 43 (0, 0)) (by (with_reducible repeat (first | refine blk_drewN ?_ _ | refine blk_drew ?_ | refine blk_alloc ?_ _)); exact BK205.out)) : gb206 ≠ gb205)); clear BK205; clear HB; have BK205 := n0_; have HB := n1_; have BK206 := n2_; have GW206 := n3_; have GE206 := n4_; have NB205_206 := n5_; have NB206_205 := n6_; clear n0_ n1_ n2_ n3_ n4_ n5_ n6_; clear hb hbox hg; have hnb8 := NB205_206.out; have hnc8 := NB206_205.out; have hcz9_0 : w7.cell? ⟨gb205, 0, none⟩ = some (.string a0_0) := (blk_cell BK205.out 0).trans rfl; have hcz9_1 : w7.cell? ⟨gb205, 1, none⟩ = some (.string a0_1) := (blk_cell BK205.out 1).trans rfl; have hcz9_2 : w7.cell? ⟨gb205, 2, none⟩ = some (.int .i64 a0_2) := (blk_cell BK205.out 2).trans rfl; have hcz9_3 : w7.cell? ⟨gb205, 3, none⟩ = some (.int .i64 a0_3) := (blk_cell BK205.out 3).trans rfl; have hfz9_0 := blk_frozen BK205.out 0; have hfz9_1 := blk_frozen BK205.out 1; have hfz9_2 := blk_frozen BK205.out 2; have hfz9_3 := blk_frozen BK205.out 3; have hcz10_0 : w7.cell? ⟨gb206, 0, none⟩ = some (.string a1_0) := (blk_cell BK206.out 0).trans rfl; have hcz10_1 : w7.cell? ⟨gb206, 1, none⟩ = some (.string a1_1) := (blk_cell BK206.out 1).trans rfl; have hcz10_2 : w7.cell? ⟨gb206, 2, none⟩ = some (.int .i64 a1_2) := (blk_cell BK206.out 2).trans rfl; have hcz10_3 : w7.cell? ⟨gb206, 3, none⟩ = some (.int .i64 a1_3) := (blk_cell BK206.out 3).trans rfl; have hfz10_0 := blk_frozen BK206.out 0; have hfz10_1 := blk_frozen BK206.out 1; have hfz10_2 := blk_frozen BK206.out 2; have hfz10_3 := blk_frozen BK206.out 3))
    go_ret
    exact ⟨by first | rfl | (simp [errW_none, errW_some] <;> rfl) | (simp [*, errW_none, errW_some] <;> rfl), by repeat (first | (with_reducible first | exact HB.out | apply below_alloc | apply pw_below_drewN | apply below_drew1 | refine below_set ?_ GE205.out | refine below_set ?_ GE206.out) | exact HB.out)⟩
   ·rw [if_neg c5] at H
    have c5b0 : (a0_2 == a1_2) = false := beq_eq_false_iff_ne.mpr c5
    have c5b1 : (a0_2 != a1_2) = true := bne_iff_ne.mpr c5
    obtain rfl := Option.some.inj H
    go_enter Tryz.func94, Tryz.ntmps94
    go_wp2_with (first | ((with_reducible refine gate_dst (N := 2) rfl ?_); refine box_event ?hg (N := 2) ?hd (cs := #[.string a0_0, .string a0_1, .int .i64 a0_2, .int .i64 a0_3]) (t := 43) ?hr ?_; (case hd => rfl); (case hg => rfl); (case hr => first | (go_simp; done) | (go_simp; rfl)); intro gb205 hg w11 hbox hb; have n0_ := Aside0.mk (below_step (by repeat (first | (with_reducible first | exact HB.out | apply below_alloc | apply pw_below_drewN | apply below_drew1) | exact HB.out)) hb); have n1_ := Aside0.mk (hbox); have n2_ := Aside0.mk ((by rw [hg]; exact (below_size (by repeat (first | (with_reducible first | exact HB.out | apply below_alloc | apply pw_below_drewN | apply below_drew1) | exact HB.out))) : w.heap.size ≤ gb205)); have n3_ := Aside0.mk ((by rw [hg]; exact (below_size (by repeat (first | (with_reducible first | exact HB.out | apply below_alloc | apply pw_below_drewN | apply below_drew1) | exact HB.out))) : w.heap.size ≤ gb205)); clear HB; have HB := n0_; have BK205 := n1_; have GW205 := n2_; have GE205 := n3_; clear n0_ n1_ n2_ n3_; clear hb hbox hg) | ((with_reducible refine gate_dst (N := 3) rfl ?_); refine box_event ?hg (N := 3) ?hd (cs := #[.string a1_0, .string a1_1, .int .i64 a1_2, .int .i64 a1_3]) (t := 43) ?hr ?_; (case hd => rfl); (case hg => rfl); (case hr => first | (go_simp; done) | (go_simp; rfl)); intro gb206 hg w12 hbox hb; have n0_ := Aside0.mk (blk_below (g := gb205) (o := .cells #[.string a0_0, .string a0_1, .int .i64 a0_2, .int .i64 a0_3] 43 (0, 0)) (by (with_reducible repeat (first | refine blk_drewN ?_ _ | refine blk_drew ?_ | refine blk_alloc ?_ _)); exact BK205.out) hb); have n1_ := Aside0.mk (below_step (by repeat (first | (with_reducible first | exact HB.out | apply below_alloc | apply pw_below_drewN | apply below_drew1 | refine below_set ?_ GE205.out) | exact HB.out)) hb); have n2_ := Aside0.mk (hbox); have n3_ := Aside0.mk ((by rw [hg]; exact (below_size (by repeat (first | (with_reducible first | exact HB.out | apply below_alloc | apply pw_below_drewN | apply below_drew1 | refine below_set ?_ GE205.out) | exact HB.out))) : w.heap.size ≤ gb206)); have n4_ := Aside0.mk ((by rw [hg]; exact (below_size (by repeat (first | (with_reducible first | exact HB.out | apply below_alloc | apply pw_below_drewN | apply below_drew1 | refine below_set ?_ GE205.out) | exact HB.out))) : w.heap.size ≤ gb206)); have n5_ := Aside0.mk ((by rw [hg]; exact Nat.ne_of_lt (blk_lt (g := gb205) (o := .cells #[.string a0_0, .string a0_1, .int .i64 a0_2, .int .i64 a0_3] 43 (0, 0)) (by (with_reducible repeat (first | refine blk_drewN ?_ _ | refine blk_drew ?_ | refine blk_alloc ?_ _)); exact BK205.out)) : gb205 ≠ gb206)); have n6_ := Aside0.mk ((by rw [hg]; exact Nat.ne_of_gt (blk_lt (g := gb205) (o := .cells #[.string a0_0, .string a0_1, .int .i64 a0_2, .int .i64 a0_3] 43 (0, 0)) (by (with_reducible repeat (first | refine blk_drewN ?_ _ | refine blk_drew ?_ | refine blk_alloc ?_ _)); exact BK205.out)) : gb206 ≠ gb205)); clear BK205; clear HB; have BK205 := n0_; have HB := n1_; have BK206 := n2_; have GW206 := n3_; have GE206 := n4_; have NB205_206 := n5_; have NB206_205 := n6_; clear n0_ n1_ n2_ n3_ n4_ n5_ n6_; clear hb hbox hg; have hnb13 := NB205_206.out; have hnc13 := NB206_205.out; have hcz14_0 : w12.cell? ⟨gb205, 0, none⟩ = some (.string a0_0) := (blk_cell BK205.out 0).trans rfl; have hcz14_1 : w12.cell? ⟨gb205, 1, none⟩ = some (.string a0_1) := (blk_cell BK205.out 1).trans rfl; have hcz14_2 : w12.cell? ⟨gb205, 2, none⟩ = some (.int .i64 a0_2) := (blk_cell BK205.out 2).trans rfl; have hcz14_3 : w12.cell? ⟨gb205, 3, none⟩ = some (.int .i64 a0_3) := (blk_cell BK205.out 3).trans rfl; have hfz14_0 := blk_frozen BK205.out 0; have hfz14_1 := blk_frozen BK205.out 1; have hfz14_2 := blk_frozen BK205.out 2; have hfz14_3 := blk_frozen BK205.out 3; have hcz15_0 : w12.cell? ⟨gb206, 0, none⟩ = some (.string a1_0) := (blk_cell BK206.out 0).trans rfl; have hcz15_1 : w12.cell? ⟨gb206, 1, none⟩ = some (.string a1_1) := (blk_cell BK206.out 1).trans rfl; have hcz15_2 : w12.cell? ⟨gb206, 2, none⟩ = some (.int .i64 a1_2) := (blk_cell BK206.out 2).trans rfl; have hcz15_3 : w12.cell? ⟨gb206, 3, none⟩ = some (.int .i64 a1_3) := (blk_cell BK206.out 3).trans rfl; have hfz15_0 := blk_frozen BK206.out 0; have hfz15_1 := blk_frozen BK206.out 1; have hfz15_2 := blk_frozen BK206.out 2; have hfz15_3 := blk_frozen BK206.out 3))
    go_ret
    exact ⟨by first | rfl | (simp [errW_none, errW_some] <;> rfl) | (simp [*, errW_none, errW_some] <;> rfl), by repeat (first | (with_reducible first | exact HB.out | apply below_alloc | apply pw_below_drewN | apply below_drew1 | refine below_set ?_ GE205.out | refine below_set ?_ GE206.out) | exact HB.out)⟩
  ·rw [if_neg c4] at H
   have c4b0 : (a0_1.toList == a1_1.toList) = false := beq_eq_false_iff_ne.mpr c4
   have c4b1 : (a0_1.toList != a1_1.toList) = true := bne_iff_ne.mpr c4
   obtain rfl := Option.some.inj H
   go_enter Tryz.func94, Tryz.ntmps94
   go_wp2_with (first | ((with_reducible refine gate_dst (N := 2) rfl ?_); refine box_event ?hg (N := 2) ?hd (cs := #[.string a0_0, .string a0_1, .int .i64 a0_2, .int .i64 a0_3]) (t := 43) ?hr ?_; (case hd => rfl); (case hg => rfl); (case hr => first | (go_simp; done) | (go_simp; rfl)); intro gb205 hg w16 hbox hb; have n0_ := Aside0.mk (below_step (by repeat (first | (with_reducible first | exact HB.out | apply below_alloc | apply pw_below_drewN | apply below_drew1) | exact HB.out)) hb); have n1_ := Aside0.mk (hbox); have n2_ := Aside0.mk ((by rw [hg]; exact (below_size (by repeat (first | (with_reducible first | exact HB.out | apply below_alloc | apply pw_below_drewN | apply below_drew1) | exact HB.out))) : w.heap.size ≤ gb205)); have n3_ := Aside0.mk ((by rw [hg]; exact (below_size (by repeat (first | (with_reducible first | exact HB.out | apply below_alloc | apply pw_below_drewN | apply below_drew1) | exact HB.out))) : w.heap.size ≤ gb205)); clear HB; have HB := n0_; have BK205 := n1_; have GW205 := n2_; have GE205 := n3_; clear n0_ n1_ n2_ n3_; clear hb hbox hg) | ((with_reducible refine gate_dst (N := 3) rfl ?_); refine box_event ?hg (N := 3) ?hd (cs := #[.string a1_0, .string a1_1, .int .i64 a1_2, .int .i64 a1_3]) (t := 43) ?hr ?_; (case hd => rfl); (case hg => rfl); (case hr => first | (go_simp; done) | (go_simp; rfl)); intro gb206 hg w17 hbox hb; have n0_ := Aside0.mk (blk_below (g := gb205) (o := .cells #[.string a0_0, .string a0_1, .int .i64 a0_2, .int .i64 a0_3] 43 (0, 0)) (by (with_reducible repeat (first | refine blk_drewN ?_ _ | refine blk_drew ?_ | refine blk_alloc ?_ _)); exact BK205.out) hb); have n1_ := Aside0.mk (below_step (by repeat (first | (with_reducible first | exact HB.out | apply below_alloc | apply pw_below_drewN | apply below_drew1 | refine below_set ?_ GE205.out) | exact HB.out)) hb); have n2_ := Aside0.mk (hbox); have n3_ := Aside0.mk ((by rw [hg]; exact (below_size (by repeat (first | (with_reducible first | exact HB.out | apply below_alloc | apply pw_below_drewN | apply below_drew1 | refine below_set ?_ GE205.out) | exact HB.out))) : w.heap.size ≤ gb206)); have n4_ := Aside0.mk ((by rw [hg]; exact (below_size (by repeat (first | (with_reducible first | exact HB.out | apply below_alloc | apply pw_below_drewN | apply below_drew1 | refine below_set ?_ GE205.out) | exact HB.out))) : w.heap.size ≤ gb206)); have n5_ := Aside0.mk ((by rw [hg]; exact Nat.ne_of_lt (blk_lt (g := gb205) (o := .cells #[.string a0_0, .string a0_1, .int .i64 a0_2, .int .i64 a0_3] 43 (0, 0)) (by (with_reducible repeat (first | refine blk_drewN ?_ _ | refine blk_drew ?_ | refine blk_alloc ?_ _)); exact BK205.out)) : gb205 ≠ gb206)); have n6_ := Aside0.mk ((by rw [hg]; exact Nat.ne_of_gt (blk_lt (g := gb205) (o := .cells #[.string a0_0, .string a0_1, .int .i64 a0_2, .int .i64 a0_3] 43 (0, 0)) (by (with_reducible repeat (first | refine blk_drewN ?_ _ | refine blk_drew ?_ | refine blk_alloc ?_ _)); exact BK205.out)) : gb206 ≠ gb205)); clear BK205; clear HB; have BK205 := n0_; have HB := n1_; have BK206 := n2_; have GW206 := n3_; have GE206 := n4_; have NB205_206 := n5_; have NB206_205 := n6_; clear n0_ n1_ n2_ n3_ n4_ n5_ n6_; clear hb hbox hg; have hnb18 := NB205_206.out; have hnc18 := NB206_205.out; have hcz19_0 : w17.cell? ⟨gb205, 0, none⟩ = some (.string a0_0) := (blk_cell BK205.out 0).trans rfl; have hcz19_1 : w17.cell? ⟨gb205, 1, none⟩ = some (.string a0_1) := (blk_cell BK205.out 1).trans rfl; have hcz19_2 : w17.cell? ⟨gb205, 2, none⟩ = some (.int .i64 a0_2) := (blk_cell BK205.out 2).trans rfl; have hcz19_3 : w17.cell? ⟨gb205, 3, none⟩ = some (.int .i64 a0_3) := (blk_cell BK205.out 3).trans rfl; have hfz19_0 := blk_frozen BK205.out 0; have hfz19_1 := blk_frozen BK205.out 1; have hfz19_2 := blk_frozen BK205.out 2; have hfz19_3 := blk_frozen BK205.out 3; have hcz20_0 : w17.cell? ⟨gb206, 0, none⟩ = some (.string a1_0) := (blk_cell BK206.out 0).trans rfl; have hcz20_1 : w17.cell? ⟨gb206, 1, none⟩ = some (.string a1_1) := (blk_cell BK206.out 1).trans rfl; have hcz20_2 : w17.cell? ⟨gb206, 2, none⟩ = some (.int .i64 a1_2) := (blk_cell BK206.out 2).trans rfl; have hcz20_3 : w17.cell? ⟨gb206, 3, none⟩ = some (.int .i64 a1_3) := (blk_cell BK206.out 3).trans rfl; have hfz20_0 := blk_frozen BK206.out 0; have hfz20_1 := blk_frozen BK206.out 1; have hfz20_2 := blk_frozen BK206.out 2; have hfz20_3 := blk_frozen BK206.out 3))
   go_ret
   exact ⟨by first | rfl | (simp [errW_none, errW_some] <;> rfl) | (simp [*, errW_none, errW_some] <;> rfl), by repeat (first | (with_reducible first | exact HB.out | apply below_alloc | apply pw_below_drewN | apply below_drew1 | refine below_set ?_ GE205.out | refine below_set ?_ GE206.out) | exact HB.out)⟩
 ·rw [if_neg c3] at H
  have c3b0 : (a0_0.toList == a1_0.toList) = false := beq_eq_false_iff_ne.mpr c3
  have c3b1 : (a0_0.toList != a1_0.toList) = true := bne_iff_ne.mpr c3
  obtain rfl := Option.some.inj H
  go_enter Tryz.func94, Tryz.ntmps94
  go_wp2_with (first | ((with_reducible refine gate_dst (N := 2) rfl ?_); refine box_event ?hg (N := 2) ?hd (cs := #[.string a0_0, .string a0_1, .int .i64 a0_2, .int .i64 a0_3]) (t := 43) ?hr ?_; (case hd => rfl); (case hg => rfl); (case hr => first | (go_simp; done) | (go_simp; rfl)); intro gb205 hg w21 hbox hb; have n0_ := Aside0.mk (below_step (by repeat (first | (with_reducible first | exact HB.out | apply below_alloc | apply pw_below_drewN | apply below_drew1) | exact HB.out)) hb); have n1_ := Aside0.mk (hbox); have n2_ := Aside0.mk ((by rw [hg]; exact (below_size (by repeat (first | (with_reducible first | exact HB.out | apply below_alloc | apply pw_below_drewN | apply below_drew1) | exact HB.out))) : w.heap.size ≤ gb205)); have n3_ := Aside0.mk ((by rw [hg]; exact (below_size (by repeat (first | (with_reducible first | exact HB.out | apply below_alloc | apply pw_below_drewN | apply below_drew1) | exact HB.out))) : w.heap.size ≤ gb205)); clear HB; have HB := n0_; have BK205 := n1_; have GW205 := n2_; have GE205 := n3_; clear n0_ n1_ n2_ n3_; clear hb hbox hg) | ((with_reducible refine gate_dst (N := 3) rfl ?_); refine box_event ?hg (N := 3) ?hd (cs := #[.string a1_0, .string a1_1, .int .i64 a1_2, .int .i64 a1_3]) (t := 43) ?hr ?_; (case hd => rfl); (case hg => rfl); (case hr => first | (go_simp; done) | (go_simp; rfl)); intro gb206 hg w22 hbox hb; have n0_ := Aside0.mk (blk_below (g := gb205) (o := .cells #[.string a0_0, .string a0_1, .int .i64 a0_2, .int .i64 a0_3] 43 (0, 0)) (by (with_reducible repeat (first | refine blk_drewN ?_ _ | refine blk_drew ?_ | refine blk_alloc ?_ _)); exact BK205.out) hb); have n1_ := Aside0.mk (below_step (by repeat (first | (with_reducible first | exact HB.out | apply below_alloc | apply pw_below_drewN | apply below_drew1 | refine below_set ?_ GE205.out) | exact HB.out)) hb); have n2_ := Aside0.mk (hbox); have n3_ := Aside0.mk ((by rw [hg]; exact (below_size (by repeat (first | (with_reducible first | exact HB.out | apply below_alloc | apply pw_below_drewN | apply below_drew1 | refine below_set ?_ GE205.out) | exact HB.out))) : w.heap.size ≤ gb206)); have n4_ := Aside0.mk ((by rw [hg]; exact (below_size (by repeat (first | (with_reducible first | exact HB.out | apply below_alloc | apply pw_below_drewN | apply below_drew1 | refine below_set ?_ GE205.out) | exact HB.out))) : w.heap.size ≤ gb206)); have n5_ := Aside0.mk ((by rw [hg]; exact Nat.ne_of_lt (blk_lt (g := gb205) (o := .cells #[.string a0_0, .string a0_1, .int .i64 a0_2, .int .i64 a0_3] 43 (0, 0)) (by (with_reducible repeat (first | refine blk_drewN ?_ _ | refine blk_drew ?_ | refine blk_alloc ?_ _)); exact BK205.out)) : gb205 ≠ gb206)); have n6_ := Aside0.mk ((by rw [hg]; exact Nat.ne_of_gt (blk_lt (g := gb205) (o := .cells #[.string a0_0, .string a0_1, .int .i64 a0_2, .int .i64 a0_3] 43 (0, 0)) (by (with_reducible repeat (first | refine blk_drewN ?_ _ | refine blk_drew ?_ | refine blk_alloc ?_ _)); exact BK205.out)) : gb206 ≠ gb205)); clear BK205; clear HB; have BK205 := n0_; have HB := n1_; have BK206 := n2_; have GW206 := n3_; have GE206 := n4_; have NB205_206 := n5_; have NB206_205 := n6_; clear n0_ n1_ n2_ n3_ n4_ n5_ n6_; clear hb hbox hg; have hnb23 := NB205_206.out; have hnc23 := NB206_205.out; have hcz24_0 : w22.cell? ⟨gb205, 0, none⟩ = some (.string a0_0) := (blk_cell BK205.out 0).trans rfl; have hcz24_1 : w22.cell? ⟨gb205, 1, none⟩ = some (.string a0_1) := (blk_cell BK205.out 1).trans rfl; have hcz24_2 : w22.cell? ⟨gb205, 2, none⟩ = some (.int .i64 a0_2) := (blk_cell BK205.out 2).trans rfl; have hcz24_3 : w22.cell? ⟨gb205, 3, none⟩ = some (.int .i64 a0_3) := (blk_cell BK205.out 3).trans rfl; have hfz24_0 := blk_frozen BK205.out 0; have hfz24_1 := blk_frozen BK205.out 1; have hfz24_2 := blk_frozen BK205.out 2; have hfz24_3 := blk_frozen BK205.out 3; have hcz25_0 : w22.cell? ⟨gb206, 0, none⟩ = some (.string a1_0) := (blk_cell BK206.out 0).trans rfl; have hcz25_1 : w22.cell? ⟨gb206, 1, none⟩ = some (.string a1_1) := (blk_cell BK206.out 1).trans rfl; have hcz25_2 : w22.cell? ⟨gb206, 2, none⟩ = some (.int .i64 a1_2) := (blk_cell BK206.out 2).trans rfl; have hcz25_3 : w22.cell? ⟨gb206, 3, none⟩ = some (.int .i64 a1_3) := (blk_cell BK206.out 3).trans rfl; have hfz25_0 := blk_frozen BK206.out 0; have hfz25_1 := blk_frozen BK206.out 1; have hfz25_2 := blk_frozen BK206.out 2; have hfz25_3 := blk_frozen BK206.out 3))
  go_ret
  exact ⟨by first | rfl | (simp [errW_none, errW_some] <;> rfl) | (simp [*, errW_none, errW_some] <;> rfl), by repeat (first | (with_reducible first | exact HB.out | apply below_alloc | apply pw_below_drewN | apply below_drew1 | refine below_set ?_ GE205.out | refine below_set ?_ GE206.out) | exact HB.out)⟩

end Go.Proofs.YtmcddoolniaehaaGreat.S
end
section
namespace Go.Proofs.YtmcddoolniaehaaGreat.S
open Go.RowKit Go.Proofs.YtmcddoolniaehaaGreatW.PrintWords Go.Proofs.YtmcddoolniaehaaGreatW.PrintLast Go.Proofs.YtmcddoolniaehaaGreatW.PrintMore Go.Proofs.YtmcddoolniaehaaGreatW
set_option linter.unusedVariables false
set_option linter.unusedSimpArgs false
theorem rless_f (x y : Pr) : ref08_Less.f x.f0 x.f1 x.f2.f0 x.f2.f1 y.f0 y.f1 y.f2.f0 y.f2.f1 = some (ltP x y) := by
  unfold ref08_Less.f ltP cmpP or4
  have hS : ∀ a b : ByteArray, a.toList ≠ b.toList → (cS a b ≠ 0 ∧ (decide (cS a b < 0) = Op.bytesLess a.toList b.toList)) := fun a b h => by
    refine ⟨fun e => h (by rw [(cS_ok.eq a b).1 e]), ?_⟩
    rw [Bool.eq_iff_iff, decide_eq_true_eq, cS_neg]
  have hI : ∀ a b : Int, a ≠ b → (cI a b ≠ 0) := fun a b h e => h ((cI_ok.eq a b).1 e)
  have hL : ∀ a b : Int, decide (cI a b < 0) = decide (a < b) := fun a b => by
    rw [decide_eq_decide]
    unfold cI; split
    · rename_i h; simp [h]
    · split <;> omega
  by_cases h0 : x.f0.toList = y.f0.toList
  · have e0 := toList_inj h0
    rw [if_pos h0, if_pos ((cS_ok.eq _ _).2 e0)]
    by_cases h1 : x.f1.toList = y.f1.toList
    · have e1 := toList_inj h1
      rw [if_pos h1, if_pos ((cS_ok.eq _ _).2 e1)]
      by_cases h2 : x.f2.f0 = y.f2.f0
      · rw [if_pos h2, if_pos ((cI_ok.eq _ _).2 h2), hL]
      · rw [if_neg h2, if_neg (hI _ _ h2), hL]
    · rw [if_neg h1, if_neg (hS _ _ h1).1, (hS _ _ h1).2]
  · rw [if_neg h0, if_neg (hS _ _ h0).1, (hS _ _ h0).2]
theorem rkey {a : ByteArray} (h : a.size ≤ 100) (k : Nat) (hk : 101 < k) : ref05_Key.f k a = some (keyB a.data.toList) := keyD_f a k (by omega) (by omega)
abbrev smL (l : List Pr) : Prop := ∀ x ∈ l, x.f0.size ≤ 100 ∧ x.f1.size ≤ 100
theorem fewP_sm {l : List Pr} (h : fewP l = true) : smL l := by
  unfold fewP at h
  simp only [Bool.and_eq_true, List.all_eq_true, decide_eq_true_eq] at h
  exact h.2
def ref08_May.f (k : Nat) (l0 : List S43) : Option Bool := if l0.length ≤ 1000 ∧ smL l0 then some (mayP l0) else none
theorem ref08_May.mono : ∀ a0 k, LeO (ref08_May.f k a0) (ref08_May.f (k + 1) a0) := fun _ _ _ h => h
theorem rmay_f (k : Nat) (l : List Pr) (hk : l.length * 2 + 210 < k) (hl : l.length ≤ 1000) (ho : smL l) : ref08_May.f k l = some (mayP l) := by
  unfold ref08_May.f
  rw [if_pos ⟨hl, ho⟩]
theorem may_at {l : List Pr} {j : Nat} (h : j < l.length) : mayPP (l.take j).getLast? (l.drop j) = mayPP (l.take j).getLast? (l[j] :: l.drop (j + 1)) := by rw [List.drop_eq_getElem_cons h]
theorem last_at {l : List Pr} {j : Nat} (h : j < l.length) : (l.take (j + 1)).getLast? = some l[j] := by rw [List.take_succ_eq_append_getElem h, List.getLast?_concat]
set_option maxHeartbeats 8000000 in
set_option maxRecDepth 100000 in
theorem ref08_May.calls (k : Nat) (A0 : Option Addr) (c0 : Nat) (l0 : List S43) (r : Bool) (w : World) (hr0 : Kd.C k43 w A0 l0.length l0) (hc0 : l0.length ≤ c0) (h : ref08_May.f k l0 = some r) :
    Calls Tryz.prog 49 #[.slice A0 l0.length c0] w fun e w' => e = .returned (.bool r) ∧ Below w.heap.size w w' := by
  unfold ref08_May.f at h
  split at h
  case isFalse => cases h
  case isTrue hh =>
  cases h
  obtain ⟨hl, hs⟩ := hh
  have HR := Aside0.mk hr0
  have HS := Aside0.mk hs
  clear hr0 hc0 hs
  go_enter Tryz.func49, Tryz.ntmps49
  go_wp2
  go_loopw [3] (fun i wr => ∃ j : Nat, j ≤ l0.length ∧ i = .int .i64 j ∧ Aside0 (mayP l0 = mayPP (l0.take j).getLast? (l0.drop j)) ∧ Aside0 (Below w.heap.size w wr)) (fun i _ => l0.length - (intOf i).toNat)
  case atStart => exact ⟨0, Nat.zero_le _, rfl, ⟨by simp [mayP]⟩, ⟨Below.refl _ _⟩⟩
  case round =>
    obtain ⟨j, hj, rfl, HM, HB⟩ := hrel
    by_cases hlt : j < l0.length
    · obtain ⟨ad, e, hx0, hx1, hx2, hx3⟩ := at_T43 HR.out (j : Int) (by omega) (by omega)
      cases e
      have hrd : rd_T43 l0 (j : Int) = l0[j] := by simp [rd_T43, List.getD_eq_getElem?_getD, hlt]
      rw [hrd] at hx0 hx1 hx2 hx3
      simp only [Int.toNat_natCast] at hx0 hx1 hx2 hx3
      have hz0 := (HB.out.cell (World.block_lt_of_cell? w _ hx0)).trans hx0; have hz1 := (HB.out.cell (World.block_lt_of_cell? w _ hx1)).trans hx1; have hz2 := (HB.out.cell (World.block_lt_of_cell? w _ hx2)).trans hx2; have hz3 := (HB.out.cell (World.block_lt_of_cell? w _ hx3)).trans hx3
      have HM2 := Aside0.mk (HM.out.trans (may_at hlt))
      have HT := Aside0.mk (last_at hlt)
      have hsx := HS.out _ (List.getElem_mem hlt)
      have HP : Aside0 (∀ i : Nat, j = i + 1 → ∃ y, (l0.take j).getLast? = some y ∧ rd_T43 l0 (i : Int) = y) := ⟨fun i hi => ⟨l0[i], by subst hi; exact last_at (by omega), by simp [rd_T43, List.getD_eq_getElem?_getD, show i < l0.length by omega]⟩⟩
      clear hx0 hx1 hx2 hx3 hrd HM
      generalize l0[j] = x at *
      have K1 := Aside0.mk (fun W : World => (ref05_Key.calls 150 x.f0 _ W (rkey hsx.1 150 (by decide))).mono fun _ _ h => And.intro h.1 (drawn_b h.2))
      have K2 := Aside0.mk (fun W : World => (ref05_Key.calls 150 x.f1 _ W (rkey hsx.2 150 (by decide))).mono fun _ _ h => And.intro h.1 (drawn_b h.2))
      have HO : Aside0 (oneP x = (keyB x.f0.data.toList && (keyB x.f1.data.toList && (!decide (x.f2.f0 < 0) && (!decide (8 ≤ x.f2.f0) && !decide (x.f2.f1 < 1)))))) := ⟨by
        unfold oneP
        congr 2
        rw [← decide_not, ← decide_not, ← decide_not, Bool.eq_iff_iff]
        simp⟩
      generalize keyB x.f0.data.toList = b1 at *
      generalize keyB x.f1.data.toList = b2 at *
      clear hsx HS
      have hj0 : (0 : Int) ≤ (j : Int) := by omega
      have hj1 : (j : Int) < (l0.length : Int) := by omega
      go_wp2_with fail
      have hBX := Bx.new HB.out (.cells #[.string x.f0, .string x.f1, .int .i64 x.f2.f0, .int .i64 x.f2.f1] 43)
      revert hBX
      generalize wr.alloc (.cells #[.string x.f0, .string x.f1, .int .i64 x.f2.f0, .int .i64 x.f2.f1] 43) = W0
      generalize wr.heap.size = g0
      intro hBX
      clear hz0 hz1 hz2 hz3 HB
      refine (K1.out _).mono ?_
      rintro e1 w1 ⟨rfl, hb⟩
      replace hBX := hBX.go hb
      clear hb K1
      have s1 := (blk_cell hBX.x 1).trans rfl
      go_wp2_with fail
      refine (K2.out _).mono ?_
      rintro e1 w2 ⟨rfl, hb⟩
      replace hBX := hBX.go hb
      clear hb K2 s1
      have s2 := (blk_cell hBX.x 2).trans rfl
      have s3 := (blk_cell hBX.x 3).trans rfl
      have hk : b1 = false ∨ b1 = true ∧ (b2 = false ∨ b2 = true ∧ (decide (x.f2.f0 < 0) = true ∨ decide (x.f2.f0 < 0) = false ∧ (decide (8 ≤ x.f2.f0) = true ∨ decide (8 ≤ x.f2.f0) = false ∧ (decide (x.f2.f1 < 1) = true ∨ decide (x.f2.f1 < 1) = false)))) := by
        cases b1 <;> cases b2 <;> cases decide (x.f2.f0 < 0) <;> cases decide (8 ≤ x.f2.f0) <;> cases decide (x.f2.f1 < 1) <;> simp
      rcases hk with rfl | ⟨rfl, rfl | ⟨rfl, k0 | ⟨k0, k1 | ⟨k1, k2 | k2⟩⟩⟩⟩
      rotate_right
      · have HO2 : Aside0 (oneP x = true) := ⟨by rw [HO.out, k0, k1, k2]; rfl⟩
        clear HO
        cases j with
        | zero =>
          have HM3 : Aside0 (mayP l0 = mayPP (l0.take (0 + 1)).getLast? (l0.drop (0 + 1))) := ⟨by rw [HM2.out, HT.out]; simp [mayPP, HO2.out]⟩
          clear HM2 HT HO2 HP
          go_wp2
          go_roundw
          case rel => exact ⟨0 + 1, by omega, by go_num, HM3, ⟨hBX.b⟩⟩
          case measure => simp [intOf]; omega
        | succ i =>
          obtain ⟨y, hy, hrd⟩ := HP.out i rfl
          obtain ⟨ad2, e2, hy0, hy1, hy2, hy3⟩ := at_T43 HR.out (i : Int) (by omega) (by omega)
          cases e2
          rw [hrd] at hy0 hy1 hy2 hy3
          simp only [Int.toNat_natCast] at hy0 hy1 hy2 hy3
          have HM3 : Aside0 (mayP l0 = (ltP y x && mayPP (l0.take (i + 1 + 1)).getLast? (l0.drop (i + 1 + 1)))) := ⟨by rw [HM2.out, HT.out, hy]; simp [mayPP, HO2.out]⟩
          have K3 := Aside0.mk (fun W : World => ref08_Less.calls _ _ _ _ _ _ _ _ _ W (rless_f y x))
          have hw1 : IntKind.i64.wrap (i : Int) = (i : Int) := by rw [i64_w]; unfold wrap64; omega
          have hi0 : (0 : Int) ≤ (i : Int) := by omega
          have hi1 : (i : Int) < (l0.length : Int) := by omega
          clear HM2 HT HO2 HP hy hrd
          generalize ltP y x = b at *
          go_wp2_with fail
          refine in_ (n := 8) (S := Bx w g0 _) (by kernel_rfl) rfl hBX.drew (fun hHeld => ?_)
          repeat (first
            | (refine run_ (v := ?_) (a' := ?_) rfl rfl hHeld ?_ ?_ ?_; rotate_left; (focus (intro w2 hs; have s0 := (blk_cell hs.x 0).trans rfl; have s1 := (blk_cell hs.x 1).trans rfl; have s2 := (blk_cell hs.x 2).trans rfl; have s3 := (blk_cell hs.x 3).trans rfl; have u0 := (hs.b.cell (World.block_lt_of_cell? w _ hy0)).trans hy0; have u1 := (hs.b.cell (World.block_lt_of_cell? w _ hy1)).trans hy1; have u2 := (hs.b.cell (World.block_lt_of_cell? w _ hy2)).trans hy2; have u3 := (hs.b.cell (World.block_lt_of_cell? w _ hy3)).trans hy3; go_simp; with_reducible rfl)); rotate_left; (focus (simp only [Act.put, sqA, sqB, sqC] <;> rfl)))
            | (refine skip_ (a' := ?_) rfl rfl hHeld ?_ ?_; rotate_left; (focus (simp only [Act.put, sqA, sqB, sqC] <;> rfl)))
            | (refine ask_ rfl rfl (fun K hK => ?_); go_simp; (first | (go_at_call 94; with_reducible refine (K3.out _).mono ?_)); rintro e1 w1 ⟨rfl, hb⟩; replace hHeld := hHeld.go hb; go_wp2_with fail; refine hK.out _ _ hHeld (fun _ => ?_); clear hK K hb; try simp only [Act.put, sqA, sqB, sqC]))
          refine wpAnyH_done (by kernel_rfl) ?_ _
          cases b
          · go_wp2
            go_ret
            exact ⟨by rw [HM3.out]; rfl, hHeld.b⟩
          · go_wp2
            go_roundw
            case rel => exact ⟨i + 1 + 1, by omega, by go_num, ⟨by rw [HM3.out]; rfl⟩, ⟨hHeld.b⟩⟩
            case measure => simp [intOf]; omega
      all_goals
        have HF : Aside0 (mayP l0 = false) := ⟨by rw [HM2.out]; unfold mayPP; rw [HO.out]; first | (simp; done) | (simp [k0]; done) | (simp [k0, k1]; done) | (simp [k0, k1, k2]; done)⟩
        clear HM2 HO HT HP
        go_wp2
        go_ret
        exact ⟨by rw [HF.out]; rfl, hBX.b⟩
    · have hjl : j = l0.length := by omega
      subst hjl
      have HF : Aside0 (mayP l0 = true) := ⟨by rw [HM.out, List.drop_length]; simp [mayPP]⟩
      clear HM
      go_wp2
      go_ret
      exact ⟨by rw [HF.out]; rfl, HB.out⟩
end Go.Proofs.YtmcddoolniaehaaGreat.S
end
