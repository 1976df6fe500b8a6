-- PRINTED by print.py (a twelfth state) out of the translation. Not trusted: Lean checks it.
import Derived.Test.YtannmdngejdjkaaLx0
import Derived.Test.YtannmdngejdjkaaLx1
import Derived.Test.YtannmdngejdjkaaLx7
import Derived.Test.YtannmdngejdjkaaLx9
namespace Go.Proofs.Ytannmdngejdjkaa.L
open Go.RowKit Go.Proofs.YtannmdngejdjkaaW.PrintWords Go.Proofs.YtannmdngejdjkaaW.PrintLast Go.Proofs.YtannmdngejdjkaaW.PrintMore
attribute [local go_sem] max2_int min2_int max_two min_two max_three min_three max_four min_four   -- for this text's walks alone
set_option linter.unusedVariables false
set_option linter.unusedSimpArgs false

attribute [local go_sem high] eqA26
/-! ### law07_RegNewer: function 5 -/
def law07_RegNewer.j0 : Nat → Bool → Bool → ByteArray → ByteArray → Int → Int → Int → ByteArray → ByteArray → Int → Int → Int → ByteArray → ByteArray → Int → Int → Int → Option (Bool)
 | 0, _, _, _, _, _, _, _, _, _, _, _, _, _, _, _, _, _ => none
 | k + 1, x8, x40, x311000, x311001, x311002, x311003, x311004, x312000, x312001, x312002, x312003, x312004, x313000, x313001, x313002, x313003, x313004 => if x40 = true then (some false) else (if x8 = true then ((reg_Newer.f k x312000 x312001 x312002 x312003 x312004 x313000 x313001 x313002 x313003 x313004).bind fun t316 => (if t316 = true then ((reg_Newer.f k x311000 x311001 x311002 x311003 x311004 x313000 x313001 x313002 x313003 x313004).bind fun t317 => (some t317)) else (some true))) else (some true))
def law07_RegNewer.f (k : Nat) (a0_0 : ByteArray) (a0_1 : ByteArray) (a0_2 : Int) (a0_3 : Int) (a0_4 : Int) (a1_0 : ByteArray) (a1_1 : ByteArray) (a1_2 : Int) (a1_3 : Int) (a1_4 : Int) (a2_0 : ByteArray) (a2_1 : ByteArray) (a2_2 : Int) (a2_3 : Int) (a2_4 : Int) : Option (Bool) := (law07_awake.f k).bind fun t313 => ((reg_Newer.f k a0_0 a0_1 a0_2 a0_3 a0_4 a0_0 a1_1 a1_2 a1_3 a1_4).bind fun t314 => ((reg_Newer.f k a0_0 a1_1 a1_2 a1_3 a1_4 a0_0 a0_1 a0_2 a0_3 a0_4).bind fun t315 => (if t313 = true then (if t314 = true then (if t315 = true then (law07_RegNewer.j0 k t314 true a0_0 a0_1 a0_2 a0_3 a0_4 a0_0 a1_1 a1_2 a1_3 a1_4 a0_0 a2_1 a2_2 a2_3 a2_4) else (law07_RegNewer.j0 k t314 (true == (a0_1.toList == a1_1.toList && (a0_2 == a1_2 && ((a0_3 == a1_3 && (a0_4 == a1_4)))))) a0_0 a0_1 a0_2 a0_3 a0_4 a0_0 a1_1 a1_2 a1_3 a1_4 a0_0 a2_1 a2_2 a2_3 a2_4)) else (law07_RegNewer.j0 k t314 (t315 == (a0_1.toList == a1_1.toList && (a0_2 == a1_2 && ((a0_3 == a1_3 && (a0_4 == a1_4)))))) a0_0 a0_1 a0_2 a0_3 a0_4 a0_0 a1_1 a1_2 a1_3 a1_4 a0_0 a2_1 a2_2 a2_3 a2_4)) else (law07_RegNewer.j0 k t314 true a0_0 a0_1 a0_2 a0_3 a0_4 a0_0 a1_1 a1_2 a1_3 a1_4 a0_0 a2_1 a2_2 a2_3 a2_4))))
theorem law07_RegNewer.mono_l : ∀ k, (∀ y0 y1 y2 y3 y4 y5 y6 y7 y8 y9 y10 y11 y12 y13 y14 y15 y16, LeO (law07_RegNewer.j0 k y0 y1 y2 y3 y4 y5 y6 y7 y8 y9 y10 y11 y12 y13 y14 y15 y16) (law07_RegNewer.j0 (k + 1) y0 y1 y2 y3 y4 y5 y6 y7 y8 y9 y10 y11 y12 y13 y14 y15 y16))
 | 0 => fun _ _ _ _ _ _ _ _ _ _ _ _ _ _ _ _ _ r h => by simp [law07_RegNewer.j0] at h
 | k + 1 => by
  have ih0 := law07_RegNewer.mono_l k
  ·intro y0 y1 y2 y3 y4 y5 y6 y7 y8 y9 y10 y11 y12 y13 y14 y15 y16
   unfold law07_RegNewer.j0
   repeat' first
   | (with_reducible exact ih0 _ _ _ _ _ _ _ _ _ _ _ _ _ _ _ _ _)
   | (with_reducible exact law07_awake.mono _)
   | (with_reducible exact reg_Newer.mono _ _ _ _ _ _ _ _ _ _ _)
   | (with_reducible exact LeO.refl _)
   | (with_reducible exact LeO.none _)
   | (with_reducible refine LeO.ite ?_ ?_)
   | (with_reducible refine LeO.bind ?_ (fun _ => ?_))
   | exact ih0 _ _ _ _ _ _ _ _ _ _ _ _ _ _ _ _ _
   | exact law07_awake.mono _
   | exact reg_Newer.mono _ _ _ _ _ _ _ _ _ _ _
   | exact LeO.none _
   | refine LeO.ite ?_ ?_
   | refine LeO.bind ?_ (fun _ => ?_)
theorem law07_RegNewer.mono : ∀ a0 a1 a2 a3 a4 a5 a6 a7 a8 a9 a10 a11 a12 a13 a14 k, LeO (law07_RegNewer.f k a0 a1 a2 a3 a4 a5 a6 a7 a8 a9 a10 a11 a12 a13 a14) (law07_RegNewer.f (k + 1) a0 a1 a2 a3 a4 a5 a6 a7 a8 a9 a10 a11 a12 a13 a14) := by
 intro a0 a1 a2 a3 a4 a5 a6 a7 a8 a9 a10 a11 a12 a13 a14 k
 have ih0 := law07_RegNewer.mono_l k
 unfold law07_RegNewer.f
 repeat' first
   | (with_reducible exact ih0 _ _ _ _ _ _ _ _ _ _ _ _ _ _ _ _ _)
   | (with_reducible exact law07_awake.mono _)
   | (with_reducible exact reg_Newer.mono _ _ _ _ _ _ _ _ _ _ _)
   | (with_reducible exact LeO.refl _)
   | (with_reducible exact LeO.none _)
   | (with_reducible refine LeO.ite ?_ ?_)
   | (with_reducible refine LeO.bind ?_ (fun _ => ?_))
   | exact ih0 _ _ _ _ _ _ _ _ _ _ _ _ _ _ _ _ _
   | exact law07_awake.mono _
   | exact reg_Newer.mono _ _ _ _ _ _ _ _ _ _ _
   | exact LeO.none _
   | refine LeO.ite ?_ ?_
   | refine LeO.bind ?_ (fun _ => ?_)
set_option maxHeartbeats 8000000 in
set_option maxRecDepth 100000 in
theorem law07_RegNewer.calls (k : Nat) (a0_0 : ByteArray) (a0_1 : ByteArray) (a0_2 : Int) (a0_3 : Int) (a0_4 : Int) (a1_0 : ByteArray) (a1_1 : ByteArray) (a1_2 : Int) (a1_3 : Int) (a1_4 : Int) (a2_0 : ByteArray) (a2_1 : ByteArray) (a2_2 : Int) (a2_3 : Int) (a2_4 : Int) (r : Bool) (w : World) (h : law07_RegNewer.f k a0_0 a0_1 a0_2 a0_3 a0_4 a1_0 a1_1 a1_2 a1_3 a1_4 a2_0 a2_1 a2_2 a2_3 a2_4 = some r) :
  Calls Try.prog 5 #[.agg #[.string a0_0, .string a0_1, .int .i64 a0_2, .int .i64 a0_3, .int .i64 a0_4], .agg #[.string a1_0, .string a1_1, .int .i64 a1_2, .int .i64 a1_3, .int .i64 a1_4], .agg #[.string a2_0, .string a2_1, .int .i64 a2_2, .int .i64 a2_3, .int .i64 a2_4]] w fun e w' => e = .returned (.bool r) ∧ Below w.heap.size w w' := by
 have hu26 := Try.underlying26
 have HB := Aside0.mk (Below.refl w.heap.size w)
 have H : ((law07_awake.f k).bind fun t313 => ((reg_Newer.f k a0_0 a0_1 a0_2 a0_3 a0_4 a0_0 a1_1 a1_2 a1_3 a1_4).bind fun t314 => ((reg_Newer.f k a0_0 a1_1 a1_2 a1_3 a1_4 a0_0 a0_1 a0_2 a0_3 a0_4).bind fun t315 => (if t313 = true then (if t314 = true then (if t315 = true then (law07_RegNewer.j0 k t314 true a0_0 a0_1 a0_2 a0_3 a0_4 a0_0 a1_1 a1_2 a1_3 a1_4 a0_0 a2_1 a2_2 a2_3 a2_4) else (law07_RegNewer.j0 k t314 (true == (a0_1.toList == a1_1.toList && (a0_2 == a1_2 && ((a0_3 == a1_3 && (a0_4 == a1_4)))))) a0_0 a0_1 a0_2 a0_3 a0_4 a0_0 a1_1 a1_2 a1_3 a1_4 a0_0 a2_1 a2_2 a2_3 a2_4)) else (law07_RegNewer.j0 k t314 (t315 == (a0_1.toList == a1_1.toList && (a0_2 == a1_2 && ((a0_3 == a1_3 && (a0_4 == a1_4)))))) a0_0 a0_1 a0_2 a0_3 a0_4 a0_0 a1_1 a1_2 a1_3 a1_4 a0_0 a2_1 a2_2 a2_3 a2_4)) else (law07_RegNewer.j0 k t314 true a0_0 a0_1 a0_2 a0_3 a0_4 a0_0 a1_1 a1_2 a1_3 a1_4 a0_0 a2_1 a2_2 a2_3 a2_4))))) = some r := h
 clear h
 replace H := Option.bind_eq_some_iff.mp H
 obtain ⟨t313, A40, H⟩ := H
 replace H : ((reg_Newer.f k a0_0 a0_1 a0_2 a0_3 a0_4 a0_0 a1_1 a1_2 a1_3 a1_4).bind fun t314 => ((reg_Newer.f k a0_0 a1_1 a1_2 a1_3 a1_4 a0_0 a0_1 a0_2 a0_3 a0_4).bind fun t315 => (if t313 = true then (if t314 = true then (if t315 = true then (law07_RegNewer.j0 k t314 true a0_0 a0_1 a0_2 a0_3 a0_4 a0_0 a1_1 a1_2 a1_3 a1_4 a0_0 a2_1 a2_2 a2_3 a2_4) else (law07_RegNewer.j0 k t314 (true == (a0_1.toList == a1_1.toList && (a0_2 == a1_2 && ((a0_3 == a1_3 && (a0_4 == a1_4)))))) a0_0 a0_1 a0_2 a0_3 a0_4 a0_0 a1_1 a1_2 a1_3 a1_4 a0_0 a2_1 a2_2 a2_3 a2_4)) else (law07_RegNewer.j0 k t314 (t315 == (a0_1.toList == a1_1.toList && (a0_2 == a1_2 && ((a0_3 == a1_3 && (a0_4 == a1_4)))))) a0_0 a0_1 a0_2 a0_3 a0_4 a0_0 a1_1 a1_2 a1_3 a1_4 a0_0 a2_1 a2_2 a2_3 a2_4)) else (law07_RegNewer.j0 k t314 true a0_0 a0_1 a0_2 a0_3 a0_4 a0_0 a1_1 a1_2 a1_3 a1_4 a0_0 a2_1 a2_2 a2_3 a2_4)))) = some r := H
 have A4 := Aside0.mk A40
 clear A40
 replace H := Option.bind_eq_some_iff.mp H
 obtain ⟨t314, A50, H⟩ := H
 replace H : ((reg_Newer.f k a0_0 a1_1 a1_2 a1_3 a1_4 a0_0 a0_1 a0_2 a0_3 a0_4).bind fun t315 => (if t313 = true then (if t314 = true then (if t315 = true then (law07_RegNewer.j0 k t314 true a0_0 a0_1 a0_2 a0_3 a0_4 a0_0 a1_1 a1_2 a1_3 a1_4 a0_0 a2_1 a2_2 a2_3 a2_4) else (law07_RegNewer.j0 k t314 (true == (a0_1.toList == a1_1.toList && (a0_2 == a1_2 && ((a0_3 == a1_3 && (a0_4 == a1_4)))))) a0_0 a0_1 a0_2 a0_3 a0_4 a0_0 a1_1 a1_2 a1_3 a1_4 a0_0 a2_1 a2_2 a2_3 a2_4)) else (law07_RegNewer.j0 k t314 (t315 == (a0_1.toList == a1_1.toList && (a0_2 == a1_2 && ((a0_3 == a1_3 && (a0_4 == a1_4)))))) a0_0 a0_1 a0_2 a0_3 a0_4 a0_0 a1_1 a1_2 a1_3 a1_4 a0_0 a2_1 a2_2 a2_3 a2_4)) else (law07_RegNewer.j0 k t314 true a0_0 a0_1 a0_2 a0_3 a0_4 a0_0 a1_1 a1_2 a1_3 a1_4 a0_0 a2_1 a2_2 a2_3 a2_4))) = some r := H
 have A5 := Aside0.mk A50
 clear A50
 replace H := Option.bind_eq_some_iff.mp H
 obtain ⟨t315, A60, H⟩ := H
 replace H : (if t313 = true then (if t314 = true then (if t315 = true then (law07_RegNewer.j0 k t314 true a0_0 a0_1 a0_2 a0_3 a0_4 a0_0 a1_1 a1_2 a1_3 a1_4 a0_0 a2_1 a2_2 a2_3 a2_4) else (law07_RegNewer.j0 k t314 (true == (a0_1.toList == a1_1.toList && (a0_2 == a1_2 && ((a0_3 == a1_3 && (a0_4 == a1_4)))))) a0_0 a0_1 a0_2 a0_3 a0_4 a0_0 a1_1 a1_2 a1_3 a1_4 a0_0 a2_1 a2_2 a2_3 a2_4)) else (law07_RegNewer.j0 k t314 (t315 == (a0_1.toList == a1_1.toList && (a0_2 == a1_2 && ((a0_3 == a1_3 && (a0_4 == a1_4)))))) a0_0 a0_1 a0_2 a0_3 a0_4 a0_0 a1_1 a1_2 a1_3 a1_4 a0_0 a2_1 a2_2 a2_3 a2_4)) else (law07_RegNewer.j0 k t314 true a0_0 a0_1 a0_2 a0_3 a0_4 a0_0 a1_1 a1_2 a1_3 a1_4 a0_0 a2_1 a2_2 a2_3 a2_4)) = some r := H
 have A6 := Aside0.mk A60
 clear A60
 have HC7 := Aside0.mk H
 clear H
 go_enter Try.func5, Try.ntmps5
 go_upto_region 6 with (first | ((with_reducible refine gate_dst (N := 3) rfl ?_); refine box_event ?hg (N := 3) ?hd (cs := #[.string a0_0, .string a0_1, .int .i64 a0_2, .int .i64 a0_3, .int .i64 a0_4]) (t := 26) ?hr ?_; (case hd => rfl); (case hg => rfl); (case hr => first | (go_simp; done) | (go_simp; rfl)); intro gb310 hg w8 hbox hb; have n0_ := Aside0.mk (below_step (by repeat (first | (with_reducible first | exact HB.out | apply below_alloc | apply pw_below_drewN | apply below_drew1) | exact HB.out)) hb); have n1_ := Aside0.mk (hbox); have n2_ := Aside0.mk ((by rw [hg]; exact (below_size (by repeat (first | (with_reducible first | exact HB.out | apply below_alloc | apply pw_below_drewN | apply below_drew1) | exact HB.out))) : w.heap.size ≤ gb310)); have n3_ := Aside0.mk ((by rw [hg]; exact (below_size (by repeat (first | (with_reducible first | exact HB.out | apply below_alloc | apply pw_below_drewN | apply below_drew1) | exact HB.out))) : w.heap.size ≤ gb310)); clear HB; have HB := n0_; have BK310 := n1_; have GW310 := n2_; have GE310 := n3_; clear n0_ n1_ n2_ n3_; clear hb hbox hg) | ((with_reducible refine gate_dst (N := 4) rfl ?_); refine box_event ?hg (N := 4) ?hd (cs := #[.string a1_0, .string a1_1, .int .i64 a1_2, .int .i64 a1_3, .int .i64 a1_4]) (t := 26) ?hr ?_; (case hd => rfl); (case hg => rfl); (case hr => first | (go_simp; done) | (go_simp; rfl)); intro gb311 hg w9 hbox hb; have n0_ := Aside0.mk (blk_below (g := gb310) (o := .cells #[.string a0_0, .string a0_1, .int .i64 a0_2, .int .i64 a0_3, .int .i64 a0_4] 26 (0, 0)) (by (with_reducible repeat (first | refine blk_drewN ?_ _ | refine blk_drew ?_ | refine blk_alloc ?_ _)); exact BK310.out) hb); have n1_ := Aside0.mk (below_step (by repeat (first | (with_reducible first | exact HB.out | apply below_alloc | apply pw_below_drewN | apply below_drew1 | refine below_set ?_ GE310.out) | exact HB.out)) hb); have n2_ := Aside0.mk (hbox); have n3_ := Aside0.mk ((by rw [hg]; exact (below_size (by repeat (first | (with_reducible first | exact HB.out | apply below_alloc | apply pw_below_drewN | apply below_drew1 | refine below_set ?_ GE310.out) | exact HB.out))) : w.heap.size ≤ gb311)); have n4_ := Aside0.mk ((by rw [hg]; exact (below_size (by repeat (first | (with_reducible first | exact HB.out | apply below_alloc | apply pw_below_drewN | apply below_drew1 | refine below_set ?_ GE310.out) | exact HB.out))) : w.heap.size ≤ gb311)); have n5_ := Aside0.mk ((by rw [hg]; exact Nat.ne_of_lt (blk_lt (g := gb310) (o := .cells #[.string a0_0, .string a0_1, .int .i64 a0_2, .int .i64 a0_3, .int .i64 a0_4] 26 (0, 0)) (by (with_reducible repeat (first | refine blk_drewN ?_ _ | refine blk_drew ?_ | refine blk_alloc ?_ _)); exact BK310.out)) : gb310 ≠ gb311)); have n6_ := Aside0.mk ((by rw [hg]; exact Nat.ne_of_gt (blk_lt (g := gb310) (o := .cells #[.string a0_0, .string a0_1, .int .i64 a0_2, .int .i64 a0_3, .int .i64 a0_4] 26 (0, 0)) (by (with_reducible repeat (first | refine blk_drewN ?_ _ | refine blk_drew ?_ | refine blk_alloc ?_ _)); exact BK310.out)) : gb311 ≠ gb310)); clear BK310; clear HB; have BK310 := n0_; have HB := n1_; have BK311 := n2_; have GW311 := n3_; have GE311 := n4_; have NB310_311 := n5_; have NB311_310 := n6_; clear n0_ n1_ n2_ n3_ n4_ n5_ n6_; clear hb hbox hg) | ((with_reducible refine gate_dst (N := 5) rfl ?_); refine box_event ?hg (N := 5) ?hd (cs := #[.string a2_0, .string a2_1, .int .i64 a2_2, .int .i64 a2_3, .int .i64 a2_4]) (t := 26) ?hr ?_; (case hd => rfl); (case hg => rfl); (case hr => first | (go_simp; done) | (go_simp; rfl)); intro gb312 hg w10 hbox hb; have n0_ := Aside0.mk (blk_below (g := gb310) (o := .cells #[.string a0_0, .string a0_1, .int .i64 a0_2, .int .i64 a0_3, .int .i64 a0_4] 26 (0, 0)) (by (with_reducible repeat (first | refine blk_drewN ?_ _ | refine blk_drew ?_ | refine blk_alloc ?_ _)); exact BK310.out) hb); have n1_ := Aside0.mk (blk_below (g := gb311) (o := .cells #[.string a1_0, .string a1_1, .int .i64 a1_2, .int .i64 a1_3, .int .i64 a1_4] 26 (0, 0)) (by (with_reducible repeat (first | refine blk_drewN ?_ _ | refine blk_drew ?_ | refine blk_alloc ?_ _)); exact BK311.out) hb); have n2_ := Aside0.mk (below_step (by repeat (first | (with_reducible first | exact HB.out | apply below_alloc | apply pw_below_drewN | apply below_drew1 | refine below_set ?_ GE310.out | refine below_set ?_ GE311.out) | exact HB.out)) hb); have n3_ := Aside0.mk (hbox); have n4_ := Aside0.mk ((by rw [hg]; exact (below_size (by repeat (first | (with_reducible first | exact HB.out | apply below_alloc | apply pw_below_drewN | apply below_drew1 | refine below_set ?_ GE310.out | refine below_set ?_ GE311.out) | exact HB.out))) : w.heap.size ≤ gb312)); have n5_ := Aside0.mk ((by rw [hg]; exact (below_size (by repeat (first | (with_reducible first | exact HB.out | apply below_alloc | apply pw_below_drewN | apply below_drew1 | refine below_set ?_ GE310.out | refine below_set ?_ GE311.out) | exact HB.out))) : w.heap.size ≤ gb312)); have n6_ := Aside0.mk ((by rw [hg]; exact Nat.ne_of_lt (blk_lt (g := gb310) (o := .cells #[.string a0_0, .string a0_1, .int .i64 a0_2, .int .i64 a0_3, .int .i64 a0_4] 26 (0, 0)) (by (with_reducible repeat (first | refine blk_drewN ?_ _ | refine blk_drew ?_ | refine blk_alloc ?_ _)); exact BK310.out)) : gb310 ≠ gb312)); have n7_ := Aside0.mk ((by rw [hg]; exact Nat.ne_of_gt (blk_lt (g := gb310) (o := .cells #[.string a0_0, .string a0_1, .int .i64 a0_2, .int .i64 a0_3, .int .i64 a0_4] 26 (0, 0)) (by (with_reducible repeat (first | refine blk_drewN ?_ _ | refine blk_drew ?_ | refine blk_alloc ?_ _)); exact BK310.out)) : gb312 ≠ gb310)); have n8_ := Aside0.mk ((by rw [hg]; exact Nat.ne_of_lt (blk_lt (g := gb311) (o := .cells #[.string a1_0, .string a1_1, .int .i64 a1_2, .int .i64 a1_3, .int .i64 a1_4] 26 (0, 0)) (by (with_reducible repeat (first | refine blk_drewN ?_ _ | refine blk_drew ?_ | refine blk_alloc ?_ _)); exact BK311.out)) : gb311 ≠ gb312)); have n9_ := Aside0.mk ((by rw [hg]; exact Nat.ne_of_gt (blk_lt (g := gb311) (o := .cells #[.string a1_0, .string a1_1, .int .i64 a1_2, .int .i64 a1_3, .int .i64 a1_4] 26 (0, 0)) (by (with_reducible repeat (first | refine blk_drewN ?_ _ | refine blk_drew ?_ | refine blk_alloc ?_ _)); exact BK311.out)) : gb312 ≠ gb311)); clear BK310; clear BK311; clear HB; have BK310 := n0_; have BK311 := n1_; have HB := n2_; have BK312 := n3_; have GW312 := n4_; have GE312 := n5_; have NB310_312 := n6_; have NB312_310 := n7_; have NB311_312 := n8_; have NB312_311 := n9_; clear n0_ n1_ n2_ n3_ n4_ n5_ n6_ n7_ n8_ n9_; clear hb hbox hg) | ((with_reducible refine gate_callee (f := 20) rfl ?_); refine goesL_ (some 10) rfl rfl Try.func20 (by kernel_rfl) rfl #[] rfl (by (try simp only [List.map_toArray, List.map_cons, List.map_nil]); first | done | rfl | (simp only [List.length_drop, List.length_take]; rfl)) ?_; (with_reducible refine (law07_awake.calls k  t313 _ A4.out).mono ?_); rintro e w11 ⟨rfl, hb⟩; refine ⟨_, rfl, ?_⟩; have n0_ := Aside0.mk (blk_below (g := gb310) (o := .cells #[.string a0_0, .string a0_1, .int .i64 a0_2, .int .i64 a0_3, .int .i64 a0_4] 26 (0, 0)) (by (with_reducible repeat (first | refine blk_drewN ?_ _ | refine blk_drew ?_ | refine blk_alloc ?_ _)); exact BK310.out) hb); have n1_ := Aside0.mk (blk_below (g := gb311) (o := .cells #[.string a1_0, .string a1_1, .int .i64 a1_2, .int .i64 a1_3, .int .i64 a1_4] 26 (0, 0)) (by (with_reducible repeat (first | refine blk_drewN ?_ _ | refine blk_drew ?_ | refine blk_alloc ?_ _)); exact BK311.out) hb); have n2_ := Aside0.mk (blk_below (g := gb312) (o := .cells #[.string a2_0, .string a2_1, .int .i64 a2_2, .int .i64 a2_3, .int .i64 a2_4] 26 (0, 0)) (by (with_reducible repeat (first | refine blk_drewN ?_ _ | refine blk_drew ?_ | refine blk_alloc ?_ _)); exact BK312.out) hb); have n3_ := Aside0.mk (below_step (by repeat (first | (with_reducible first | exact HB.out | apply below_alloc | apply pw_below_drewN | apply below_drew1 | refine below_set ?_ GE310.out | refine below_set ?_ GE311.out | refine below_set ?_ GE312.out) | exact HB.out)) hb); clear BK310; clear BK311; clear BK312; clear HB; have BK310 := n0_; have BK311 := n1_; have BK312 := n2_; have HB := n3_; clear n0_ n1_ n2_ n3_; (try clear hb); (try clear hb2); (try clear hk); (try clear hi); have hnb12 := NB310_311.out; have hnc12 := NB311_310.out; have hnb13 := NB310_312.out; have hnc13 := NB312_310.out; have hcz14_0 : w11.cell? ⟨gb310, 0, none⟩ = some (.string a0_0) := (blk_cell BK310.out 0).trans rfl; have hcz14_1 : w11.cell? ⟨gb310, 1, none⟩ = some (.string a0_1) := (blk_cell BK310.out 1).trans rfl; have hcz14_2 : w11.cell? ⟨gb310, 2, none⟩ = some (.int .i64 a0_2) := (blk_cell BK310.out 2).trans rfl; have hcz14_3 : w11.cell? ⟨gb310, 3, none⟩ = some (.int .i64 a0_3) := (blk_cell BK310.out 3).trans rfl; have hcz14_4 : w11.cell? ⟨gb310, 4, none⟩ = some (.int .i64 a0_4) := (blk_cell BK310.out 4).trans rfl; have hfz14_0 := blk_frozen BK310.out 0; have hfz14_1 := blk_frozen BK310.out 1; have hfz14_2 := blk_frozen BK310.out 2; have hfz14_3 := blk_frozen BK310.out 3; have hfz14_4 := blk_frozen BK310.out 4; have hnb15 := NB311_312.out; have hnc15 := NB312_311.out; have hcz16_0 : w11.cell? ⟨gb311, 0, none⟩ = some (.string a1_0) := (blk_cell BK311.out 0).trans rfl; have hcz16_1 : w11.cell? ⟨gb311, 1, none⟩ = some (.string a1_1) := (blk_cell BK311.out 1).trans rfl; have hcz16_2 : w11.cell? ⟨gb311, 2, none⟩ = some (.int .i64 a1_2) := (blk_cell BK311.out 2).trans rfl; have hcz16_3 : w11.cell? ⟨gb311, 3, none⟩ = some (.int .i64 a1_3) := (blk_cell BK311.out 3).trans rfl; have hcz16_4 : w11.cell? ⟨gb311, 4, none⟩ = some (.int .i64 a1_4) := (blk_cell BK311.out 4).trans rfl; have hfz16_0 := blk_frozen BK311.out 0; have hfz16_1 := blk_frozen BK311.out 1; have hfz16_2 := blk_frozen BK311.out 2; have hfz16_3 := blk_frozen BK311.out 3; have hfz16_4 := blk_frozen BK311.out 4; have hcz17_0 : w11.cell? ⟨gb312, 0, none⟩ = some (.string a2_0) := (blk_cell BK312.out 0).trans rfl; have hcz17_1 : w11.cell? ⟨gb312, 1, none⟩ = some (.string a2_1) := (blk_cell BK312.out 1).trans rfl; have hcz17_2 : w11.cell? ⟨gb312, 2, none⟩ = some (.int .i64 a2_2) := (blk_cell BK312.out 2).trans rfl; have hcz17_3 : w11.cell? ⟨gb312, 3, none⟩ = some (.int .i64 a2_3) := (blk_cell BK312.out 3).trans rfl; have hcz17_4 : w11.cell? ⟨gb312, 4, none⟩ = some (.int .i64 a2_4) := (blk_cell BK312.out 4).trans rfl; have hfz17_0 := blk_frozen BK312.out 0; have hfz17_1 := blk_frozen BK312.out 1; have hfz17_2 := blk_frozen BK312.out 2; have hfz17_3 := blk_frozen BK312.out 3; have hfz17_4 := blk_frozen BK312.out 4) | ((with_reducible refine gate_callee (f := 31) rfl ?_); refine goesL_ (some 19) rfl rfl Try.func31 (by kernel_rfl) rfl #[.agg #[.string a0_0, .string a0_1, .int .i64 a0_2, .int .i64 a0_3, .int .i64 a0_4], .agg #[.string a0_0, .string a1_1, .int .i64 a1_2, .int .i64 a1_3, .int .i64 a1_4]] rfl (by (try simp only [List.map_toArray, List.map_cons, List.map_nil]); first | done | rfl | (simp only [List.length_drop, List.length_take]; rfl)) ?_; (with_reducible refine (reg_Newer.calls k a0_0 a0_1 a0_2 a0_3 a0_4 a0_0 a1_1 a1_2 a1_3 a1_4 t314 _ A5.out).mono ?_); rintro e w18 ⟨rfl, hb⟩; refine ⟨_, rfl, ?_⟩; have n0_ := Aside0.mk (blk_below (g := gb310) (o := .cells #[.string a0_0, .string a0_1, .int .i64 a0_2, .int .i64 a0_3, .int .i64 a0_4] 26 (0, 0)) (by (with_reducible repeat (first | refine blk_drewN ?_ _ | refine blk_drew ?_ | refine blk_alloc ?_ _)); refine blk_far ?_ NB310_312.out _; (with_reducible repeat (first | refine blk_drewN ?_ _ | refine blk_drew ?_ | refine blk_alloc ?_ _)); refine blk_far ?_ NB310_311.out _; (with_reducible repeat (first | refine blk_drewN ?_ _ | refine blk_drew ?_ | refine blk_alloc ?_ _)); exact BK310.out) hb); have n1_ := Aside0.mk (blk_below (g := gb311) (o := .cells #[.string a0_0, .string a1_1, .int .i64 a1_2, .int .i64 a1_3, .int .i64 a1_4] 26 (0, 0)) (by (with_reducible repeat (first | refine blk_drewN ?_ _ | refine blk_drew ?_ | refine blk_alloc ?_ _)); refine blk_far ?_ NB311_312.out _; (with_reducible repeat (first | refine blk_drewN ?_ _ | refine blk_drew ?_ | refine blk_alloc ?_ _)); refine blk_put (cs := #[.string a1_0, .string a1_1, .int .i64 a1_2, .int .i64 a1_3, .int .i64 a1_4]) ?_ 0 _ rfl; (with_reducible repeat (first | refine blk_drewN ?_ _ | refine blk_drew ?_ | refine blk_alloc ?_ _)); exact BK311.out) hb); have n2_ := Aside0.mk (blk_below (g := gb312) (o := .cells #[.string a0_0, .string a2_1, .int .i64 a2_2, .int .i64 a2_3, .int .i64 a2_4] 26 (0, 0)) (by (with_reducible repeat (first | refine blk_drewN ?_ _ | refine blk_drew ?_ | refine blk_alloc ?_ _)); refine blk_put (cs := #[.string a2_0, .string a2_1, .int .i64 a2_2, .int .i64 a2_3, .int .i64 a2_4]) ?_ 0 _ rfl; (with_reducible repeat (first | refine blk_drewN ?_ _ | refine blk_drew ?_ | refine blk_alloc ?_ _)); refine blk_far ?_ NB312_311.out _; (with_reducible repeat (first | refine blk_drewN ?_ _ | refine blk_drew ?_ | refine blk_alloc ?_ _)); exact BK312.out) hb); have n3_ := Aside0.mk (below_step (by repeat (first | (with_reducible first | exact HB.out | apply below_alloc | apply pw_below_drewN | apply below_drew1 | refine below_set ?_ GE310.out | refine below_set ?_ GE311.out | refine below_set ?_ GE312.out) | exact HB.out)) hb); clear BK310; clear BK311; clear BK312; clear HB; have BK310 := n0_; have BK311 := n1_; have BK312 := n2_; have HB := n3_; clear n0_ n1_ n2_ n3_; (try clear hb); (try clear hb2); (try clear hk); (try clear hi); have hcz19_0 : w18.cell? ⟨gb311, 0, none⟩ = some (.string a0_0) := (blk_cell BK311.out 0).trans rfl; have hcz19_1 : w18.cell? ⟨gb311, 1, none⟩ = some (.string a1_1) := (blk_cell BK311.out 1).trans rfl; have hcz19_2 : w18.cell? ⟨gb311, 2, none⟩ = some (.int .i64 a1_2) := (blk_cell BK311.out 2).trans rfl; have hcz19_3 : w18.cell? ⟨gb311, 3, none⟩ = some (.int .i64 a1_3) := (blk_cell BK311.out 3).trans rfl; have hcz19_4 : w18.cell? ⟨gb311, 4, none⟩ = some (.int .i64 a1_4) := (blk_cell BK311.out 4).trans rfl; have hfz19_0 := blk_frozen BK311.out 0; have hfz19_1 := blk_frozen BK311.out 1; have hfz19_2 := blk_frozen BK311.out 2; have hfz19_3 := blk_frozen BK311.out 3; have hfz19_4 := blk_frozen BK311.out 4; have hcz20_0 : w18.cell? ⟨gb310, 0, none⟩ = some (.string a0_0) := (blk_cell BK310.out 0).trans rfl; have hcz20_1 : w18.cell? ⟨gb310, 1, none⟩ = some (.string a0_1) := (blk_cell BK310.out 1).trans rfl; have hcz20_2 : w18.cell? ⟨gb310, 2, none⟩ = some (.int .i64 a0_2) := (blk_cell BK310.out 2).trans rfl; have hcz20_3 : w18.cell? ⟨gb310, 3, none⟩ = some (.int .i64 a0_3) := (blk_cell BK310.out 3).trans rfl; have hcz20_4 : w18.cell? ⟨gb310, 4, none⟩ = some (.int .i64 a0_4) := (blk_cell BK310.out 4).trans rfl; have hfz20_0 := blk_frozen BK310.out 0; have hfz20_1 := blk_frozen BK310.out 1; have hfz20_2 := blk_frozen BK310.out 2; have hfz20_3 := blk_frozen BK310.out 3; have hfz20_4 := blk_frozen BK310.out 4) | ((with_reducible refine gate_callee (f := 31) rfl ?_); refine goesL_ (some 22) rfl rfl Try.func31 (by kernel_rfl) rfl #[.agg #[.string a0_0, .string a1_1, .int .i64 a1_2, .int .i64 a1_3, .int .i64 a1_4], .agg #[.string a0_0, .string a0_1, .int .i64 a0_2, .int .i64 a0_3, .int .i64 a0_4]] rfl (by (try simp only [List.map_toArray, List.map_cons, List.map_nil]); first | done | rfl | (simp only [List.length_drop, List.length_take]; rfl)) ?_; (with_reducible refine (reg_Newer.calls k a0_0 a1_1 a1_2 a1_3 a1_4 a0_0 a0_1 a0_2 a0_3 a0_4 t315 _ A6.out).mono ?_); rintro e w21 ⟨rfl, hb⟩; refine ⟨_, rfl, ?_⟩; have n0_ := Aside0.mk (blk_below (g := gb310) (o := .cells #[.string a0_0, .string a0_1, .int .i64 a0_2, .int .i64 a0_3, .int .i64 a0_4] 26 (0, 0)) (by (with_reducible repeat (first | refine blk_drewN ?_ _ | refine blk_drew ?_ | refine blk_alloc ?_ _)); exact BK310.out) hb); have n1_ := Aside0.mk (blk_below (g := gb311) (o := .cells #[.string a0_0, .string a1_1, .int .i64 a1_2, .int .i64 a1_3, .int .i64 a1_4] 26 (0, 0)) (by (with_reducible repeat (first | refine blk_drewN ?_ _ | refine blk_drew ?_ | refine blk_alloc ?_ _)); exact BK311.out) hb); have n2_ := Aside0.mk (blk_below (g := gb312) (o := .cells #[.string a0_0, .string a2_1, .int .i64 a2_2, .int .i64 a2_3, .int .i64 a2_4] 26 (0, 0)) (by (with_reducible repeat (first | refine blk_drewN ?_ _ | refine blk_drew ?_ | refine blk_alloc ?_ _)); exact BK312.out) hb); have n3_ := Aside0.mk (below_step (by repeat (first | (with_reducible first | exact HB.out | apply below_alloc | apply pw_below_drewN | apply below_drew1 | refine below_set ?_ GE310.out | refine below_set ?_ GE311.out | refine below_set ?_ GE312.out) | exact HB.out)) hb); clear BK310; clear BK311; clear BK312; clear HB; have BK310 := n0_; have BK311 := n1_; have BK312 := n2_; have HB := n3_; clear n0_ n1_ n2_ n3_; (try clear hb); (try clear hb2); (try clear hk); (try clear hi)))
 (try simp only [Act.put, List.setIfInBounds_toArray, List.set_cons_zero, List.set_cons_succ])
 go_cut [40] (fun v40 wc => ∃ (kq : Nat) (x40_6 : Bool), v40 = .bool x40_6 ∧ Aside0 (law07_RegNewer.j0 kq t314 x40_6 a0_0 a0_1 a0_2 a0_3 a0_4 a0_0 a1_1 a1_2 a1_3 a1_4 a0_0 a2_1 a2_2 a2_3 a2_4 = some r) ∧ Aside0 (kq ≤ k) ∧ Aside0 (wc.heap[gb310]? = some (.cells #[.string a0_0, .string a0_1, .int .i64 a0_2, .int .i64 a0_3, .int .i64 a0_4] 26 (0, 0))) ∧ Aside0 (wc.heap[gb311]? = some (.cells #[.string a0_0, .string a1_1, .int .i64 a1_2, .int .i64 a1_3, .int .i64 a1_4] 26 (0, 0))) ∧ Aside0 (wc.heap[gb312]? = some (.cells #[.string a0_0, .string a2_1, .int .i64 a2_2, .int .i64 a2_3, .int .i64 a2_4] 26 (0, 0))) ∧ Aside0 (Below w.heap.size w wc))
 case first =>
  have H := HC7.out
  clear HC7
  by_cases c22 : t313 = true
  ·subst c22
   have H1 : (if t314 = true then (if t315 = true then (law07_RegNewer.j0 k t314 true a0_0 a0_1 a0_2 a0_3 a0_4 a0_0 a1_1 a1_2 a1_3 a1_4 a0_0 a2_1 a2_2 a2_3 a2_4) else (law07_RegNewer.j0 k t314 (true == (a0_1.toList == a1_1.toList && (a0_2 == a1_2 && ((a0_3 == a1_3 && (a0_4 == a1_4)))))) a0_0 a0_1 a0_2 a0_3 a0_4 a0_0 a1_1 a1_2 a1_3 a1_4 a0_0 a2_1 a2_2 a2_3 a2_4)) else (law07_RegNewer.j0 k t314 (t315 == (a0_1.toList == a1_1.toList && (a0_2 == a1_2 && ((a0_3 == a1_3 && (a0_4 == a1_4)))))) a0_0 a0_1 a0_2 a0_3 a0_4 a0_0 a1_1 a1_2 a1_3 a1_4 a0_0 a2_1 a2_2 a2_3 a2_4)) = some r := by rw [if_pos rfl] at H; exact H
   clear H
   have H := H1
   clear H1
   by_cases c23 : t314 = true
   ·subst c23
    have H1 : (if t315 = true then (law07_RegNewer.j0 k true true a0_0 a0_1 a0_2 a0_3 a0_4 a0_0 a1_1 a1_2 a1_3 a1_4 a0_0 a2_1 a2_2 a2_3 a2_4) else (law07_RegNewer.j0 k true (true == (a0_1.toList == a1_1.toList && (a0_2 == a1_2 && ((a0_3 == a1_3 && (a0_4 == a1_4)))))) a0_0 a0_1 a0_2 a0_3 a0_4 a0_0 a1_1 a1_2 a1_3 a1_4 a0_0 a2_1 a2_2 a2_3 a2_4)) = some r := by rw [if_pos rfl] at H; exact H
    clear H
    have H := H1
    clear H1
    by_cases c24 : t315 = true
    ·subst c24
     have H1 : (law07_RegNewer.j0 k true true a0_0 a0_1 a0_2 a0_3 a0_4 a0_0 a1_1 a1_2 a1_3 a1_4 a0_0 a2_1 a2_2 a2_3 a2_4) = some r := by rw [if_pos rfl] at H; exact H
     clear H
     have H := H1
     clear H1
     have H' := Aside0.mk H
     clear H
     go_wp2
     go_meet
     case rel => exact ⟨_, (true), (by first | rfl | (simp; done) | (simp [*]; done)), H', ⟨by first | omega | exact Nat.le_refl _⟩, ⟨by (with_reducible repeat (first | refine blk_drewN ?_ _ | refine blk_drew ?_ | refine blk_alloc ?_ _)); exact BK310.out⟩, ⟨by (with_reducible repeat (first | refine blk_drewN ?_ _ | refine blk_drew ?_ | refine blk_alloc ?_ _)); exact BK311.out⟩, ⟨by (with_reducible repeat (first | refine blk_drewN ?_ _ | refine blk_drew ?_ | refine blk_alloc ?_ _)); exact BK312.out⟩, ⟨by repeat (first | (with_reducible first | exact HB.out | apply below_alloc | apply pw_below_drewN | apply below_drew1 | refine below_set ?_ GE310.out | refine below_set ?_ GE311.out | refine below_set ?_ GE312.out) | exact HB.out)⟩⟩
    ·replace c24 := Bool.eq_false_iff.mpr c24
     subst c24
     have H1 : (law07_RegNewer.j0 k true (true == (a0_1.toList == a1_1.toList && (a0_2 == a1_2 && ((a0_3 == a1_3 && (a0_4 == a1_4)))))) a0_0 a0_1 a0_2 a0_3 a0_4 a0_0 a1_1 a1_2 a1_3 a1_4 a0_0 a2_1 a2_2 a2_3 a2_4) = some r := by rw [if_neg (show ¬ (false = true) by decide)] at H; exact H
     clear H
     have H := H1
     clear H1
     have H' := Aside0.mk H
     clear H
     have hnb25 := NB310_311.out
     have hnc25 := NB311_310.out
     have hnb26 := NB310_312.out
     have hnc26 := NB312_310.out
     have hcz27_0 : w21.cell? ⟨gb310, 0, none⟩ = some (.string a0_0) := (blk_cell BK310.out 0).trans rfl
     have hcz27_1 : w21.cell? ⟨gb310, 1, none⟩ = some (.string a0_1) := (blk_cell BK310.out 1).trans rfl
     have hcz27_2 : w21.cell? ⟨gb310, 2, none⟩ = some (.int .i64 a0_2) := (blk_cell BK310.out 2).trans rfl
     have hcz27_3 : w21.cell? ⟨gb310, 3, none⟩ = some (.int .i64 a0_3) := (blk_cell BK310.out 3).trans rfl
     have hcz27_4 : w21.cell? ⟨gb310, 4, none⟩ = some (.int .i64 a0_4) := (blk_cell BK310.out 4).trans rfl
     have hfz27_0 := blk_frozen BK310.out 0
     have hfz27_1 := blk_frozen BK310.out 1
     have hfz27_2 := blk_frozen BK310.out 2
     have hfz27_3 := blk_frozen BK310.out 3
     have hfz27_4 := blk_frozen BK310.out 4
     have hnb28 := NB311_312.out
     have hnc28 := NB312_311.out
     have hcz29_0 : w21.cell? ⟨gb311, 0, none⟩ = some (.string a0_0) := (blk_cell BK311.out 0).trans rfl
     have hcz29_1 : w21.cell? ⟨gb311, 1, none⟩ = some (.string a1_1) := (blk_cell BK311.out 1).trans rfl
     have hcz29_2 : w21.cell? ⟨gb311, 2, none⟩ = some (.int .i64 a1_2) := (blk_cell BK311.out 2).trans rfl
     have hcz29_3 : w21.cell? ⟨gb311, 3, none⟩ = some (.int .i64 a1_3) := (blk_cell BK311.out 3).trans rfl
     have hcz29_4 : w21.cell? ⟨gb311, 4, none⟩ = some (.int .i64 a1_4) := (blk_cell BK311.out 4).trans rfl
     have hfz29_0 := blk_frozen BK311.out 0
     have hfz29_1 := blk_frozen BK311.out 1
     have hfz29_2 := blk_frozen BK311.out 2
     have hfz29_3 := blk_frozen BK311.out 3
     have hfz29_4 := blk_frozen BK311.out 4
     go_wp2
     go_meet
     case rel => exact ⟨_, ((true == (a0_1.toList == a1_1.toList && (a0_2 == a1_2 && ((a0_3 == a1_3 && (a0_4 == a1_4))))))), (by first | rfl | (simp; done) | (simp [*]; done)), H', ⟨by first | omega | exact Nat.le_refl _⟩, ⟨by (with_reducible repeat (first | refine blk_drewN ?_ _ | refine blk_drew ?_ | refine blk_alloc ?_ _)); exact BK310.out⟩, ⟨by (with_reducible repeat (first | refine blk_drewN ?_ _ | refine blk_drew ?_ | refine blk_alloc ?_ _)); exact BK311.out⟩, ⟨by (with_reducible repeat (first | refine blk_drewN ?_ _ | refine blk_drew ?_ | refine blk_alloc ?_ _)); exact BK312.out⟩, ⟨by repeat (first | (with_reducible first | exact HB.out | apply below_alloc | apply pw_below_drewN | apply below_drew1 | refine below_set ?_ GE310.out | refine below_set ?_ GE311.out | refine below_set ?_ GE312.out) | exact HB.out)⟩⟩
   ·replace c23 := Bool.eq_false_iff.mpr c23
    subst c23
    have H1 : (law07_RegNewer.j0 k false (t315 == (a0_1.toList == a1_1.toList && (a0_2 == a1_2 && ((a0_3 == a1_3 && (a0_4 == a1_4)))))) a0_0 a0_1 a0_2 a0_3 a0_4 a0_0 a1_1 a1_2 a1_3 a1_4 a0_0 a2_1 a2_2 a2_3 a2_4) = some r := by rw [if_neg (show ¬ (false = true) by decide)] at H; exact H
    clear H
    have H := H1
    clear H1
    have H' := Aside0.mk H
    clear H
    have hnb30 := NB310_311.out
    have hnc30 := NB311_310.out
    have hnb31 := NB310_312.out
    have hnc31 := NB312_310.out
    have hcz32_0 : w21.cell? ⟨gb310, 0, none⟩ = some (.string a0_0) := (blk_cell BK310.out 0).trans rfl
    have hcz32_1 : w21.cell? ⟨gb310, 1, none⟩ = some (.string a0_1) := (blk_cell BK310.out 1).trans rfl
    have hcz32_2 : w21.cell? ⟨gb310, 2, none⟩ = some (.int .i64 a0_2) := (blk_cell BK310.out 2).trans rfl
    have hcz32_3 : w21.cell? ⟨gb310, 3, none⟩ = some (.int .i64 a0_3) := (blk_cell BK310.out 3).trans rfl
    have hcz32_4 : w21.cell? ⟨gb310, 4, none⟩ = some (.int .i64 a0_4) := (blk_cell BK310.out 4).trans rfl
    have hfz32_0 := blk_frozen BK310.out 0
    have hfz32_1 := blk_frozen BK310.out 1
    have hfz32_2 := blk_frozen BK310.out 2
    have hfz32_3 := blk_frozen BK310.out 3
    have hfz32_4 := blk_frozen BK310.out 4
    have hnb33 := NB311_312.out
    have hnc33 := NB312_311.out
    have hcz34_0 : w21.cell? ⟨gb311, 0, none⟩ = some (.string a0_0) := (blk_cell BK311.out 0).trans rfl
    have hcz34_1 : w21.cell? ⟨gb311, 1, none⟩ = some (.string a1_1) := (blk_cell BK311.out 1).trans rfl
    have hcz34_2 : w21.cell? ⟨gb311, 2, none⟩ = some (.int .i64 a1_2) := (blk_cell BK311.out 2).trans rfl
    have hcz34_3 : w21.cell? ⟨gb311, 3, none⟩ = some (.int .i64 a1_3) := (blk_cell BK311.out 3).trans rfl
    have hcz34_4 : w21.cell? ⟨gb311, 4, none⟩ = some (.int .i64 a1_4) := (blk_cell BK311.out 4).trans rfl
    have hfz34_0 := blk_frozen BK311.out 0
    have hfz34_1 := blk_frozen BK311.out 1
    have hfz34_2 := blk_frozen BK311.out 2
    have hfz34_3 := blk_frozen BK311.out 3
    have hfz34_4 := blk_frozen BK311.out 4
    go_wp2
    go_meet
    case rel => exact ⟨_, ((t315 == (a0_1.toList == a1_1.toList && (a0_2 == a1_2 && ((a0_3 == a1_3 && (a0_4 == a1_4))))))), (by first | rfl | (simp; done) | (simp [*]; done)), H', ⟨by first | omega | exact Nat.le_refl _⟩, ⟨by (with_reducible repeat (first | refine blk_drewN ?_ _ | refine blk_drew ?_ | refine blk_alloc ?_ _)); exact BK310.out⟩, ⟨by (with_reducible repeat (first | refine blk_drewN ?_ _ | refine blk_drew ?_ | refine blk_alloc ?_ _)); exact BK311.out⟩, ⟨by (with_reducible repeat (first | refine blk_drewN ?_ _ | refine blk_drew ?_ | refine blk_alloc ?_ _)); exact BK312.out⟩, ⟨by repeat (first | (with_reducible first | exact HB.out | apply below_alloc | apply pw_below_drewN | apply below_drew1 | refine below_set ?_ GE310.out | refine below_set ?_ GE311.out | refine below_set ?_ GE312.out) | exact HB.out)⟩⟩
  ·replace c22 := Bool.eq_false_iff.mpr c22
   subst c22
   have H1 : (law07_RegNewer.j0 k t314 true a0_0 a0_1 a0_2 a0_3 a0_4 a0_0 a1_1 a1_2 a1_3 a1_4 a0_0 a2_1 a2_2 a2_3 a2_4) = some r := by rw [if_neg (show ¬ (false = true) by decide)] at H; exact H
   clear H
   have H := H1
   clear H1
   have H' := Aside0.mk H
   clear H
   go_wp2
   go_meet
   case rel => exact ⟨_, (true), (by first | rfl | (simp; done) | (simp [*]; done)), H', ⟨by first | omega | exact Nat.le_refl _⟩, ⟨by (with_reducible repeat (first | refine blk_drewN ?_ _ | refine blk_drew ?_ | refine blk_alloc ?_ _)); exact BK310.out⟩, ⟨by (with_reducible repeat (first | refine blk_drewN ?_ _ | refine blk_drew ?_ | refine blk_alloc ?_ _)); exact BK311.out⟩, ⟨by (with_reducible repeat (first | refine blk_drewN ?_ _ | refine blk_drew ?_ | refine blk_alloc ?_ _)); exact BK312.out⟩, ⟨by repeat (first | (with_reducible first | exact HB.out | apply below_alloc | apply pw_below_drewN | apply below_drew1 | refine below_set ?_ GE310.out | refine below_set ?_ GE311.out | refine below_set ?_ GE312.out) | exact HB.out)⟩⟩
 case rest =>
  clear HC7
  try clear c1
  try clear c2
  try clear p2
  try clear c3
  try clear c5
  try clear c12
  try clear c13
  try clear c15
  try clear c20
  try clear c22
  try clear c23
  try clear c24
  try clear c25
  try clear c26
  try clear c28
  try clear c30
  try clear c31
  try clear c33
  try clear hcz14_0
  try clear hcz14_1
  try clear hcz14_2
  try clear hcz14_3
  try clear hcz14_4
  try clear hcz16_0
  try clear hcz16_1
  try clear hcz16_2
  try clear hcz16_3
  try clear hcz16_4
  try clear hcz17_0
  try clear hcz17_1
  try clear hcz17_2
  try clear hcz17_3
  try clear hcz17_4
  try clear hcz19_0
  try clear hcz19_1
  try clear hcz19_2
  try clear hcz19_3
  try clear hcz19_4
  try clear hcz20_0
  try clear hcz20_1
  try clear hcz20_2
  try clear hcz20_3
  try clear hcz20_4
  try clear hcz27_0
  try clear hcz27_1
  try clear hcz27_2
  try clear hcz27_3
  try clear hcz27_4
  try clear hcz29_0
  try clear hcz29_1
  try clear hcz29_2
  try clear hcz29_3
  try clear hcz29_4
  try clear hcz32_0
  try clear hcz32_1
  try clear hcz32_2
  try clear hcz32_3
  try clear hcz32_4
  try clear hcz34_0
  try clear hcz34_1
  try clear hcz34_2
  try clear hcz34_3
  try clear hcz34_4
  try clear hfz14_0
  try clear hfz14_1
  try clear hfz14_2
  try clear hfz14_3
  try clear hfz14_4
  try clear hfz16_0
  try clear hfz16_1
  try clear hfz16_2
  try clear hfz16_3
  try clear hfz16_4
  try clear hfz17_0
  try clear hfz17_1
  try clear hfz17_2
  try clear hfz17_3
  try clear hfz17_4
  try clear hfz19_0
  try clear hfz19_1
  try clear hfz19_2
  try clear hfz19_3
  try clear hfz19_4
  try clear hfz20_0
  try clear hfz20_1
  try clear hfz20_2
  try clear hfz20_3
  try clear hfz20_4
  try clear hfz27_0
  try clear hfz27_1
  try clear hfz27_2
  try clear hfz27_3
  try clear hfz27_4
  try clear hfz29_0
  try clear hfz29_1
  try clear hfz29_2
  try clear hfz29_3
  try clear hfz29_4
  try clear hfz32_0
  try clear hfz32_1
  try clear hfz32_2
  try clear hfz32_3
  try clear hfz32_4
  try clear hfz34_0
  try clear hfz34_1
  try clear hfz34_2
  try clear hfz34_3
  try clear hfz34_4
  obtain ⟨kq, x40_6, rfl, HA, HJ6, BK310, BK311, BK312, HB⟩ := hcut
  cases kq with
  | zero => exact absurd HA.out (by simp [law07_RegNewer.j0])
  | succ kj6 =>
   have H := HA.out
   clear HA
   simp only [law07_RegNewer.j0] at H
   by_cases c35 : x40_6 = true
   ·subst c35
    have H1 : (some false) = some r := by rw [if_pos rfl] at H; exact H
    clear H
    have H := H1
    clear H1
    obtain rfl := Option.some.inj H
    go_wp2
    go_ret
    exact ⟨by first | rfl | (simp [errW_none, errW_some] <;> rfl) | (simp [*, errW_none, errW_some] <;> rfl), by repeat (first | (with_reducible first | exact HB.out | apply below_alloc | apply pw_below_drewN | apply below_drew1 | refine below_set ?_ GE310.out | refine below_set ?_ GE311.out | refine below_set ?_ GE312.out) | exact HB.out)⟩
   ·replace c35 := Bool.eq_false_iff.mpr c35
    subst c35
    have H1 : (if t314 = true then ((reg_Newer.f kj6 a0_0 a1_1 a1_2 a1_3 a1_4 a0_0 a2_1 a2_2 a2_3 a2_4).bind fun t316 => (if t316 = true then ((reg_Newer.f kj6 a0_0 a0_1 a0_2 a0_3 a0_4 a0_0 a2_1 a2_2 a2_3 a2_4).bind fun t317 => (some t317)) else (some true))) else (some true)) = some r := by rw [if_neg (show ¬ (false = true) by decide)] at H; exact H
    clear H
    have H := H1
    clear H1
    by_cases c36 : t314 = true
    ·subst c36
     have H1 : ((reg_Newer.f kj6 a0_0 a1_1 a1_2 a1_3 a1_4 a0_0 a2_1 a2_2 a2_3 a2_4).bind fun t316 => (if t316 = true then ((reg_Newer.f kj6 a0_0 a0_1 a0_2 a0_3 a0_4 a0_0 a2_1 a2_2 a2_3 a2_4).bind fun t317 => (some t317)) else (some true))) = some r := by rw [if_pos rfl] at H; exact H
     clear H
     have H := H1
     clear H1
     replace H := Option.bind_eq_some_iff.mp H
     obtain ⟨t316, A370, H⟩ := H
     replace H : (if t316 = true then ((reg_Newer.f kj6 a0_0 a0_1 a0_2 a0_3 a0_4 a0_0 a2_1 a2_2 a2_3 a2_4).bind fun t317 => (some t317)) else (some true)) = some r := H
     have A37 := Aside0.mk A370
     clear A370
     by_cases c38 : t316 = true
     ·subst c38
      have H1 : ((reg_Newer.f kj6 a0_0 a0_1 a0_2 a0_3 a0_4 a0_0 a2_1 a2_2 a2_3 a2_4).bind fun t317 => (some t317)) = some r := by rw [if_pos rfl] at H; exact H
      clear H
      have H := H1
      clear H1
      replace H := Option.bind_eq_some_iff.mp H
      obtain ⟨t317, A390, H⟩ := H
      replace H : (some t317) = some r := H
      have A39 := Aside0.mk A390
      clear A390
      obtain rfl := Option.some.inj H
      have hnb40 := NB311_310.out
      have hnc40 := NB310_311.out
      have hnb41 := NB311_312.out
      have hnc41 := NB312_311.out
      have hcz42_0 : wc.cell? ⟨gb311, 0, none⟩ = some (.string a0_0) := (blk_cell BK311.out 0).trans rfl
      have hcz42_1 : wc.cell? ⟨gb311, 1, none⟩ = some (.string a1_1) := (blk_cell BK311.out 1).trans rfl
      have hcz42_2 : wc.cell? ⟨gb311, 2, none⟩ = some (.int .i64 a1_2) := (blk_cell BK311.out 2).trans rfl
      have hcz42_3 : wc.cell? ⟨gb311, 3, none⟩ = some (.int .i64 a1_3) := (blk_cell BK311.out 3).trans rfl
      have hcz42_4 : wc.cell? ⟨gb311, 4, none⟩ = some (.int .i64 a1_4) := (blk_cell BK311.out 4).trans rfl
      have hfz42_0 := blk_frozen BK311.out 0
      have hfz42_1 := blk_frozen BK311.out 1
      have hfz42_2 := blk_frozen BK311.out 2
      have hfz42_3 := blk_frozen BK311.out 3
      have hfz42_4 := blk_frozen BK311.out 4
      have hnb43 := NB312_310.out
      have hnc43 := NB310_312.out
      have hcz44_0 : wc.cell? ⟨gb312, 0, none⟩ = some (.string a0_0) := (blk_cell BK312.out 0).trans rfl
      have hcz44_1 : wc.cell? ⟨gb312, 1, none⟩ = some (.string a2_1) := (blk_cell BK312.out 1).trans rfl
      have hcz44_2 : wc.cell? ⟨gb312, 2, none⟩ = some (.int .i64 a2_2) := (blk_cell BK312.out 2).trans rfl
      have hcz44_3 : wc.cell? ⟨gb312, 3, none⟩ = some (.int .i64 a2_3) := (blk_cell BK312.out 3).trans rfl
      have hcz44_4 : wc.cell? ⟨gb312, 4, none⟩ = some (.int .i64 a2_4) := (blk_cell BK312.out 4).trans rfl
      have hfz44_0 := blk_frozen BK312.out 0
      have hfz44_1 := blk_frozen BK312.out 1
      have hfz44_2 := blk_frozen BK312.out 2
      have hfz44_3 := blk_frozen BK312.out 3
      have hfz44_4 := blk_frozen BK312.out 4
      go_wp2_with (first | (go_at_call 31; (with_reducible refine (reg_Newer.calls kj6 a0_0 a1_1 a1_2 a1_3 a1_4 a0_0 a2_1 a2_2 a2_3 a2_4 true _ A37.out).mono ?_); rintro e w45 ⟨rfl, hb⟩; have n0_ := Aside0.mk (blk_below (g := gb310) (o := .cells #[.string a0_0, .string a0_1, .int .i64 a0_2, .int .i64 a0_3, .int .i64 a0_4] 26 (0, 0)) (by (with_reducible repeat (first | refine blk_drewN ?_ _ | refine blk_drew ?_ | refine blk_alloc ?_ _)); exact BK310.out) hb); have n1_ := Aside0.mk (blk_below (g := gb311) (o := .cells #[.string a0_0, .string a1_1, .int .i64 a1_2, .int .i64 a1_3, .int .i64 a1_4] 26 (0, 0)) (by (with_reducible repeat (first | refine blk_drewN ?_ _ | refine blk_drew ?_ | refine blk_alloc ?_ _)); exact BK311.out) hb); have n2_ := Aside0.mk (blk_below (g := gb312) (o := .cells #[.string a0_0, .string a2_1, .int .i64 a2_2, .int .i64 a2_3, .int .i64 a2_4] 26 (0, 0)) (by (with_reducible repeat (first | refine blk_drewN ?_ _ | refine blk_drew ?_ | refine blk_alloc ?_ _)); exact BK312.out) hb); have n3_ := Aside0.mk (below_step (by repeat (first | (with_reducible first | exact HB.out | apply below_alloc | apply pw_below_drewN | apply below_drew1 | refine below_set ?_ GE310.out | refine below_set ?_ GE311.out | refine below_set ?_ GE312.out) | exact HB.out)) hb); clear BK310; clear BK311; clear BK312; clear HB; have BK310 := n0_; have BK311 := n1_; have BK312 := n2_; have HB := n3_; clear n0_ n1_ n2_ n3_; (try clear hb); (try clear hb2); (try clear hk); (try clear hi); have hcz46_0 : w45.cell? ⟨gb310, 0, none⟩ = some (.string a0_0) := (blk_cell BK310.out 0).trans rfl; have hcz46_1 : w45.cell? ⟨gb310, 1, none⟩ = some (.string a0_1) := (blk_cell BK310.out 1).trans rfl; have hcz46_2 : w45.cell? ⟨gb310, 2, none⟩ = some (.int .i64 a0_2) := (blk_cell BK310.out 2).trans rfl; have hcz46_3 : w45.cell? ⟨gb310, 3, none⟩ = some (.int .i64 a0_3) := (blk_cell BK310.out 3).trans rfl; have hcz46_4 : w45.cell? ⟨gb310, 4, none⟩ = some (.int .i64 a0_4) := (blk_cell BK310.out 4).trans rfl; have hfz46_0 := blk_frozen BK310.out 0; have hfz46_1 := blk_frozen BK310.out 1; have hfz46_2 := blk_frozen BK310.out 2; have hfz46_3 := blk_frozen BK310.out 3; have hfz46_4 := blk_frozen BK310.out 4; have hcz47_0 : w45.cell? ⟨gb312, 0, none⟩ = some (.string a0_0) := (blk_cell BK312.out 0).trans rfl; have hcz47_1 : w45.cell? ⟨gb312, 1, none⟩ = some (.string a2_1) := (blk_cell BK312.out 1).trans rfl; have hcz47_2 : w45.cell? ⟨gb312, 2, none⟩ = some (.int .i64 a2_2) := (blk_cell BK312.out 2).trans rfl; have hcz47_3 : w45.cell? ⟨gb312, 3, none⟩ = some (.int .i64 a2_3) := (blk_cell BK312.out 3).trans rfl; have hcz47_4 : w45.cell? ⟨gb312, 4, none⟩ = some (.int .i64 a2_4) := (blk_cell BK312.out 4).trans rfl; have hfz47_0 := blk_frozen BK312.out 0; have hfz47_1 := blk_frozen BK312.out 1; have hfz47_2 := blk_frozen BK312.out 2; have hfz47_3 := blk_frozen BK312.out 3; have hfz47_4 := blk_frozen BK312.out 4) | (go_at_call 31; (with_reducible refine (reg_Newer.calls kj6 a0_0 a0_1 a0_2 a0_3 a0_4 a0_0 a2_1 a2_2 a2_3 a2_4 t317 _ A39.out).mono ?_); rintro e w48 ⟨rfl, hb⟩; have n0_ := Aside0.mk (blk_below (g := gb310) (o := .cells #[.string a0_0, .string a0_1, .int .i64 a0_2, .int .i64 a0_3, .int .i64 a0_4] 26 (0, 0)) (by (with_reducible repeat (first | refine blk_drewN ?_ _ | refine blk_drew ?_ | refine blk_alloc ?_ _)); exact BK310.out) hb); have n1_ := Aside0.mk (blk_below (g := gb311) (o := .cells #[.string a0_0, .string a1_1, .int .i64 a1_2, .int .i64 a1_3, .int .i64 a1_4] 26 (0, 0)) (by (with_reducible repeat (first | refine blk_drewN ?_ _ | refine blk_drew ?_ | refine blk_alloc ?_ _)); exact BK311.out) hb); have n2_ := Aside0.mk (blk_below (g := gb312) (o := .cells #[.string a0_0, .string a2_1, .int .i64 a2_2, .int .i64 a2_3, .int .i64 a2_4] 26 (0, 0)) (by (with_reducible repeat (first | refine blk_drewN ?_ _ | refine blk_drew ?_ | refine blk_alloc ?_ _)); exact BK312.out) hb); have n3_ := Aside0.mk (below_step (by repeat (first | (with_reducible first | exact HB.out | apply below_alloc | apply pw_below_drewN | apply below_drew1 | refine below_set ?_ GE310.out | refine below_set ?_ GE311.out | refine below_set ?_ GE312.out) | exact HB.out)) hb); clear BK310; clear BK311; clear BK312; clear HB; have BK310 := n0_; have BK311 := n1_; have BK312 := n2_; have HB := n3_; clear n0_ n1_ n2_ n3_; (try clear hb); (try clear hb2); (try clear hk); (try clear hi)))
      go_ret
      exact ⟨by first | rfl | (simp [errW_none, errW_some] <;> rfl) | (simp [*, errW_none, errW_some] <;> rfl), by repeat (first | (with_reducible first | exact HB.out | apply below_alloc | apply pw_below_drewN | apply below_drew1 | refine below_set ?_ GE310.out | refine below_set ?_ GE311.out | refine below_set ?_ GE312.out) | exact HB.out)⟩
     ·replace c38 := Bool.eq_false_iff.mpr c38
      subst c38
      have H1 : (some true) = some r := by rw [if_neg (show ¬ (false = true) by decide)] at H; exact H
      clear H
      have H := H1
      clear H1
      obtain rfl := Option.some.inj H
      have hnb49 := NB311_310.out
      have hnc49 := NB310_311.out
      have hnb50 := NB311_312.out
      have hnc50 := NB312_311.out
      have hcz51_0 : wc.cell? ⟨gb311, 0, none⟩ = some (.string a0_0) := (blk_cell BK311.out 0).trans rfl
      have hcz51_1 : wc.cell? ⟨gb311, 1, none⟩ = some (.string a1_1) := (blk_cell BK311.out 1).trans rfl
      have hcz51_2 : wc.cell? ⟨gb311, 2, none⟩ = some (.int .i64 a1_2) := (blk_cell BK311.out 2).trans rfl
      have hcz51_3 : wc.cell? ⟨gb311, 3, none⟩ = some (.int .i64 a1_3) := (blk_cell BK311.out 3).trans rfl
      have hcz51_4 : wc.cell? ⟨gb311, 4, none⟩ = some (.int .i64 a1_4) := (blk_cell BK311.out 4).trans rfl
      have hfz51_0 := blk_frozen BK311.out 0
      have hfz51_1 := blk_frozen BK311.out 1
      have hfz51_2 := blk_frozen BK311.out 2
      have hfz51_3 := blk_frozen BK311.out 3
      have hfz51_4 := blk_frozen BK311.out 4
      have hnb52 := NB312_310.out
      have hnc52 := NB310_312.out
      have hcz53_0 : wc.cell? ⟨gb312, 0, none⟩ = some (.string a0_0) := (blk_cell BK312.out 0).trans rfl
      have hcz53_1 : wc.cell? ⟨gb312, 1, none⟩ = some (.string a2_1) := (blk_cell BK312.out 1).trans rfl
      have hcz53_2 : wc.cell? ⟨gb312, 2, none⟩ = some (.int .i64 a2_2) := (blk_cell BK312.out 2).trans rfl
      have hcz53_3 : wc.cell? ⟨gb312, 3, none⟩ = some (.int .i64 a2_3) := (blk_cell BK312.out 3).trans rfl
      have hcz53_4 : wc.cell? ⟨gb312, 4, none⟩ = some (.int .i64 a2_4) := (blk_cell BK312.out 4).trans rfl
      have hfz53_0 := blk_frozen BK312.out 0
      have hfz53_1 := blk_frozen BK312.out 1
      have hfz53_2 := blk_frozen BK312.out 2
      have hfz53_3 := blk_frozen BK312.out 3
      have hfz53_4 := blk_frozen BK312.out 4
      go_wp2_with (first | (go_at_call 31; (with_reducible refine (reg_Newer.calls kj6 a0_0 a1_1 a1_2 a1_3 a1_4 a0_0 a2_1 a2_2 a2_3 a2_4 false _ A37.out).mono ?_); rintro e w54 ⟨rfl, hb⟩; have n0_ := Aside0.mk (blk_below (g := gb310) (o := .cells #[.string a0_0, .string a0_1, .int .i64 a0_2, .int .i64 a0_3, .int .i64 a0_4] 26 (0, 0)) (by (with_reducible repeat (first | refine blk_drewN ?_ _ | refine blk_drew ?_ | refine blk_alloc ?_ _)); exact BK310.out) hb); have n1_ := Aside0.mk (blk_below (g := gb311) (o := .cells #[.string a0_0, .string a1_1, .int .i64 a1_2, .int .i64 a1_3, .int .i64 a1_4] 26 (0, 0)) (by (with_reducible repeat (first | refine blk_drewN ?_ _ | refine blk_drew ?_ | refine blk_alloc ?_ _)); exact BK311.out) hb); have n2_ := Aside0.mk (blk_below (g := gb312) (o := .cells #[.string a0_0, .string a2_1, .int .i64 a2_2, .int .i64 a2_3, .int .i64 a2_4] 26 (0, 0)) (by (with_reducible repeat (first | refine blk_drewN ?_ _ | refine blk_drew ?_ | refine blk_alloc ?_ _)); exact BK312.out) hb); have n3_ := Aside0.mk (below_step (by repeat (first | (with_reducible first | exact HB.out | apply below_alloc | apply pw_below_drewN | apply below_drew1 | refine below_set ?_ GE310.out | refine below_set ?_ GE311.out | refine below_set ?_ GE312.out) | exact HB.out)) hb); clear BK310; clear BK311; clear BK312; clear HB; have BK310 := n0_; have BK311 := n1_; have BK312 := n2_; have HB := n3_; clear n0_ n1_ n2_ n3_; (try clear hb); (try clear hb2); (try clear hk); (try clear hi)))
      go_ret
      exact ⟨by first | rfl | (simp [errW_none, errW_some] <;> rfl) | (simp [*, errW_none, errW_some] <;> rfl), by repeat (first | (with_reducible first | exact HB.out | apply below_alloc | apply pw_below_drewN | apply below_drew1 | refine below_set ?_ GE310.out | refine below_set ?_ GE311.out | refine below_set ?_ GE312.out) | exact HB.out)⟩
    ·replace c36 := Bool.eq_false_iff.mpr c36
     subst c36
     have H1 : (some true) = some r := by rw [if_neg (show ¬ (false = true) by decide)] at H; exact H
     clear H
     have H := H1
     clear H1
     obtain rfl := Option.some.inj H
     go_wp2
     go_ret
     exact ⟨by first | rfl | (simp [errW_none, errW_some] <;> rfl) | (simp [*, errW_none, errW_some] <;> rfl), by repeat (first | (with_reducible first | exact HB.out | apply below_alloc | apply pw_below_drewN | apply below_drew1 | refine below_set ?_ GE310.out | refine below_set ?_ GE311.out | refine below_set ?_ GE312.out) | exact HB.out)⟩

end Go.Proofs.Ytannmdngejdjkaa.L
