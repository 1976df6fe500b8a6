/- Several of the walk's texts in one: Sx6, SHPMay, SHPairMay. -/
import Derived.BigQuiet
import Derived.Test.YtmcddoolniaehaaGreatMD04
import Derived.Test.YtmcddoolniaehaaGreatMD05
import Derived.Test.YtmcddoolniaehaaGreatMD06
import Derived.Test.YtmcddoolniaehaaGreatMD07
section
namespace Go.Proofs.YtmcddoolniaehaaGreat.S
open Go.RowKit Go.Proofs.YtmcddoolniaehaaGreatW.PrintWords Go.Proofs.YtmcddoolniaehaaGreatW.PrintLast Go.Proofs.YtmcddoolniaehaaGreatW.PrintMore
attribute [local go_sem] max2_int min2_int max_two min_two max_three min_three max_four min_four   -- for this text's walks alone
set_option linter.unusedVariables false
set_option linter.unusedSimpArgs false

def pair_order.f (k : Nat) (a0_0 : ByteArray) (a0_1 : ByteArray) (a0_2 : Int) (a0_3 : Int) (a1_0 : ByteArray) (a1_1 : ByteArray) (a1_2 : Int) (a1_3 : Int) : Option (Int) := (cmp_Compare_string.f a0_0 a1_0).bind fun t111 => ((cmp_Compare_string.f a0_1 a1_1).bind fun t112 => ((cmp_Compare_int.f a0_2 a1_2).bind fun t113 => ((cmp_Compare_int.f a0_3 a1_3).bind fun t114 => ((cmp_Or_int.f k (([t111, t112, t113, t114] : List Int))).bind fun t118 => (some t118)))))
theorem pair_order.mono : ∀ a0 a1 a2 a3 a4 a5 a6 a7 k, LeO (pair_order.f k a0 a1 a2 a3 a4 a5 a6 a7) (pair_order.f (k + 1) a0 a1 a2 a3 a4 a5 a6 a7) := by
 intro a0 a1 a2 a3 a4 a5 a6 a7 k
 unfold pair_order.f
 repeat' first
   | (with_reducible exact cmp_Or_int.mono _ _)
   | (with_reducible exact LeO.refl _)
   | (with_reducible exact LeO.none _)
   | (with_reducible refine LeO.ite ?_ ?_)
   | (with_reducible refine LeO.bind ?_ (fun _ => ?_))
   | exact cmp_Or_int.mono _ _
   | exact LeO.none _
   | refine LeO.ite ?_ ?_
   | refine LeO.bind ?_ (fun _ => ?_)
def pair_order.T1 : Bool × List (List Nat × List Nat) := (true, [([], []), ([0], [0]), ([], []), ([2], [2]), ([1, 3], [1, 3]), ([], []), ([5], [5]), ([], []), ([7], [7]), ([6, 8, 4], [6, 8]), ([], []), ([10], [10]), ([11], [11]), ([], []), ([13], [13]), ([14], [14]), ([12, 15, 9], [12, 15]), ([], []), ([17], [17]), ([18], [18]), ([], []), ([20], [20]), ([21], [21]), ([19, 22, 16], [19, 22]), ([4, 9, 16, 23], [4, 9, 16, 23]), ([24, 23], [24]), ([25, 25, 0, 1, 2, 3, 4, 5, 6, 7, 8, 9, 10, 11, 12, 13, 14, 15, 16, 17, 18, 19, 20, 21, 22, 23, 24, 25], [25])])
def pair_order.B1 : List Nat := [0, 1, 0, 4, 15, 0, 32, 0, 128, 511, 0, 1024, 3072, 0, 8192, 24576, 65535, 0, 131072, 393216, 0, 1048576, 3145728, 8388607, 16777215, 33554431, 67108863]
theorem pair_order.tab1 : rtab .any (opsOf Tryz.f115 1) = pair_order.T1 := by kernel_rfl
theorem pair_order.bits1 : waitsOk pair_order.T1.2 pair_order.B1 = true := by kernel_rfl
set_option maxHeartbeats 8000000 in
set_option maxRecDepth 100000 in
theorem pair_order.calls (k : Nat) (a0_0 : ByteArray) (a0_1 : ByteArray) (a0_2 : Int) (a0_3 : Int) (a1_0 : ByteArray) (a1_1 : ByteArray) (a1_2 : Int) (a1_3 : Int) (r : Int) (w : World) (h : pair_order.f k a0_0 a0_1 a0_2 a0_3 a1_0 a1_1 a1_2 a1_3 = some r) :
  Calls Tryz.prog 115 #[.agg #[.string a0_0, .string a0_1, .int .i64 a0_2, .int .i64 a0_3], .agg #[.string a1_0, .string a1_1, .int .i64 a1_2, .int .i64 a1_3]] w fun e w' => e = .returned (.int .i64 r) ∧ Below w.heap.size w w' := by
 have hu43 := Tryz.underlying43
 have HB := Aside0.mk (Below.refl w.heap.size w)
 have H : ((cmp_Compare_string.f a0_0 a1_0).bind fun t111 => ((cmp_Compare_string.f a0_1 a1_1).bind fun t112 => ((cmp_Compare_int.f a0_2 a1_2).bind fun t113 => ((cmp_Compare_int.f a0_3 a1_3).bind fun t114 => ((cmp_Or_int.f k (([t111, t112, t113, t114] : List Int))).bind fun t118 => (some t118)))))) = some r := h
 clear h
 replace H := Option.bind_eq_some_iff.mp H
 obtain ⟨t111, A30, H⟩ := H
 replace H : ((cmp_Compare_string.f a0_1 a1_1).bind fun t112 => ((cmp_Compare_int.f a0_2 a1_2).bind fun t113 => ((cmp_Compare_int.f a0_3 a1_3).bind fun t114 => ((cmp_Or_int.f k (([t111, t112, t113, t114] : List Int))).bind fun t118 => (some t118))))) = some r := H
 have A3 := Aside0.mk A30
 clear A30
 replace H := Option.bind_eq_some_iff.mp H
 obtain ⟨t112, A40, H⟩ := H
 replace H : ((cmp_Compare_int.f a0_2 a1_2).bind fun t113 => ((cmp_Compare_int.f a0_3 a1_3).bind fun t114 => ((cmp_Or_int.f k (([t111, t112, t113, t114] : List Int))).bind fun t118 => (some t118)))) = some r := H
 have A4 := Aside0.mk A40
 clear A40
 replace H := Option.bind_eq_some_iff.mp H
 obtain ⟨t113, A50, H⟩ := H
 replace H : ((cmp_Compare_int.f a0_3 a1_3).bind fun t114 => ((cmp_Or_int.f k (([t111, t112, t113, t114] : List Int))).bind fun t118 => (some t118))) = some r := H
 have A5 := Aside0.mk A50
 clear A50
 replace H := Option.bind_eq_some_iff.mp H
 obtain ⟨t114, A60, H⟩ := H
 replace H : ((cmp_Or_int.f k (([t111, t112, t113, t114] : List Int))).bind fun t118 => (some t118)) = some r := H
 have A6 := Aside0.mk A60
 clear A60
 obtain ⟨y115, hy115⟩ : ∃ y_ : List Int, y_ = (([t111, t112, t113, t114] : List Int)) := ⟨_, rfl⟩
 replace H : ((cmp_Or_int.f k y115).bind fun t118 => (some t118)) = some r := by first | (rw [hy115]; with_reducible exact H) | (have H2_ := (Option.bind_some _ _).symm.trans H; rw [hy115]; with_reducible exact H2_) | (have H2_ := (Option.bind_some _ _).symm.trans H; with_reducible exact H2_) | with_reducible exact H | (rw [hy115]; exact H) | exact H
 have Ny115 := Aside0.mk hy115
 clear hy115
 replace H := Option.bind_eq_some_iff.mp H
 obtain ⟨t118, A70, H⟩ := H
 replace H : (some t118) = some r := H
 have A7 := Aside0.mk A70
 clear A70
 obtain rfl := Option.some.inj H
 go_enter Tryz.func115, Tryz.ntmps115
 try go_wp2_with (first | ((with_reducible refine gate_dst (N := 2) rfl ?_); refine box_event ?hg (N := 2) ?hd (cs := #[.string a0_0, .string a0_1, .int .i64 a0_2, .int .i64 a0_3]) (t := 43) ?hr ?_; (case hd => rfl); (case hg => rfl); (case hr => first | (go_simp; done) | (go_simp; rfl)); intro gb109 hg w8 hbox hb; have n0_ := Aside0.mk (below_step (by repeat (first | (with_reducible first | exact HB.out | apply below_alloc | apply pw_below_drewN | apply below_drew1) | exact HB.out)) hb); have n1_ := Aside0.mk (hbox); have n2_ := Aside0.mk ((by rw [hg]; exact (below_size (by repeat (first | (with_reducible first | exact HB.out | apply below_alloc | apply pw_below_drewN | apply below_drew1) | exact HB.out))) : w.heap.size ≤ gb109)); have n3_ := Aside0.mk ((by rw [hg]; exact (below_size (by repeat (first | (with_reducible first | exact HB.out | apply below_alloc | apply pw_below_drewN | apply below_drew1) | exact HB.out))) : w.heap.size ≤ gb109)); clear HB; have HB := n0_; have BK109 := n1_; have GW109 := n2_; have GE109 := n3_; clear n0_ n1_ n2_ n3_; clear hb hbox hg) | ((with_reducible refine gate_dst (N := 3) rfl ?_); refine box_event ?hg (N := 3) ?hd (cs := #[.string a1_0, .string a1_1, .int .i64 a1_2, .int .i64 a1_3]) (t := 43) ?hr ?_; (case hd => rfl); (case hg => rfl); (case hr => first | (go_simp; done) | (go_simp; rfl)); intro gb110 hg w9 hbox hb; have n0_ := Aside0.mk (blk_below (g := gb109) (o := .cells #[.string a0_0, .string a0_1, .int .i64 a0_2, .int .i64 a0_3] 43 (0, 0)) (by (with_reducible repeat (first | apply blN | apply blD | apply blA)); exact BK109.out) hb); have n1_ := Aside0.mk (below_step (by repeat (first | (with_reducible first | exact HB.out | apply below_alloc | apply pw_below_drewN | apply below_drew1 | refine below_set ?_ GE109.out) | exact HB.out)) hb); have n2_ := Aside0.mk (hbox); have n3_ := Aside0.mk ((by rw [hg]; exact (below_size (by repeat (first | (with_reducible first | exact HB.out | apply below_alloc | apply pw_below_drewN | apply below_drew1 | refine below_set ?_ GE109.out) | exact HB.out))) : w.heap.size ≤ gb110)); have n4_ := Aside0.mk ((by rw [hg]; exact (below_size (by repeat (first | (with_reducible first | exact HB.out | apply below_alloc | apply pw_below_drewN | apply below_drew1 | refine below_set ?_ GE109.out) | exact HB.out))) : w.heap.size ≤ gb110)); have n5_ := Aside0.mk ((by rw [hg]; exact Nat.ne_of_lt (blk_lt (g := gb109) (o := .cells #[.string a0_0, .string a0_1, .int .i64 a0_2, .int .i64 a0_3] 43 (0, 0)) (by (with_reducible repeat (first | apply blN | apply blD | apply blA)); exact BK109.out)) : gb109 ≠ gb110)); have n6_ := Aside0.mk ((by rw [hg]; exact Nat.ne_of_gt (blk_lt (g := gb109) (o := .cells #[.string a0_0, .string a0_1, .int .i64 a0_2, .int .i64 a0_3] 43 (0, 0)) (by (with_reducible repeat (first | apply blN | apply blD | apply blA)); exact BK109.out)) : gb110 ≠ gb109)); clear BK109; clear HB; have BK109 := n0_; have HB := n1_; have BK110 := n2_; have GW110 := n3_; have GE110 := n4_; have NB109_110 := n5_; have NB110_109 := n6_; clear n0_ n1_ n2_ n3_ n4_ n5_ n6_; clear hb hbox hg))
 have n0_ := Aside0.mk (blk_drew BK109.out)
 have n1_ := Aside0.mk (blk_drew BK110.out)
 have n2_ := Aside0.mk (below_drew1 HB.out)
 clear BK109
 clear BK110
 clear HB
 have BK109 := n0_
 have BK110 := n1_
 have HB := n2_
 clear n0_ n1_ n2_
 refine start_ (n := 27) (S := fun w' => w'.cell? ⟨gb109, 0, none⟩ = some (.string a0_0) ∧ w'.cell? ⟨gb109, 1, none⟩ = some (.string a0_1) ∧ w'.cell? ⟨gb109, 2, none⟩ = some (.int .i64 a0_2) ∧ w'.cell? ⟨gb109, 3, none⟩ = some (.int .i64 a0_3) ∧ w'.cell? ⟨gb110, 0, none⟩ = some (.string a1_0) ∧ w'.cell? ⟨gb110, 1, none⟩ = some (.string a1_1) ∧ w'.cell? ⟨gb110, 2, none⟩ = some (.int .i64 a1_2) ∧ w'.cell? ⟨gb110, 3, none⟩ = some (.int .i64 a1_3)) (ds := []) #[O,O,O,O,O,O,O,O,O,O,O,O,O,O,O,O,O,O,O,O,O,O,O,O,O,O,O] (by kernel_rfl) rfl rfl ⟨(blk_cell BK109.out 0).trans rfl, (blk_cell BK109.out 1).trans rfl, (blk_cell BK109.out 2).trans rfl, (blk_cell BK109.out 3).trans rfl, (blk_cell BK110.out 0).trans rfl, (blk_cell BK110.out 1).trans rfl, (blk_cell BK110.out 2).trans rfl, (blk_cell BK110.out 3).trans rfl⟩ (fun hHeld => ?_); refine with_tabW pair_order.tab1 pair_order.bits1 (fun HT_ HW_ => ?_)
 generalize w9.drew = w10 at BK109 BK110 HB hHeld ⊢
 refine sqP (i := 0) (N := some 5) (v := ?_) (a' := ?_) #[I,O,O,O,O,O,O,O,O,O,O,O,O,O,O,O,O,O,O,O,O,O,O,O,O,O,O] rfl rfl HT_.out (Or.inl ⟨by rfl, ?_⟩) ?_ ?_
 rotate_left
 ·intro w'
  go_simp
  with_reducible rfl
 rotate_left
 ·simp only [Act.put, sqA, sqB, sqC, i64_w, i32_w]
  rfl
 refine sqP (i := 2) (N := some 7) (v := ?_) (a' := ?_) #[I,O,I,O,O,O,O,O,O,O,O,O,O,O,O,O,O,O,O,O,O,O,O,O,O,O,O] rfl rfl HT_.out (Or.inl ⟨by rfl, ?_⟩) ?_ ?_
 rotate_left
 ·intro w'
  go_simp
  with_reducible rfl
 rotate_left
 ·simp only [Act.put, sqA, sqB, sqC, i64_w, i32_w]
  rfl
 refine sqP (i := 5) (N := some 10) (v := ?_) (a' := ?_) #[I,O,I,O,O,I,O,O,O,O,O,O,O,O,O,O,O,O,O,O,O,O,O,O,O,O,O] rfl rfl HT_.out (Or.inl ⟨by rfl, ?_⟩) ?_ ?_
 rotate_left
 ·intro w'
  go_simp
  with_reducible rfl
 rotate_left
 ·simp only [Act.put, sqA, sqB, sqC, i64_w, i32_w]
  rfl
 refine sqP (i := 7) (N := some 12) (v := ?_) (a' := ?_) #[I,O,I,O,O,I,O,I,O,O,O,O,O,O,O,O,O,O,O,O,O,O,O,O,O,O,O] rfl rfl HT_.out (Or.inl ⟨by rfl, ?_⟩) ?_ ?_
 rotate_left
 ·intro w'
  go_simp
  with_reducible rfl
 rotate_left
 ·simp only [Act.put, sqA, sqB, sqC, i64_w, i32_w]
  rfl
 refine sqP (i := 10) (N := some 15) (v := ?_) (a' := ?_) #[I,O,I,O,O,I,O,I,O,O,I,O,O,O,O,O,O,O,O,O,O,O,O,O,O,O,O] rfl rfl HT_.out (Or.inl ⟨by rfl, ?_⟩) ?_ ?_
 rotate_left
 ·intro w'
  go_simp
  with_reducible rfl
 rotate_left
 ·simp only [Act.put, sqA, sqB, sqC, i64_w, i32_w]
  rfl
 refine sqP (i := 11) (N := some 16) (v := ?_) (a' := ?_) #[I,O,I,O,O,I,O,I,O,O,I,I,O,O,O,O,O,O,O,O,O,O,O,O,O,O,O] rfl rfl HT_.out (Or.inl ⟨by rfl, ?_⟩) ?_ ?_
 rotate_left
 ·intro w'
  go_simp
  with_reducible rfl
 rotate_left
 ·simp only [Act.put, sqA, sqB, sqC, i64_w, i32_w]
  rfl
 refine sqP (i := 13) (N := some 18) (v := ?_) (a' := ?_) #[I,O,I,O,O,I,O,I,O,O,I,I,O,I,O,O,O,O,O,O,O,O,O,O,O,O,O] rfl rfl HT_.out (Or.inl ⟨by rfl, ?_⟩) ?_ ?_
 rotate_left
 ·intro w'
  go_simp
  with_reducible rfl
 rotate_left
 ·simp only [Act.put, sqA, sqB, sqC, i64_w, i32_w]
  rfl
 refine sqP (i := 14) (N := some 19) (v := ?_) (a' := ?_) #[I,O,I,O,O,I,O,I,O,O,I,I,O,I,I,O,O,O,O,O,O,O,O,O,O,O,O] rfl rfl HT_.out (Or.inl ⟨by rfl, ?_⟩) ?_ ?_
 rotate_left
 ·intro w'
  go_simp
  with_reducible rfl
 rotate_left
 ·simp only [Act.put, sqA, sqB, sqC, i64_w, i32_w]
  rfl
 refine sqP (i := 17) (N := some 22) (v := ?_) (a' := ?_) #[I,O,I,O,O,I,O,I,O,O,I,I,O,I,I,O,O,I,O,O,O,O,O,O,O,O,O] rfl rfl HT_.out (Or.inl ⟨by rfl, ?_⟩) ?_ ?_
 rotate_left
 ·intro w'
  go_simp
  with_reducible rfl
 rotate_left
 ·simp only [Act.put, sqA, sqB, sqC, i64_w, i32_w]
  rfl
 refine sqP (i := 18) (N := some 23) (v := ?_) (a' := ?_) #[I,O,I,O,O,I,O,I,O,O,I,I,O,I,I,O,O,I,I,O,O,O,O,O,O,O,O] rfl rfl HT_.out (Or.inl ⟨by rfl, ?_⟩) ?_ ?_
 rotate_left
 ·intro w'
  go_simp
  with_reducible rfl
 rotate_left
 ·simp only [Act.put, sqA, sqB, sqC, i64_w, i32_w]
  rfl
 refine sqP (i := 20) (N := some 25) (v := ?_) (a' := ?_) #[I,O,I,O,O,I,O,I,O,O,I,I,O,I,I,O,O,I,I,O,I,O,O,O,O,O,O] rfl rfl HT_.out (Or.inl ⟨by rfl, ?_⟩) ?_ ?_
 rotate_left
 ·intro w'
  go_simp
  with_reducible rfl
 rotate_left
 ·simp only [Act.put, sqA, sqB, sqC, i64_w, i32_w]
  rfl
 refine sqP (i := 21) (N := some 26) (v := ?_) (a' := ?_) #[I,O,I,O,O,I,O,I,O,O,I,I,O,I,I,O,O,I,I,O,I,I,O,O,O,O,O] rfl rfl HT_.out (Or.inl ⟨by rfl, ?_⟩) ?_ ?_
 rotate_left
 ·intro w'
  go_simp
  with_reducible rfl
 rotate_left
 ·simp only [Act.put, sqA, sqB, sqC, i64_w, i32_w]
  rfl
 refine take_ (i := 1) (N := some 6) (v := ?_) (a' := ?_) #[I,I,I,O,O,I,O,I,O,O,I,I,O,I,I,O,O,I,I,O,I,I,O,O,O,O,O] rfl rfl (take_ofW HT_.out HW_.out (by kernel_rfl)) (fun _ _ _ h => h) (Or.inl ⟨by rfl, ?_⟩) hHeld ?_ ?_
 rotate_left
 ·rintro w' ⟨s0, s1, s2, s3, s4, s5, s6, s7⟩
  go_simp
  with_reducible rfl
 rotate_left
 ·simp only [Act.put, sqA, sqB, sqC, i64_w, i32_w]
  rfl
 refine take_ (i := 3) (N := some 8) (v := ?_) (a' := ?_) #[I,I,I,I,O,I,O,I,O,O,I,I,O,I,I,O,O,I,I,O,I,I,O,O,O,O,O] rfl rfl (take_ofW HT_.out HW_.out (by kernel_rfl)) (fun _ _ _ h => h) (Or.inl ⟨by rfl, ?_⟩) hHeld ?_ ?_
 rotate_left
 ·rintro w' ⟨s0, s1, s2, s3, s4, s5, s6, s7⟩
  go_simp
  with_reducible rfl
 rotate_left
 ·simp only [Act.put, sqA, sqB, sqC, i64_w, i32_w]
  rfl
 refine take_ (i := 6) (N := some 11) (v := ?_) (a' := ?_) #[I,I,I,I,O,I,I,I,O,O,I,I,O,I,I,O,O,I,I,O,I,I,O,O,O,O,O] rfl rfl (take_ofW HT_.out HW_.out (by kernel_rfl)) (fun _ _ _ h => h) (Or.inl ⟨by rfl, ?_⟩) hHeld ?_ ?_
 rotate_left
 ·rintro w' ⟨s0, s1, s2, s3, s4, s5, s6, s7⟩
  go_simp
  with_reducible rfl
 rotate_left
 ·simp only [Act.put, sqA, sqB, sqC, i64_w, i32_w]
  rfl
 refine take_ (i := 8) (N := some 13) (v := ?_) (a' := ?_) #[I,I,I,I,O,I,I,I,I,O,I,I,O,I,I,O,O,I,I,O,I,I,O,O,O,O,O] rfl rfl (take_ofW HT_.out HW_.out (by kernel_rfl)) (fun _ _ _ h => h) (Or.inl ⟨by rfl, ?_⟩) hHeld ?_ ?_
 rotate_left
 ·rintro w' ⟨s0, s1, s2, s3, s4, s5, s6, s7⟩
  go_simp
  with_reducible rfl
 rotate_left
 ·simp only [Act.put, sqA, sqB, sqC, i64_w, i32_w]
  rfl
 refine take_ (i := 12) (N := some 17) (v := ?_) (a' := ?_) #[I,I,I,I,O,I,I,I,I,O,I,I,I,I,I,O,O,I,I,O,I,I,O,O,O,O,O] rfl rfl (take_ofW HT_.out HW_.out (by kernel_rfl)) (fun _ _ _ h => h) (Or.inl ⟨by rfl, ?_⟩) hHeld ?_ ?_
 rotate_left
 ·rintro w' ⟨s0, s1, s2, s3, s4, s5, s6, s7⟩
  go_simp
  with_reducible rfl
 rotate_left
 ·simp only [Act.put, sqA, sqB, sqC, i64_w, i32_w]
  rfl
 refine take_ (i := 15) (N := some 20) (v := ?_) (a' := ?_) #[I,I,I,I,O,I,I,I,I,O,I,I,I,I,I,I,O,I,I,O,I,I,O,O,O,O,O] rfl rfl (take_ofW HT_.out HW_.out (by kernel_rfl)) (fun _ _ _ h => h) (Or.inl ⟨by rfl, ?_⟩) hHeld ?_ ?_
 rotate_left
 ·rintro w' ⟨s0, s1, s2, s3, s4, s5, s6, s7⟩
  go_simp
  with_reducible rfl
 rotate_left
 ·simp only [Act.put, sqA, sqB, sqC, i64_w, i32_w]
  rfl
 refine take_ (i := 19) (N := some 24) (v := ?_) (a' := ?_) #[I,I,I,I,O,I,I,I,I,O,I,I,I,I,I,I,O,I,I,I,I,I,O,O,O,O,O] rfl rfl (take_ofW HT_.out HW_.out (by kernel_rfl)) (fun _ _ _ h => h) (Or.inl ⟨by rfl, ?_⟩) hHeld ?_ ?_
 rotate_left
 ·rintro w' ⟨s0, s1, s2, s3, s4, s5, s6, s7⟩
  go_simp
  with_reducible rfl
 rotate_left
 ·simp only [Act.put, sqA, sqB, sqC, i64_w, i32_w]
  rfl
 refine take_ (i := 22) (N := some 27) (v := ?_) (a' := ?_) #[I,I,I,I,O,I,I,I,I,O,I,I,I,I,I,I,O,I,I,I,I,I,I,O,O,O,O] rfl rfl (take_ofW HT_.out HW_.out (by kernel_rfl)) (fun _ _ _ h => h) (Or.inl ⟨by rfl, ?_⟩) hHeld ?_ ?_
 rotate_left
 ·rintro w' ⟨s0, s1, s2, s3, s4, s5, s6, s7⟩
  go_simp
  with_reducible rfl
 rotate_left
 ·simp only [Act.put, sqA, sqB, sqC, i64_w, i32_w]
  rfl
 refine one_ (i := 4) (N := some 9) #[I,I,I,I,I,I,I,I,I,O,I,I,I,I,I,I,O,I,I,I,I,I,I,O,O,O,O] rfl rfl (one_of HT_.out (by kernel_rfl)) (by decide) (fun K hK => ?_)
 refine goes_ Tryz.func128 (by kernel_rfl) rfl #[.string a0_0, .string a1_0] (by rfl) rfl rfl (by (try simp only [List.map_toArray, List.map_cons, List.map_nil]); first | done | rfl | (simp only [List.length_drop, List.length_take]; rfl)) ?_
 with_reducible refine (cmp_Compare_string.calls a0_0 a1_0 t111 _ A3.out).mono ?_
 rintro e w' ⟨rfl, ⟨nd, rfl⟩⟩
 refine ⟨_, rfl, ?_⟩
 refine hK.out _ _ ⟨(blk_cell BK109.out 0).trans rfl, (blk_cell BK109.out 1).trans rfl, (blk_cell BK109.out 2).trans rfl, (blk_cell BK109.out 3).trans rfl, (blk_cell BK110.out 0).trans rfl, (blk_cell BK110.out 1).trans rfl, (blk_cell BK110.out 2).trans rfl, (blk_cell BK110.out 3).trans rfl⟩ (fun hHeld => ?_)
 clear hK K
 refine norm_ (a' := ?_) ?_ ?_
 rotate_left
 ·show Act.put _ (some 9) _ = _
  simp only [Act.put, sqA, sqB, sqC, i64_w, i32_w]
  rfl
 refine one_ (i := 9) (N := some 14) #[I,I,I,I,I,I,I,I,I,I,I,I,I,I,I,I,O,I,I,I,I,I,I,O,O,O,O] rfl rfl (one_of HT_.out (by kernel_rfl)) (by decide) (fun K hK => ?_)
 refine goes_ Tryz.func128 (by kernel_rfl) rfl #[.string a0_1, .string a1_1] (by rfl) rfl rfl (by (try simp only [List.map_toArray, List.map_cons, List.map_nil]); first | done | rfl | (simp only [List.length_drop, List.length_take]; rfl)) ?_
 with_reducible refine (cmp_Compare_string.calls a0_1 a1_1 t112 _ A4.out).mono ?_
 rintro e w' ⟨rfl, ⟨nd, rfl⟩⟩
 refine ⟨_, rfl, ?_⟩
 refine hK.out _ _ ⟨(blk_cell BK109.out 0).trans rfl, (blk_cell BK109.out 1).trans rfl, (blk_cell BK109.out 2).trans rfl, (blk_cell BK109.out 3).trans rfl, (blk_cell BK110.out 0).trans rfl, (blk_cell BK110.out 1).trans rfl, (blk_cell BK110.out 2).trans rfl, (blk_cell BK110.out 3).trans rfl⟩ (fun hHeld => ?_)
 clear hK K
 refine norm_ (a' := ?_) ?_ ?_
 rotate_left
 ·show Act.put _ (some 14) _ = _
  simp only [Act.put, sqA, sqB, sqC, i64_w, i32_w]
  rfl
 refine one_ (i := 16) (N := some 21) #[I,I,I,I,I,I,I,I,I,I,I,I,I,I,I,I,I,I,I,I,I,I,I,O,O,O,O] rfl rfl (one_of HT_.out (by kernel_rfl)) (by decide) (fun K hK => ?_)
 refine goes_ Tryz.func129 (by kernel_rfl) rfl #[.int .i64 a0_2, .int .i64 a1_2] (by rfl) rfl rfl (by (try simp only [List.map_toArray, List.map_cons, List.map_nil]); first | done | rfl | (simp only [List.length_drop, List.length_take]; rfl)) ?_
 with_reducible refine (cmp_Compare_int.calls a0_2 a1_2 t113 _ A5.out).mono ?_
 rintro e w' ⟨rfl, ⟨nd, rfl⟩⟩
 refine ⟨_, rfl, ?_⟩
 refine hK.out _ _ ⟨(blk_cell BK109.out 0).trans rfl, (blk_cell BK109.out 1).trans rfl, (blk_cell BK109.out 2).trans rfl, (blk_cell BK109.out 3).trans rfl, (blk_cell BK110.out 0).trans rfl, (blk_cell BK110.out 1).trans rfl, (blk_cell BK110.out 2).trans rfl, (blk_cell BK110.out 3).trans rfl⟩ (fun hHeld => ?_)
 clear hK K
 refine norm_ (a' := ?_) ?_ ?_
 rotate_left
 ·show Act.put _ (some 21) _ = _
  simp only [Act.put, sqA, sqB, sqC, i64_w, i32_w]
  rfl
 refine one_ (i := 23) (N := some 28) #[I,I,I,I,I,I,I,I,I,I,I,I,I,I,I,I,I,I,I,I,I,I,I,I,O,O,O] rfl rfl (one_of HT_.out (by kernel_rfl)) (by decide) (fun K hK => ?_)
 refine goes_ Tryz.func129 (by kernel_rfl) rfl #[.int .i64 a0_3, .int .i64 a1_3] (by rfl) rfl rfl (by (try simp only [List.map_toArray, List.map_cons, List.map_nil]); first | done | rfl | (simp only [List.length_drop, List.length_take]; rfl)) ?_
 with_reducible refine (cmp_Compare_int.calls a0_3 a1_3 t114 _ A6.out).mono ?_
 rintro e w' ⟨rfl, ⟨nd, rfl⟩⟩
 refine ⟨_, rfl, ?_⟩
 refine hK.out _ _ ⟨(blk_cell BK109.out 0).trans rfl, (blk_cell BK109.out 1).trans rfl, (blk_cell BK109.out 2).trans rfl, (blk_cell BK109.out 3).trans rfl, (blk_cell BK110.out 0).trans rfl, (blk_cell BK110.out 1).trans rfl, (blk_cell BK110.out 2).trans rfl, (blk_cell BK110.out 3).trans rfl⟩ (fun hHeld => ?_)
 clear hK K
 refine norm_ (a' := ?_) ?_ ?_
 rotate_left
 ·show Act.put _ (some 28) _ = _
  simp only [Act.put, sqA, sqB, sqC, i64_w, i32_w]
  rfl
 refine one_ (i := 24) (N := some 29) #[I,I,I,I,I,I,I,I,I,I,I,I,I,I,I,I,I,I,I,I,I,I,I,I,I,O,O] rfl rfl (one_of HT_.out (by kernel_rfl)) (by decide) (fun K hK => ?_)
 refine Kd.R_lit_step (Kd.int .i64) _ 3 ?hg (N := 29) ?hd (xs := ([t111, t112, t113, t114] : List Int)) (inner := [.int .i64 t111, .int .i64 t112, .int .i64 t113, .int .i64 t114]) (ok := fun _ => True) (okp := fun _ => True) ?hr ?hp (fun _ hk => hk) trivial (Below.refl _ _) (Nat.le_refl _) (by simp) ?_; (case hd => rfl); (case hg => rfl); (case hr => first | (go_simp; done) | (go_simp; rfl)); (case hp => exact (Reps.one (show Kd.M (Kd.int .i64) _ _ _ t111 [.int .i64 t111] from rfl) (Reps.one (show Kd.M (Kd.int .i64) _ _ _ t112 [.int .i64 t112] from rfl) (Reps.one (show Kd.M (Kd.int .i64) _ _ _ t113 [.int .i64 t113] from rfl) (Reps.one (show Kd.M (Kd.int .i64) _ _ _ t114 [.int .i64 t114] from rfl) (Reps.none _ _))))))
 intro v116 w11 ho12 hb hg_ hnew_
 clear hg_ hnew_
 (first | rw [← Ny115.out] at ho12 | (simp only [Int.reduceToNat] at ho12; rw [← Ny115.out] at ho12))
 have n0_ := Aside0.mk (Kd.R_lower ho12 (below_size (by repeat (first | (with_reducible first | exact HB.out | apply below_alloc | apply pw_below_drewN | apply below_drew1 | refine below_set ?_ GE109.out | refine below_set ?_ GE110.out) | exact HB.out))))
 have n1_ := Aside0.mk (blk_below (g := gb109) (o := .cells #[.string a0_0, .string a0_1, .int .i64 a0_2, .int .i64 a0_3] 43 (0, 0)) (by (with_reducible repeat (first | apply blN | apply blD | apply blA)); exact BK109.out) hb)
 have n2_ := Aside0.mk (blk_below (g := gb110) (o := .cells #[.string a1_0, .string a1_1, .int .i64 a1_2, .int .i64 a1_3] 43 (0, 0)) (by (with_reducible repeat (first | apply blN | apply blD | apply blA)); exact BK110.out) hb)
 have n3_ := Aside0.mk (below_step (by repeat (first | (with_reducible first | exact HB.out | apply below_alloc | apply pw_below_drewN | apply below_drew1 | refine below_set ?_ GE109.out | refine below_set ?_ GE110.out) | exact HB.out)) hb)
 clear BK109
 clear BK110
 clear HB
 have HO117 := n0_
 have BK109 := n1_
 have BK110 := n2_
 have HB := n3_
 clear n0_ n1_ n2_ n3_
 clear hb ho12
 obtain ⟨Ao13, co13, eo13⟩ := Kd.R_slice HO117.out
 (first | subst eo13 | (injection eo13 with f1_ f2_ f3_; have f4_ := f1_.symm; have f5_ := f3_.symm; clear f1_ f2_ f3_; subst f4_; subst f5_))
 refine hK.out _ _ ⟨(blk_cell BK109.out 0).trans rfl, (blk_cell BK109.out 1).trans rfl, (blk_cell BK109.out 2).trans rfl, (blk_cell BK109.out 3).trans rfl, (blk_cell BK110.out 0).trans rfl, (blk_cell BK110.out 1).trans rfl, (blk_cell BK110.out 2).trans rfl, (blk_cell BK110.out 3).trans rfl⟩ (fun hHeld => ?_)
 clear hK K
 refine norm_ (a' := ?_) ?_ ?_
 rotate_left
 ·show Act.put _ (some 29) _ = _
  simp only [Act.put, sqA, sqB, sqC, i64_w, i32_w]
  rfl
 refine one_ (i := 25) (N := some 30) #[I,I,I,I,I,I,I,I,I,I,I,I,I,I,I,I,I,I,I,I,I,I,I,I,I,I,O] rfl rfl (one_of HT_.out (by kernel_rfl)) (by decide) (fun K hK => ?_)
 refine goes_ Tryz.func127 (by kernel_rfl) rfl #[.slice Ao13 y115.length co13] (by rfl) rfl rfl (by (try simp only [List.map_toArray, List.map_cons, List.map_nil]); first | done | rfl | (simp only [List.length_drop, List.length_take]; rfl)) ?_
 with_reducible refine (cmp_Or_int.calls k _ _ y115 t118 _ ?side1 ?side2 A7.out).mono ?_
 (case side1 => repeat (first | exact (Kd.R_reads' HO117.out).2.2 | (with_reducible refine Kd.C_alloc ?_ _) | (with_reducible refine Kd.C_drewN ?_ _) | (with_reducible refine Kd.C_drew ?_)))
 (case side2 => exact (Kd.R_reads' HO117.out).2.1)
 rintro e w' ⟨rfl, ⟨nd, rfl⟩⟩
 refine ⟨_, rfl, ?_⟩
 refine hK.out _ _ ⟨(blk_cell BK109.out 0).trans rfl, (blk_cell BK109.out 1).trans rfl, (blk_cell BK109.out 2).trans rfl, (blk_cell BK109.out 3).trans rfl, (blk_cell BK110.out 0).trans rfl, (blk_cell BK110.out 1).trans rfl, (blk_cell BK110.out 2).trans rfl, (blk_cell BK110.out 3).trans rfl⟩ (fun hHeld => ?_)
 clear hK K
 refine norm_ (a' := ?_) ?_ ?_
 rotate_left
 ·show Act.put _ (some 30) _ = _
  simp only [Act.put, sqA, sqB, sqC, i64_w, i32_w]
  rfl
 refine sqP (i := 26) (N := some 4) (v := ?_) (a' := ?_) #[I,I,I,I,I,I,I,I,I,I,I,I,I,I,I,I,I,I,I,I,I,I,I,I,I,I,I] rfl rfl HT_.out (Or.inl ⟨by rfl, ?_⟩) ?_ ?_
 rotate_left
 ·intro w'
  go_simp
  with_reducible rfl
 rotate_left
 ·simp only [Act.put, sqA, sqB, sqC, i64_w, i32_w]
  rfl
 refine done_ (done_of HT_.out (by kernel_rfl)) ?_
 try go_wp2
 go_ret
 exact ⟨by first | rfl | (simp [errW_none, errW_some] <;> rfl) | (simp [*, errW_none, errW_some] <;> rfl), by repeat (first | (with_reducible first | exact HB.out | apply below_alloc | apply pw_below_drewN | apply below_drew1 | refine below_set ?_ GE109.out | refine below_set ?_ GE110.out) | exact HB.out)⟩

def pair_Less.f (k : Nat) (a0_0 : ByteArray) (a0_1 : ByteArray) (a0_2 : Int) (a0_3 : Int) (a1_0 : ByteArray) (a1_1 : ByteArray) (a1_2 : Int) (a1_3 : Int) : Option (Bool) := (pair_order.f k a0_0 a0_1 a0_2 a0_3 a1_0 a1_1 a1_2 a1_3).bind fun t121 => (some (decide (t121 < 0)))
theorem pair_Less.mono : ∀ a0 a1 a2 a3 a4 a5 a6 a7 k, LeO (pair_Less.f k a0 a1 a2 a3 a4 a5 a6 a7) (pair_Less.f (k + 1) a0 a1 a2 a3 a4 a5 a6 a7) := by
 intro a0 a1 a2 a3 a4 a5 a6 a7 k
 unfold pair_Less.f
 repeat' first
   | (with_reducible exact pair_order.mono _ _ _ _ _ _ _ _ _)
   | (with_reducible exact LeO.refl _)
   | (with_reducible exact LeO.none _)
   | (with_reducible refine LeO.ite ?_ ?_)
   | (with_reducible refine LeO.bind ?_ (fun _ => ?_))
   | exact pair_order.mono _ _ _ _ _ _ _ _ _
   | exact LeO.none _
   | refine LeO.ite ?_ ?_
   | refine LeO.bind ?_ (fun _ => ?_)
set_option maxHeartbeats 8000000 in
set_option maxRecDepth 100000 in
theorem pair_Less.calls (k : Nat) (a0_0 : ByteArray) (a0_1 : ByteArray) (a0_2 : Int) (a0_3 : Int) (a1_0 : ByteArray) (a1_1 : ByteArray) (a1_2 : Int) (a1_3 : Int) (r : Bool) (w : World) (h : pair_Less.f k a0_0 a0_1 a0_2 a0_3 a1_0 a1_1 a1_2 a1_3 = some r) :
  Calls Tryz.prog 95 #[.agg #[.string a0_0, .string a0_1, .int .i64 a0_2, .int .i64 a0_3], .agg #[.string a1_0, .string a1_1, .int .i64 a1_2, .int .i64 a1_3]] w fun e w' => e = .returned (.bool r) ∧ Below w.heap.size w w' := by
 have hu43 := Tryz.underlying43
 have HB := Aside0.mk (Below.refl w.heap.size w)
 have H : ((pair_order.f k a0_0 a0_1 a0_2 a0_3 a1_0 a1_1 a1_2 a1_3).bind fun t121 => (some (decide (t121 < 0)))) = some r := h
 clear h
 replace H := Option.bind_eq_some_iff.mp H
 obtain ⟨t121, A30, H⟩ := H
 replace H : (some (decide (t121 < 0))) = some r := H
 have A3 := Aside0.mk A30
 clear A30
 obtain rfl := Option.some.inj H
 go_enter Tryz.func95, Tryz.ntmps95
 go_wp2_with (first | ((with_reducible refine gate_dst (N := 2) rfl ?_); refine box_event ?hg (N := 2) ?hd (cs := #[.string a0_0, .string a0_1, .int .i64 a0_2, .int .i64 a0_3]) (t := 43) ?hr ?_; (case hd => rfl); (case hg => rfl); (case hr => first | (go_simp; done) | (go_simp; rfl)); intro gb119 hg w4 hbox hb; have n0_ := Aside0.mk (below_step (by repeat (first | (with_reducible first | exact HB.out | apply below_alloc | apply pw_below_drewN | apply below_drew1) | exact HB.out)) hb); have n1_ := Aside0.mk (hbox); have n2_ := Aside0.mk ((by rw [hg]; exact (below_size (by repeat (first | (with_reducible first | exact HB.out | apply below_alloc | apply pw_below_drewN | apply below_drew1) | exact HB.out))) : w.heap.size ≤ gb119)); have n3_ := Aside0.mk ((by rw [hg]; exact (below_size (by repeat (first | (with_reducible first | exact HB.out | apply below_alloc | apply pw_below_drewN | apply below_drew1) | exact HB.out))) : w.heap.size ≤ gb119)); clear HB; have HB := n0_; have BK119 := n1_; have GW119 := n2_; have GE119 := n3_; clear n0_ n1_ n2_ n3_; clear hb hbox hg) | ((with_reducible refine gate_dst (N := 3) rfl ?_); refine box_event ?hg (N := 3) ?hd (cs := #[.string a1_0, .string a1_1, .int .i64 a1_2, .int .i64 a1_3]) (t := 43) ?hr ?_; (case hd => rfl); (case hg => rfl); (case hr => first | (go_simp; done) | (go_simp; rfl)); intro gb120 hg w5 hbox hb; have n0_ := Aside0.mk (blk_below (g := gb119) (o := .cells #[.string a0_0, .string a0_1, .int .i64 a0_2, .int .i64 a0_3] 43 (0, 0)) (by (with_reducible repeat (first | apply blN | apply blD | apply blA)); exact BK119.out) hb); have n1_ := Aside0.mk (below_step (by repeat (first | (with_reducible first | exact HB.out | apply below_alloc | apply pw_below_drewN | apply below_drew1 | refine below_set ?_ GE119.out) | exact HB.out)) hb); have n2_ := Aside0.mk (hbox); have n3_ := Aside0.mk ((by rw [hg]; exact (below_size (by repeat (first | (with_reducible first | exact HB.out | apply below_alloc | apply pw_below_drewN | apply below_drew1 | refine below_set ?_ GE119.out) | exact HB.out))) : w.heap.size ≤ gb120)); have n4_ := Aside0.mk ((by rw [hg]; exact (below_size (by repeat (first | (with_reducible first | exact HB.out | apply below_alloc | apply pw_below_drewN | apply below_drew1 | refine below_set ?_ GE119.out) | exact HB.out))) : w.heap.size ≤ gb120)); have n5_ := Aside0.mk ((by rw [hg]; exact Nat.ne_of_lt (blk_lt (g := gb119) (o := .cells #[.string a0_0, .string a0_1, .int .i64 a0_2, .int .i64 a0_3] 43 (0, 0)) (by (with_reducible repeat (first | apply blN | apply blD | apply blA)); exact BK119.out)) : gb119 ≠ gb120)); have n6_ := Aside0.mk ((by rw [hg]; exact Nat.ne_of_gt (blk_lt (g := gb119) (o := .cells #[.string a0_0, .string a0_1, .int .i64 a0_2, .int .i64 a0_3] 43 (0, 0)) (by (with_reducible repeat (first | apply blN | apply blD | apply blA)); exact BK119.out)) : gb120 ≠ gb119)); clear BK119; clear HB; have BK119 := n0_; have HB := n1_; have BK120 := n2_; have GW120 := n3_; have GE120 := n4_; have NB119_120 := n5_; have NB120_119 := n6_; clear n0_ n1_ n2_ n3_ n4_ n5_ n6_; clear hb hbox hg; have hnb6 := NB119_120.out; have hnc6 := NB120_119.out; have hcz7_0 : w5.cell? ⟨gb119, 0, none⟩ = some (.string a0_0) := (blk_cell BK119.out 0).trans rfl; have hcz7_1 : w5.cell? ⟨gb119, 1, none⟩ = some (.string a0_1) := (blk_cell BK119.out 1).trans rfl; have hcz7_2 : w5.cell? ⟨gb119, 2, none⟩ = some (.int .i64 a0_2) := (blk_cell BK119.out 2).trans rfl; have hcz7_3 : w5.cell? ⟨gb119, 3, none⟩ = some (.int .i64 a0_3) := (blk_cell BK119.out 3).trans rfl; have hfz7_0 := blk_frozen BK119.out 0; have hfz7_1 := blk_frozen BK119.out 1; have hfz7_2 := blk_frozen BK119.out 2; have hfz7_3 := blk_frozen BK119.out 3; have hcz8_0 : w5.cell? ⟨gb120, 0, none⟩ = some (.string a1_0) := (blk_cell BK120.out 0).trans rfl; have hcz8_1 : w5.cell? ⟨gb120, 1, none⟩ = some (.string a1_1) := (blk_cell BK120.out 1).trans rfl; have hcz8_2 : w5.cell? ⟨gb120, 2, none⟩ = some (.int .i64 a1_2) := (blk_cell BK120.out 2).trans rfl; have hcz8_3 : w5.cell? ⟨gb120, 3, none⟩ = some (.int .i64 a1_3) := (blk_cell BK120.out 3).trans rfl; have hfz8_0 := blk_frozen BK120.out 0; have hfz8_1 := blk_frozen BK120.out 1; have hfz8_2 := blk_frozen BK120.out 2; have hfz8_3 := blk_frozen BK120.out 3) | ((with_reducible refine gate_callee (f := 115) rfl ?_); refine goesL_ (some 7) rfl rfl Tryz.func115 (by kernel_rfl) rfl #[.agg #[.string a0_0, .string a0_1, .int .i64 a0_2, .int .i64 a0_3], .agg #[.string a1_0, .string a1_1, .int .i64 a1_2, .int .i64 a1_3]] rfl (by (try simp only [List.map_toArray, List.map_cons, List.map_nil]); first | done | rfl | (simp only [List.length_drop, List.length_take]; rfl)) ?_; (with_reducible refine (pair_order.calls k a0_0 a0_1 a0_2 a0_3 a1_0 a1_1 a1_2 a1_3 t121 _ A3.out).mono ?_); rintro e w9 ⟨rfl, hb⟩; refine ⟨_, rfl, ?_⟩; have n0_ := Aside0.mk (blk_below (g := gb119) (o := .cells #[.string a0_0, .string a0_1, .int .i64 a0_2, .int .i64 a0_3] 43 (0, 0)) (by (with_reducible repeat (first | apply blN | apply blD | apply blA)); exact BK119.out) hb); have n1_ := Aside0.mk (blk_below (g := gb120) (o := .cells #[.string a1_0, .string a1_1, .int .i64 a1_2, .int .i64 a1_3] 43 (0, 0)) (by (with_reducible repeat (first | apply blN | apply blD | apply blA)); exact BK120.out) hb); have n2_ := Aside0.mk (below_step (by repeat (first | (with_reducible first | exact HB.out | apply below_alloc | apply pw_below_drewN | apply below_drew1 | refine below_set ?_ GE119.out | refine below_set ?_ GE120.out) | exact HB.out)) hb); clear BK119; clear BK120; clear HB; have BK119 := n0_; have BK120 := n1_; have HB := n2_; clear n0_ n1_ n2_; (try clear hb); (try clear hb2); (try clear hk); (try clear hi)))
 go_ret
 exact ⟨by first | rfl | (simp [errW_none, errW_some] <;> rfl) | (simp [*, errW_none, errW_some] <;> rfl), by repeat (first | (with_reducible first | exact HB.out | apply below_alloc | apply pw_below_drewN | apply below_drew1 | refine below_set ?_ GE119.out | refine below_set ?_ GE120.out) | exact HB.out)⟩

end Go.Proofs.YtmcddoolniaehaaGreat.S
end
section
namespace Go.Proofs.YtmcddoolniaehaaGreat.S
open Go.RowKit Go.Proofs.YtmcddoolniaehaaGreatW.PrintWords Go.Proofs.YtmcddoolniaehaaGreatW.PrintLast Go.Proofs.YtmcddoolniaehaaGreatW.PrintMore Go.Proofs.YtmcddoolniaehaaGreatW
attribute [local go_sem ↓] Go.wp_at_zero Go.wp_at_succ
set_option linter.unusedVariables false
set_option linter.unusedSimpArgs false
def pair_May.l0 : Nat → List (S43) → List (S43) → Int → Int → Option (Bool)
 | 0, _, _, _, _ => none
 | k + 1, x0, x5, x6, x7 => if x7 < x6 then (if 0 ≤ x7 then (if x7 < (x5.length : Int) then ((ops_Key.f ((rd_T43 x5 x7).f0)).bind fun t132 => (if t132 = true then ((ops_Key.f ((rd_T43 x5 x7).f1)).bind fun t133 => (if t133 = true then (if ((rd_T43 x5 x7).f2.f0) < 0 then (some false) else (if ((rd_T43 x5 x7).f2.f0) ≥ 8 then (some false) else (if ((rd_T43 x5 x7).f2.f1) < 1 then (some false) else (if x7 > 0 then (if 0 ≤ (wrap64 (x7 - 1)) then (if (wrap64 (x7 - 1)) < (x0.length : Int) then ((pair_Less.f k ((rd_T43 x0 (wrap64 (x7 - 1))).f0) ((rd_T43 x0 (wrap64 (x7 - 1))).f1) ((rd_T43 x0 (wrap64 (x7 - 1))).f2.f0) ((rd_T43 x0 (wrap64 (x7 - 1))).f2.f1) ((rd_T43 x5 x7).f0) ((rd_T43 x5 x7).f1) ((rd_T43 x5 x7).f2.f0) ((rd_T43 x5 x7).f2.f1)).bind fun t135 => (if t135 = true then (pair_May.l0 k x0 x5 x6 (wrap64 (x7 + 1))) else (some false))) else (none)) else (none)) else (pair_May.l0 k x0 x5 x6 (wrap64 (x7 + 1))))))) else (some false))) else (some false))) else (none)) else (none)) else (some true)
def pair_May.f (k : Nat) (l0 : List (S43)) : Option (Bool) := pair_May.l0 k l0 l0 (l0.length : Int) 0
theorem pair_May.mono_l : ∀ k, (∀ y0 y1 y2 y3, LeO (pair_May.l0 k y0 y1 y2 y3) (pair_May.l0 (k + 1) y0 y1 y2 y3))
 | 0 => fun _ _ _ _ r h => by simp [pair_May.l0] at h
 | k + 1 => by
  have ih0 := pair_May.mono_l k
  ·intro y0 y1 y2 y3
   unfold pair_May.l0
   repeat' first
   | (with_reducible exact ih0 _ _ _ _)
   | (with_reducible exact pair_Less.mono _ _ _ _ _ _ _ _ _)
   | (with_reducible exact LeO.refl _)
   | (with_reducible exact LeO.none _)
   | (with_reducible refine LeO.ite ?_ ?_)
   | (with_reducible refine LeO.bind ?_ (fun _ => ?_))
   | exact ih0 _ _ _ _
   | exact pair_Less.mono _ _ _ _ _ _ _ _ _
   | exact LeO.none _
   | refine LeO.ite ?_ ?_
   | refine LeO.bind ?_ (fun _ => ?_)
theorem pair_May.mono : ∀ a0 k, LeO (pair_May.f k a0) (pair_May.f (k + 1) a0) := by
 intro a0 k
 have ih0 := pair_May.mono_l k
 unfold pair_May.f
 repeat' first
   | (with_reducible exact ih0 _ _ _ _)
   | (with_reducible exact pair_Less.mono _ _ _ _ _ _ _ _ _)
   | (with_reducible exact LeO.refl _)
   | (with_reducible exact LeO.none _)
   | (with_reducible refine LeO.ite ?_ ?_)
   | (with_reducible refine LeO.bind ?_ (fun _ => ?_))
   | exact ih0 _ _ _ _
   | exact pair_Less.mono _ _ _ _ _ _ _ _ _
   | exact LeO.none _
   | refine LeO.ite ?_ ?_
   | refine LeO.bind ?_ (fun _ => ?_)
theorem pair_May.step {k1 : Nat} {l0 : List (S43)} {x : Int} {r : Bool} (H : pair_May.l0 (k1 + 1) l0 l0 (l0.length : Int) x = some r) (c2 : x < (l0.length : Int)) :
    0 ≤ x ∧ (∃ t, ops_Key.f (rd_T43 l0 x).f0 = some t ∧ (t = false ∧ r = false ∨ t = true ∧ (∃ t, ops_Key.f (rd_T43 l0 x).f1 = some t ∧ (t = false ∧ r = false ∨ t = true ∧ (decide ((rd_T43 l0 x).f2.f0 < 0) = true ∧ r = false ∨ decide ((rd_T43 l0 x).f2.f0 < 0) = false ∧ (decide (8 ≤ (rd_T43 l0 x).f2.f0) = true ∧ r = false ∨ decide (8 ≤ (rd_T43 l0 x).f2.f0) = false ∧ (decide ((rd_T43 l0 x).f2.f1 < 1) = true ∧ r = false ∨ decide ((rd_T43 l0 x).f2.f1 < 1) = false ∧ (decide (0 < x) = false ∧ pair_May.l0 k1 l0 l0 (l0.length : Int) (wrap64 (x + 1)) = some r ∨ decide (0 < x) = true ∧ 0 ≤ wrap64 (x - 1) ∧ wrap64 (x - 1) < (l0.length : Int) ∧ ∃ b, pair_Less.f k1 (rd_T43 l0 (wrap64 (x - 1))).f0 (rd_T43 l0 (wrap64 (x - 1))).f1 (rd_T43 l0 (wrap64 (x - 1))).f2.f0 (rd_T43 l0 (wrap64 (x - 1))).f2.f1 (rd_T43 l0 x).f0 (rd_T43 l0 x).f1 (rd_T43 l0 x).f2.f0 (rd_T43 l0 x).f2.f1 = some b ∧ (b = true ∧ pair_May.l0 k1 l0 l0 (l0.length : Int) (wrap64 (x + 1)) = some r ∨ b = false ∧ r = false))))))))) := by
  simp only [pair_May.l0] at H
  rw [if_pos c2] at H
  by_cases c3 : 0 ≤ x
  rotate_left
  · rw [if_neg c3] at H; cases H
  rw [if_pos c3, if_pos c2] at H
  refine ⟨c3, ?_⟩
  obtain ⟨t, h1, H⟩ := Option.bind_eq_some_iff.mp H
  refine ⟨t, h1, ?_⟩
  rcases t with _ | _
  · exact .inl ⟨rfl, by simpa using H.symm⟩
  rw [if_pos rfl] at H
  refine .inr ⟨rfl, ?_⟩
  obtain ⟨t, h1, H⟩ := Option.bind_eq_some_iff.mp H
  refine ⟨t, h1, ?_⟩
  rcases t with _ | _
  · exact .inl ⟨rfl, by simpa using H.symm⟩
  rw [if_pos rfl] at H
  refine .inr ⟨rfl, ?_⟩
  by_cases z : (rd_T43 l0 x).f2.f0 < 0
  · rw [if_pos z] at H; exact .inl ⟨decide_eq_true z, by simpa using H.symm⟩
  rw [if_neg z] at H
  refine .inr ⟨decide_eq_false z, ?_⟩
  by_cases z : (rd_T43 l0 x).f2.f0 ≥ 8
  · rw [if_pos z] at H; exact .inl ⟨decide_eq_true z, by simpa using H.symm⟩
  rw [if_neg z] at H
  refine .inr ⟨decide_eq_false z, ?_⟩
  by_cases z : (rd_T43 l0 x).f2.f1 < 1
  · rw [if_pos z] at H; exact .inl ⟨decide_eq_true z, by simpa using H.symm⟩
  rw [if_neg z] at H
  refine .inr ⟨decide_eq_false z, ?_⟩
  by_cases z : 0 < x
  rotate_left
  · rw [if_neg z] at H; exact .inl ⟨decide_eq_false z, H⟩
  rw [if_pos z] at H
  by_cases c9 : 0 ≤ wrap64 (x - 1)
  rotate_left
  · rw [if_neg c9] at H; cases H
  rw [if_pos c9] at H
  by_cases c10 : wrap64 (x - 1) < (l0.length : Int)
  rotate_left
  · rw [if_neg c10] at H; cases H
  rw [if_pos c10] at H
  obtain ⟨b, hb, H⟩ := Option.bind_eq_some_iff.mp H
  refine .inr ⟨decide_eq_true z, c9, c10, b, hb, ?_⟩
  rcases b with _ | _
  · exact .inr ⟨rfl, by simpa using H.symm⟩
  · rw [if_pos rfl] at H; exact .inl ⟨rfl, H⟩
set_option maxHeartbeats 8000000 in
set_option maxRecDepth 100000 in
theorem pair_May.calls (k : Nat) (A0 : Option Addr) (c0 : Nat) (l0 : List (S43)) (r : Bool) (w : World) (hr0 : Kd.C k43 w A0 l0.length l0) (hc0 : l0.length ≤ c0) (h : pair_May.f k l0 = some r) :
    Calls Tryz.prog 52 #[.slice A0 l0.length c0] w fun e w' => e = .returned (.bool r) ∧ Below w.heap.size w w' := by
  have hu := Tryz.underlying43
  have HR := Aside0.mk hr0
  have H' := Aside0.mk (show pair_May.l0 k l0 l0 (l0.length : Int) 0 = some r from h)
  clear hr0 hc0 h
  go_enter Tryz.func52, Tryz.ntmps52
  go_wp2
  go_loopg [7] k (fun kq v w' => ∃ x : Int, v = .int .i64 x ∧ Aside0 (pair_May.l0 kq l0 l0 (l0.length : Int) x = some r) ∧ Aside0 (kq ≤ k) ∧ Aside0 (Below w.heap.size w w'))
  case atStart => exact ⟨0, rfl, H', ⟨Nat.le_refl _⟩, ⟨Below.refl _ _⟩⟩
  case round =>
    clear H'
    obtain ⟨x, rfl, HA, HK1, HB⟩ := hrel
    cases gk with
    | zero => exact absurd HA.out (by simp [pair_May.l0])
    | succ k1 =>
      by_cases c2 : x < (l0.length : Int)
      · obtain ⟨c3, H⟩ := pair_May.step HA.out c2
        obtain ⟨ad, e, hx0, hx1, hx2, hx3⟩ := at_T43 HR.out x c3 c2
        cases e
        replace hx0 := (HB.out.cell (World.block_lt_of_cell? w _ hx0)).trans hx0; replace hx1 := (HB.out.cell (World.block_lt_of_cell? w _ hx1)).trans hx1; replace hx2 := (HB.out.cell (World.block_lt_of_cell? w _ hx2)).trans hx2; replace hx3 := (HB.out.cell (World.block_lt_of_cell? w _ hx3)).trans hx3
        have H0 := Aside0.mk H
        clear H HA
        generalize rd_T43 l0 x = e at *
        have p1 := eq_true c3
        have q1 := eq_true c2
        go_wp2_with fail
        have hBX := Aside0.mk (Bx.new HB.out (.cells #[.string e.f0, .string e.f1, .int .i64 e.f2.f0, .int .i64 e.f2.f1] 43))
        revert hBX
        generalize wr.alloc (.cells #[.string e.f0, .string e.f1, .int .i64 e.f2.f0, .int .i64 e.f2.f1] 43) = W0
        generalize wr.heap.size = g0
        intro hBX
        clear p1 q1 hx0 hx1 hx2 hx3 HB
        obtain ⟨t, hK1, H⟩ := H0.out
        have K1 := Aside0.mk (fun W : World => (ops_Key.calls _ _ W hK1).mono fun _ _ h => And.intro h.1 (drawn_b h.2))
        clear hK1 H0
        rcases H with ⟨rfl, rfl⟩ | ⟨rfl, t2, hK2, H⟩
        rotate_left
        have K2 := Aside0.mk (fun W : World => (ops_Key.calls _ _ W hK2).mono fun _ _ h => And.intro h.1 (drawn_b h.2))
        clear hK2
        rcases H with ⟨rfl, rfl⟩ | ⟨rfl, ⟨z, rfl⟩ | ⟨z, ⟨z2, rfl⟩ | ⟨z2, ⟨z3, rfl⟩ | ⟨z3, ⟨xb, H⟩ | ⟨xb, y0, y1, b, hb, H⟩⟩⟩⟩⟩
        rotate_right 2
        · have hji := wrapIn y1 y0
          have K3 := Aside0.mk (fun W : World => pair_Less.calls _ _ _ _ _ _ _ _ _ _ W hb)
          generalize wrap64 (x - 1) = j at *
          obtain ⟨ad2, e2, hy0, hy1, hy2, hy3⟩ := at_T43 HR.out j y0 y1
          cases e2
          generalize rd_T43 l0 j = y at *
          have y2 := eq_true y0
          have y3 := eq_true y1
          refine in_ (n := 42) (S := Bx w g0 _) (by kernel_rfl) rfl hBX.out.drew (fun hHeld => ?_)
          repeat (first
            | (refine run_ (v := ?_) (a' := ?_) rfl rfl hHeld ?_ ?_ ?_; rotate_left; (focus (intro w2 hs; have s0 := (blk_cell hs.x 0).trans rfl; have s1 := (blk_cell hs.x 1).trans rfl; have s2 := (blk_cell hs.x 2).trans rfl; have s3 := (blk_cell hs.x 3).trans rfl; have u0 := (hs.b.cell (World.block_lt_of_cell? w _ hy0)).trans hy0; have u1 := (hs.b.cell (World.block_lt_of_cell? w _ hy1)).trans hy1; have u2 := (hs.b.cell (World.block_lt_of_cell? w _ hy2)).trans hy2; have u3 := (hs.b.cell (World.block_lt_of_cell? w _ hy3)).trans hy3; go_simp; with_reducible rfl)); rotate_left; (focus (simp only [Act.put, sqA, sqB, sqC] <;> rfl)))
            | (refine skip_ (a' := ?_) rfl rfl hHeld ?_ ?_; rotate_left; (focus (simp only [Act.put, sqA, sqB, sqC] <;> rfl)))
            | (refine ask_ rfl rfl (fun K hK => ?_); go_simp; (first | (go_at_call 76; with_reducible refine (K1.out _).mono ?_) | (go_at_call 76; with_reducible refine (K2.out _).mono ?_) | (go_at_call 95; with_reducible refine (K3.out _).mono ?_)); rintro e1 w1 ⟨rfl, hb⟩; replace hHeld := hHeld.go hb; go_wp2_with fail; refine hK.out _ _ hHeld (fun _ => ?_); clear hK K hb; try simp only [Act.put, sqA, sqB, sqC]))
          refine wpAnyH_done (by kernel_rfl) ?_ _
          rcases H with ⟨rfl, H⟩ | ⟨rfl, rfl⟩
          all_goals first | (go_wp2; go_ret; exact ⟨rfl, hHeld.b⟩) | (go_wp2; go_roundg k1; (case measure => have := HK1.out; omega); (case rel => exact ⟨wrap64 (x + 1), rfl, ⟨H⟩, ⟨by have := HK1.out; omega⟩, ⟨hHeld.b⟩⟩))
        all_goals
          refine in_ (n := 42) (S := Bx w g0 _) (by kernel_rfl) rfl hBX.out.drew (fun hHeld => ?_)
          repeat (first
            | (refine run_ (v := ?_) (a' := ?_) rfl rfl hHeld ?_ ?_ ?_; rotate_left; (focus (intro w2 hs; have s0 := (blk_cell hs.x 0).trans rfl; have s1 := (blk_cell hs.x 1).trans rfl; have s2 := (blk_cell hs.x 2).trans rfl; have s3 := (blk_cell hs.x 3).trans rfl; go_simp; with_reducible rfl)); rotate_left; (focus (simp only [Act.put, sqA, sqB, sqC] <;> rfl)))
            | (refine skip_ (a' := ?_) rfl rfl hHeld ?_ ?_; rotate_left; (focus (simp only [Act.put, sqA, sqB, sqC] <;> rfl)))
            | (refine ask_ rfl rfl (fun K hK => ?_); go_simp; (first | (go_at_call 76; with_reducible refine (K1.out _).mono ?_) | (go_at_call 76; with_reducible refine (K2.out _).mono ?_) | (go_at_call 95; with_reducible refine (K3.out _).mono ?_)); rintro e1 w1 ⟨rfl, hb⟩; replace hHeld := hHeld.go hb; go_wp2_with fail; refine hK.out _ _ hHeld (fun _ => ?_); clear hK K hb; try simp only [Act.put, sqA, sqB, sqC]))
          refine wpAnyH_done (by kernel_rfl) ?_ _
          first | (go_wp2; go_ret; exact ⟨rfl, hHeld.b⟩) | (go_wp2; go_roundg k1; (case measure => have := HK1.out; omega); (case rel => exact ⟨wrap64 (x + 1), rfl, ⟨H⟩, ⟨by have := HK1.out; omega⟩, ⟨hHeld.b⟩⟩))
      · have q1 := decide_eq_false c2
        have H := HA.out
        simp only [pair_May.l0] at H
        rw [if_neg c2] at H
        cases H
        go_wp2
        go_ret
        exact ⟨rfl, HB.out⟩
end Go.Proofs.YtmcddoolniaehaaGreat.S
end
section
namespace Go.Proofs.YtmcddoolniaehaaGreat.S
open Go.RowKit Go.Sort Go.Proofs.YtmcddoolniaehaaGreatW.PrintWords Go.Proofs.YtmcddoolniaehaaGreatW.PrintLast Go.Proofs.YtmcddoolniaehaaGreatW.PrintMore Go.Proofs.YtmcddoolniaehaaGreatW
set_option linter.unusedVariables false
set_option linter.unusedSimpArgs false
theorem wrapUp {n : Nat} (h : n < 4611686018427387904) : wrap64 ((n : Int) + 1) = ((n + 1 : Nat) : Int) := by unfold wrap64; omega
theorem wrapDn {n : Nat} (h : n < 4611686018427387904) : wrap64 (((n + 1 : Nat) : Int) - 1) = (n : Int) := by unfold wrap64; omega
theorem rdP_mid (pre suf : List Pr) (x : Pr) : rd_T43 (pre ++ x :: suf) ((pre.length : Nat) : Int) = x := by
  simp [rd_T43, List.getD_eq_getElem?_getD]
theorem len_one {α : Type} (pre : List α) (x : α) : (pre ++ [x]).length = pre.length + 1 := by simp
theorem app_one {α : Type} (pre suf : List α) (x : α) : (pre ++ [x]) ++ suf = pre ++ x :: suf := by simp
theorem keyT {a : ByteArray} (h : okT a) : ops_Key.f a = some (keyB a.data.toList) := by
  unfold ops_Key.f
  unfold okT maxLen at h
  rw [if_pos (by omega)]
def ltP (x y : Pr) : Bool := decide (cmpP x y < 0)
theorem less_f (k : Nat) (x y : Pr) : pair_Less.f (k + 5) x.f0 x.f1 x.f2.f0 x.f2.f1 y.f0 y.f1 y.f2.f0 y.f2.f1 = some (ltP x y) := by
  unfold pair_Less.f pair_order.f
  rw [cS_f, cS_f, cI_f, cI_f]
  simp only [Option.bind_some]
  rw [or4_f]
  rfl
def oneP (x : Pr) : Bool := keyB x.f0.data.toList && (keyB x.f1.data.toList && (decide (0 ≤ x.f2.f0) && (decide (x.f2.f0 < 8) && decide (1 ≤ x.f2.f1))))
def mayPP : Option Pr → List Pr → Bool
  | _, [] => true
  | p, x :: l => oneP x && ((match p with | none => true | some y => ltP y x) && mayPP (some x) l)
def mayP (l : List Pr) : Bool := mayPP none l
theorem mayP_loop : ∀ (suf pre : List Pr) (k : Nat), suf.length + 5 < k → (pre ++ suf).length < 4611686018427387904 → (∀ x ∈ suf, okPair x) →
    pair_May.l0 k (pre ++ suf) (pre ++ suf) (((pre ++ suf).length : Nat) : Int) ((pre.length : Nat) : Int) = some (mayPP pre.getLast? suf)
  | suf, pre, 0, hk, _, _ => by omega
  | [], pre, k + 1, _, _, _ => by
    simp only [pair_May.l0]
    rw [if_neg (by simp)]
    rfl
  | x :: suf, pre, k + 1, hk, hl, ho => by
    have hlt : ((pre.length : Nat) : Int) < (((pre ++ x :: suf).length : Nat) : Int) := by simp; omega
    have hpl : pre.length < 4611686018427387904 := by simp at hl; omega
    have ih := mayP_loop suf (pre ++ [x]) k (by simp at hk; omega) (by simpa using hl) (fun y hy => ho y (List.mem_cons_of_mem _ hy))
    rw [app_one, List.getLast?_concat, len_one] at ih
    have hox := ho x List.mem_cons_self
    simp only [pair_May.l0]
    rw [if_pos hlt, if_pos (by omega), if_pos hlt, rdP_mid, keyT hox.1, Option.bind_some, wrapUp hpl]
    unfold mayPP oneP
    cases h1 : keyB x.f0.data.toList with
    | false => rfl
    | true =>
      rw [if_pos rfl, keyT hox.2.1, Option.bind_some]
      cases h2 : keyB x.f1.data.toList with
      | false => rfl
      | true =>
        simp only [if_true, Bool.true_and]
        by_cases h3 : x.f2.f0 < 0
        · rw [if_pos h3]
          have : ¬ (0 ≤ x.f2.f0) := by omega
          simp [this]
        · rw [if_neg h3]
          have h3' : 0 ≤ x.f2.f0 := by omega
          by_cases h4 : x.f2.f0 ≥ 8
          · rw [if_pos h4]
            have : ¬ (x.f2.f0 < 8) := by omega
            simp [this]
          · rw [if_neg h4]
            have h4' : x.f2.f0 < 8 := by omega
            by_cases h5 : x.f2.f1 < 1
            · rw [if_pos h5]
              have : ¬ (1 ≤ x.f2.f1) := by omega
              simp [this]
            · rw [if_neg h5]
              have h5' : 1 ≤ x.f2.f1 := by omega
              simp only [h3', h4', h5', decide_true, Bool.true_and]
              rcases List.eq_nil_or_concat pre with rfl | ⟨p, y, rfl⟩
              · rw [if_neg (by simp)]
                simpa using ih
              · rw [List.concat_eq_append] at *
                have hw : wrap64 ((((p ++ [y]).length : Nat) : Int) - 1) = ((p.length : Nat) : Int) := by
                  rw [List.length_append, List.length_singleton]; exact wrapDn (by simp at hpl; omega)
                obtain ⟨k', rfl⟩ : ∃ k', k = k' + 5 := ⟨k - 5, by simp at hk; omega⟩
                rw [if_pos (by simp), hw, if_pos (by omega), if_pos (by simp; omega), app_one, rdP_mid, less_f, Option.bind_some, List.getLast?_concat]
                rw [app_one] at ih
                cases h6 : ltP y x with
                | false => simp [h6]
                | true =>
                  simp only [if_true]
                  rw [ih, h6]; rfl
theorem mayP_f (k : Nat) (l : List Pr) (hk : l.length + 5 < k) (hl : l.length < 4611686018427387904) (ho : ∀ x ∈ l, okPair x) : pair_May.f k l = some (mayP l) := by
  have := mayP_loop l [] k hk (by simpa using hl) ho
  simpa [pair_May.f, mayP] using this
theorem ltP_trans {x y z : Pr} (h1 : ltP x y = true) (h2 : ltP y z = true) : ltP x z = true := by
  unfold ltP at *
  simp only [decide_eq_true_eq] at *
  exact cmpP_ok.trans x y z h1 h2
theorem ltP_irrefl (x : Pr) : ltP x x = false := by
  unfold ltP
  have := (cmpP_ok.eq x x).2 rfl
  simp [this]
theorem ltP_tri (x y : Pr) : ltP x y = true ∨ x = y ∨ ltP y x = true := by
  unfold ltP
  simp only [decide_eq_true_eq]
  rcases Int.lt_trichotomy (cmpP x y) 0 with q | q | q
  · exact .inl q
  · exact .inr (.inl ((cmpP_ok.eq x y).1 q))
  · exact .inr (.inr ((cmpP_ok.anti y x).2 q))
abbrev pLt (x y : Pr) : Prop := ltP x y = true
theorem mayPP_iff : ∀ (l : List Pr) (p : Option Pr), mayPP p l = true ↔ (∀ x ∈ l, oneP x = true) ∧ (p.toList ++ l).Pairwise pLt
  | [], none => by simp [mayPP]
  | [], some y => by simp [mayPP]
  | x :: l, none => by
    have ih := mayPP_iff l (some x)
    unfold mayPP
    simp only [Bool.true_and, Bool.and_eq_true, ih, List.mem_cons, forall_eq_or_imp, Option.toList, List.nil_append, List.cons_append]
    exact and_assoc.symm
  | x :: l, some y => by
    have ih := mayPP_iff l (some x)
    unfold mayPP
    simp only [Bool.and_eq_true, ih, List.mem_cons, forall_eq_or_imp, Option.toList, List.nil_append, List.cons_append]
    constructor
    · rintro ⟨h1, h2, h3, h4⟩
      refine ⟨⟨h1, h3⟩, ?_⟩
      rw [List.pairwise_cons]
      refine ⟨fun z hz => ?_, h4⟩
      rcases List.mem_cons.1 hz with rfl | hz
      · exact h2
      · exact ltP_trans h2 ((List.pairwise_cons.1 h4).1 z hz)
    · rintro ⟨⟨h1, h3⟩, h4⟩
      rw [List.pairwise_cons] at h4
      exact ⟨h1, h4.1 x List.mem_cons_self, h3, h4.2⟩
theorem mayP_iff (l : List Pr) : mayP l = true ↔ (∀ x ∈ l, oneP x = true) ∧ l.Pairwise pLt := by
  have := mayPP_iff l none
  simpa [mayP] using this
end Go.Proofs.YtmcddoolniaehaaGreat.S
end
