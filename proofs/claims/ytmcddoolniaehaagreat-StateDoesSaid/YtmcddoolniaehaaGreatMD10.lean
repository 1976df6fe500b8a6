/- Several of the walk's texts in one: Sx8, SHRegPut, SHRegPlain. -/
import Derived.StillTailTactics
import Derived.Deep.RegionHeld3
import Derived.Deep.DeepCutAuto
import Derived.RegionTactic
import Derived.Test.YtmcddoolniaehaaGreatMD04
import Derived.Test.YtmcddoolniaehaaGreatMD05
import Derived.Test.YtmcddoolniaehaaGreatMD06
import Derived.Test.YtmcddoolniaehaaGreatMD09
section
namespace Go.Proofs.YtmcddoolniaehaaGreat.S
open Go.RowKit Go.Proofs.YtmcddoolniaehaaGreatW.PrintWords Go.Proofs.YtmcddoolniaehaaGreatW.PrintLast Go.Proofs.YtmcddoolniaehaaGreatW.PrintMore
attribute [local go_sem] max2_int min2_int max_two min_two max_three min_three max_four min_four   -- for this text's walks alone
set_option linter.unusedVariables false
set_option linter.unusedSimpArgs false

def reg_Newer.f (k : Nat) (a0_0 : ByteArray) (a0_1 : ByteArray) (a0_2 : Int) (a0_3 : Int) (a0_4 : Int) (a1_0 : ByteArray) (a1_1 : ByteArray) (a1_2 : Int) (a1_3 : Int) (a1_4 : Int) : Option (Bool) := (cmp_Compare_int.f a0_2 a1_2).bind fun t125 => ((cmp_Compare_int.f a0_3 a1_3).bind fun t126 => ((cmp_Compare_int.f a0_4 a1_4).bind fun t127 => ((cmp_Compare_string.f a0_1 a1_1).bind fun t128 => ((cmp_Or_int.f k (([t125, t126, t127, t128] : List Int))).bind fun t132 => (some (decide (t132 > 0)))))))
theorem reg_Newer.mono : ∀ a0 a1 a2 a3 a4 a5 a6 a7 a8 a9 k, LeO (reg_Newer.f k a0 a1 a2 a3 a4 a5 a6 a7 a8 a9) (reg_Newer.f (k + 1) a0 a1 a2 a3 a4 a5 a6 a7 a8 a9) := by
 intro a0 a1 a2 a3 a4 a5 a6 a7 a8 a9 k
 unfold reg_Newer.f
 repeat' first
   | (with_reducible exact cmp_Or_int.mono _ _)
   | (with_reducible exact LeO.refl _)
   | (with_reducible exact LeO.none _)
   | (with_reducible refine LeO.ite ?_ ?_)
   | (with_reducible refine LeO.bind ?_ (fun _ => ?_))
   | exact cmp_Or_int.mono _ _
   | exact LeO.none _
   | refine LeO.ite ?_ ?_
   | refine LeO.bind ?_ (fun _ => ?_)
def reg_Newer.T1 : Bool × List (List Nat × List Nat) := (true, [([], []), ([0], [0]), ([], []), ([2], [2]), ([1, 3], [1, 3]), ([], []), ([5], [5]), ([6], [6]), ([], []), ([8], [8]), ([9], [9]), ([7, 10, 4], [7, 10]), ([], []), ([12], [12]), ([13], [13]), ([], []), ([15], [15]), ([16], [16]), ([14, 17, 11], [14, 17]), ([], []), ([19], [19]), ([], []), ([21], [21]), ([20, 22, 18], [20, 22]), ([4, 11, 18, 23], [4, 11, 18, 23]), ([24, 23], [24]), ([25], [25]), ([26, 25, 0, 1, 2, 3, 4, 5, 6, 7, 8, 9, 10, 11, 12, 13, 14, 15, 16, 17, 18, 19, 20, 21, 22, 23, 24, 25, 26], [26])])
def reg_Newer.B1 : List Nat := [0, 1, 0, 4, 15, 0, 32, 96, 0, 256, 768, 2047, 0, 4096, 12288, 0, 32768, 98304, 262143, 0, 524288, 0, 2097152, 8388607, 16777215, 33554431, 67108863, 134217727]
theorem reg_Newer.tab1 : rtab .any (opsOf Tryz.f124 1) = reg_Newer.T1 := by kernel_rfl
theorem reg_Newer.bits1 : waitsOk reg_Newer.T1.2 reg_Newer.B1 = true := by kernel_rfl
set_option maxHeartbeats 8000000 in
set_option maxRecDepth 100000 in
theorem reg_Newer.calls (k : Nat) (a0_0 : ByteArray) (a0_1 : ByteArray) (a0_2 : Int) (a0_3 : Int) (a0_4 : Int) (a1_0 : ByteArray) (a1_1 : ByteArray) (a1_2 : Int) (a1_3 : Int) (a1_4 : Int) (r : Bool) (w : World) (h : reg_Newer.f k a0_0 a0_1 a0_2 a0_3 a0_4 a1_0 a1_1 a1_2 a1_3 a1_4 = some r) :
  Calls Tryz.prog 124 #[.agg #[.string a0_0, .string a0_1, .int .i64 a0_2, .int .i64 a0_3, .int .i64 a0_4], .agg #[.string a1_0, .string a1_1, .int .i64 a1_2, .int .i64 a1_3, .int .i64 a1_4]] w fun e w' => e = .returned (.bool r) ∧ Below w.heap.size w w' := by
 have hu47 := Tryz.underlying47
 have HB := Aside0.mk (Below.refl w.heap.size w)
 have H : ((cmp_Compare_int.f a0_2 a1_2).bind fun t125 => ((cmp_Compare_int.f a0_3 a1_3).bind fun t126 => ((cmp_Compare_int.f a0_4 a1_4).bind fun t127 => ((cmp_Compare_string.f a0_1 a1_1).bind fun t128 => ((cmp_Or_int.f k (([t125, t126, t127, t128] : List Int))).bind fun t132 => (some (decide (t132 > 0)))))))) = some r := h
 clear h
 replace H := Option.bind_eq_some_iff.mp H
 obtain ⟨t125, A30, H⟩ := H
 replace H : ((cmp_Compare_int.f a0_3 a1_3).bind fun t126 => ((cmp_Compare_int.f a0_4 a1_4).bind fun t127 => ((cmp_Compare_string.f a0_1 a1_1).bind fun t128 => ((cmp_Or_int.f k (([t125, t126, t127, t128] : List Int))).bind fun t132 => (some (decide (t132 > 0))))))) = some r := H
 have A3 := Aside0.mk A30
 clear A30
 replace H := Option.bind_eq_some_iff.mp H
 obtain ⟨t126, A40, H⟩ := H
 replace H : ((cmp_Compare_int.f a0_4 a1_4).bind fun t127 => ((cmp_Compare_string.f a0_1 a1_1).bind fun t128 => ((cmp_Or_int.f k (([t125, t126, t127, t128] : List Int))).bind fun t132 => (some (decide (t132 > 0)))))) = some r := H
 have A4 := Aside0.mk A40
 clear A40
 replace H := Option.bind_eq_some_iff.mp H
 obtain ⟨t127, A50, H⟩ := H
 replace H : ((cmp_Compare_string.f a0_1 a1_1).bind fun t128 => ((cmp_Or_int.f k (([t125, t126, t127, t128] : List Int))).bind fun t132 => (some (decide (t132 > 0))))) = some r := H
 have A5 := Aside0.mk A50
 clear A50
 replace H := Option.bind_eq_some_iff.mp H
 obtain ⟨t128, A60, H⟩ := H
 replace H : ((cmp_Or_int.f k (([t125, t126, t127, t128] : List Int))).bind fun t132 => (some (decide (t132 > 0)))) = some r := H
 have A6 := Aside0.mk A60
 clear A60
 obtain ⟨y129, hy129⟩ : ∃ y_ : List Int, y_ = (([t125, t126, t127, t128] : List Int)) := ⟨_, rfl⟩
 replace H : ((cmp_Or_int.f k y129).bind fun t132 => (some (decide (t132 > 0)))) = some r := by first | (rw [hy129]; with_reducible exact H) | (have H2_ := (Option.bind_some _ _).symm.trans H; rw [hy129]; with_reducible exact H2_) | (have H2_ := (Option.bind_some _ _).symm.trans H; with_reducible exact H2_) | with_reducible exact H | (rw [hy129]; exact H) | exact H
 have Ny129 := Aside0.mk hy129
 clear hy129
 replace H := Option.bind_eq_some_iff.mp H
 obtain ⟨t132, A70, H⟩ := H
 replace H : (some (decide (t132 > 0))) = some r := H
 have A7 := Aside0.mk A70
 clear A70
 obtain rfl := Option.some.inj H
 go_enter Tryz.func124, Tryz.ntmps124
 try go_wp2_with (first | ((with_reducible refine gate_dst (N := 2) rfl ?_); refine box_event ?hg (N := 2) ?hd (cs := #[.string a0_0, .string a0_1, .int .i64 a0_2, .int .i64 a0_3, .int .i64 a0_4]) (t := 47) ?hr ?_; (case hd => rfl); (case hg => rfl); (case hr => first | (go_simp; done) | (go_simp; rfl)); intro gb123 hg w8 hbox hb; have n0_ := Aside0.mk (below_step (by repeat (first | (with_reducible first | exact HB.out | apply below_alloc | apply pw_below_drewN | apply below_drew1) | exact HB.out)) hb); have n1_ := Aside0.mk (hbox); have n2_ := Aside0.mk ((by rw [hg]; exact (below_size (by repeat (first | (with_reducible first | exact HB.out | apply below_alloc | apply pw_below_drewN | apply below_drew1) | exact HB.out))) : w.heap.size ≤ gb123)); have n3_ := Aside0.mk ((by rw [hg]; exact (below_size (by repeat (first | (with_reducible first | exact HB.out | apply below_alloc | apply pw_below_drewN | apply below_drew1) | exact HB.out))) : w.heap.size ≤ gb123)); clear HB; have HB := n0_; have BK123 := n1_; have GW123 := n2_; have GE123 := n3_; clear n0_ n1_ n2_ n3_; clear hb hbox hg) | ((with_reducible refine gate_dst (N := 3) rfl ?_); refine box_event ?hg (N := 3) ?hd (cs := #[.string a1_0, .string a1_1, .int .i64 a1_2, .int .i64 a1_3, .int .i64 a1_4]) (t := 47) ?hr ?_; (case hd => rfl); (case hg => rfl); (case hr => first | (go_simp; done) | (go_simp; rfl)); intro gb124 hg w9 hbox hb; have n0_ := Aside0.mk (blk_below (g := gb123) (o := .cells #[.string a0_0, .string a0_1, .int .i64 a0_2, .int .i64 a0_3, .int .i64 a0_4] 47 (0, 0)) (by (with_reducible repeat (first | apply blN | apply blD | apply blA)); exact BK123.out) hb); have n1_ := Aside0.mk (below_step (by repeat (first | (with_reducible first | exact HB.out | apply below_alloc | apply pw_below_drewN | apply below_drew1 | refine below_set ?_ GE123.out) | exact HB.out)) hb); have n2_ := Aside0.mk (hbox); have n3_ := Aside0.mk ((by rw [hg]; exact (below_size (by repeat (first | (with_reducible first | exact HB.out | apply below_alloc | apply pw_below_drewN | apply below_drew1 | refine below_set ?_ GE123.out) | exact HB.out))) : w.heap.size ≤ gb124)); have n4_ := Aside0.mk ((by rw [hg]; exact (below_size (by repeat (first | (with_reducible first | exact HB.out | apply below_alloc | apply pw_below_drewN | apply below_drew1 | refine below_set ?_ GE123.out) | exact HB.out))) : w.heap.size ≤ gb124)); have n5_ := Aside0.mk ((by rw [hg]; exact Nat.ne_of_lt (blk_lt (g := gb123) (o := .cells #[.string a0_0, .string a0_1, .int .i64 a0_2, .int .i64 a0_3, .int .i64 a0_4] 47 (0, 0)) (by (with_reducible repeat (first | apply blN | apply blD | apply blA)); exact BK123.out)) : gb123 ≠ gb124)); have n6_ := Aside0.mk ((by rw [hg]; exact Nat.ne_of_gt (blk_lt (g := gb123) (o := .cells #[.string a0_0, .string a0_1, .int .i64 a0_2, .int .i64 a0_3, .int .i64 a0_4] 47 (0, 0)) (by (with_reducible repeat (first | apply blN | apply blD | apply blA)); exact BK123.out)) : gb124 ≠ gb123)); clear BK123; clear HB; have BK123 := n0_; have HB := n1_; have BK124 := n2_; have GW124 := n3_; have GE124 := n4_; have NB123_124 := n5_; have NB124_123 := n6_; clear n0_ n1_ n2_ n3_ n4_ n5_ n6_; clear hb hbox hg))
 have n0_ := Aside0.mk (blk_drew BK123.out)
 have n1_ := Aside0.mk (blk_drew BK124.out)
 have n2_ := Aside0.mk (below_drew1 HB.out)
 clear BK123
 clear BK124
 clear HB
 have BK123 := n0_
 have BK124 := n1_
 have HB := n2_
 clear n0_ n1_ n2_
 refine start_ (n := 28) (S := fun w' => w'.cell? ⟨gb123, 0, none⟩ = some (.string a0_0) ∧ w'.cell? ⟨gb123, 1, none⟩ = some (.string a0_1) ∧ w'.cell? ⟨gb123, 2, none⟩ = some (.int .i64 a0_2) ∧ w'.cell? ⟨gb123, 3, none⟩ = some (.int .i64 a0_3) ∧ w'.cell? ⟨gb123, 4, none⟩ = some (.int .i64 a0_4) ∧ w'.cell? ⟨gb124, 0, none⟩ = some (.string a1_0) ∧ w'.cell? ⟨gb124, 1, none⟩ = some (.string a1_1) ∧ w'.cell? ⟨gb124, 2, none⟩ = some (.int .i64 a1_2) ∧ w'.cell? ⟨gb124, 3, none⟩ = some (.int .i64 a1_3) ∧ w'.cell? ⟨gb124, 4, none⟩ = some (.int .i64 a1_4)) (ds := []) #[O,O,O,O,O,O,O,O,O,O,O,O,O,O,O,O,O,O,O,O,O,O,O,O,O,O,O,O] (by kernel_rfl) rfl rfl ⟨(blk_cell BK123.out 0).trans rfl, (blk_cell BK123.out 1).trans rfl, (blk_cell BK123.out 2).trans rfl, (blk_cell BK123.out 3).trans rfl, (blk_cell BK123.out 4).trans rfl, (blk_cell BK124.out 0).trans rfl, (blk_cell BK124.out 1).trans rfl, (blk_cell BK124.out 2).trans rfl, (blk_cell BK124.out 3).trans rfl, (blk_cell BK124.out 4).trans rfl⟩ (fun hHeld => ?_); refine with_tabW reg_Newer.tab1 reg_Newer.bits1 (fun HT_ HW_ => ?_)
 generalize w9.drew = w10 at BK123 BK124 HB hHeld ⊢
 refine sqP (i := 0) (N := some 5) (v := ?_) (a' := ?_) #[I,O,O,O,O,O,O,O,O,O,O,O,O,O,O,O,O,O,O,O,O,O,O,O,O,O,O,O] rfl rfl HT_.out (Or.inl ⟨by rfl, ?_⟩) ?_ ?_
 rotate_left
 ·intro w'
  go_simp
  with_reducible rfl
 rotate_left
 ·simp only [Act.put, sqA, sqB, sqC, i64_w, i32_w]
  rfl
 refine sqP (i := 2) (N := some 7) (v := ?_) (a' := ?_) #[I,O,I,O,O,O,O,O,O,O,O,O,O,O,O,O,O,O,O,O,O,O,O,O,O,O,O,O] rfl rfl HT_.out (Or.inl ⟨by rfl, ?_⟩) ?_ ?_
 rotate_left
 ·intro w'
  go_simp
  with_reducible rfl
 rotate_left
 ·simp only [Act.put, sqA, sqB, sqC, i64_w, i32_w]
  rfl
 refine sqP (i := 5) (N := some 10) (v := ?_) (a' := ?_) #[I,O,I,O,O,I,O,O,O,O,O,O,O,O,O,O,O,O,O,O,O,O,O,O,O,O,O,O] rfl rfl HT_.out (Or.inl ⟨by rfl, ?_⟩) ?_ ?_
 rotate_left
 ·intro w'
  go_simp
  with_reducible rfl
 rotate_left
 ·simp only [Act.put, sqA, sqB, sqC, i64_w, i32_w]
  rfl
 refine sqP (i := 6) (N := some 11) (v := ?_) (a' := ?_) #[I,O,I,O,O,I,I,O,O,O,O,O,O,O,O,O,O,O,O,O,O,O,O,O,O,O,O,O] rfl rfl HT_.out (Or.inl ⟨by rfl, ?_⟩) ?_ ?_
 rotate_left
 ·intro w'
  go_simp
  with_reducible rfl
 rotate_left
 ·simp only [Act.put, sqA, sqB, sqC, i64_w, i32_w]
  rfl
 refine sqP (i := 8) (N := some 13) (v := ?_) (a' := ?_) #[I,O,I,O,O,I,I,O,I,O,O,O,O,O,O,O,O,O,O,O,O,O,O,O,O,O,O,O] rfl rfl HT_.out (Or.inl ⟨by rfl, ?_⟩) ?_ ?_
 rotate_left
 ·intro w'
  go_simp
  with_reducible rfl
 rotate_left
 ·simp only [Act.put, sqA, sqB, sqC, i64_w, i32_w]
  rfl
 refine sqP (i := 9) (N := some 14) (v := ?_) (a' := ?_) #[I,O,I,O,O,I,I,O,I,I,O,O,O,O,O,O,O,O,O,O,O,O,O,O,O,O,O,O] rfl rfl HT_.out (Or.inl ⟨by rfl, ?_⟩) ?_ ?_
 rotate_left
 ·intro w'
  go_simp
  with_reducible rfl
 rotate_left
 ·simp only [Act.put, sqA, sqB, sqC, i64_w, i32_w]
  rfl
 refine sqP (i := 12) (N := some 17) (v := ?_) (a' := ?_) #[I,O,I,O,O,I,I,O,I,I,O,O,I,O,O,O,O,O,O,O,O,O,O,O,O,O,O,O] rfl rfl HT_.out (Or.inl ⟨by rfl, ?_⟩) ?_ ?_
 rotate_left
 ·intro w'
  go_simp
  with_reducible rfl
 rotate_left
 ·simp only [Act.put, sqA, sqB, sqC, i64_w, i32_w]
  rfl
 refine sqP (i := 13) (N := some 18) (v := ?_) (a' := ?_) #[I,O,I,O,O,I,I,O,I,I,O,O,I,I,O,O,O,O,O,O,O,O,O,O,O,O,O,O] rfl rfl HT_.out (Or.inl ⟨by rfl, ?_⟩) ?_ ?_
 rotate_left
 ·intro w'
  go_simp
  with_reducible rfl
 rotate_left
 ·simp only [Act.put, sqA, sqB, sqC, i64_w, i32_w]
  rfl
 refine sqP (i := 15) (N := some 20) (v := ?_) (a' := ?_) #[I,O,I,O,O,I,I,O,I,I,O,O,I,I,O,I,O,O,O,O,O,O,O,O,O,O,O,O] rfl rfl HT_.out (Or.inl ⟨by rfl, ?_⟩) ?_ ?_
 rotate_left
 ·intro w'
  go_simp
  with_reducible rfl
 rotate_left
 ·simp only [Act.put, sqA, sqB, sqC, i64_w, i32_w]
  rfl
 refine sqP (i := 16) (N := some 21) (v := ?_) (a' := ?_) #[I,O,I,O,O,I,I,O,I,I,O,O,I,I,O,I,I,O,O,O,O,O,O,O,O,O,O,O] rfl rfl HT_.out (Or.inl ⟨by rfl, ?_⟩) ?_ ?_
 rotate_left
 ·intro w'
  go_simp
  with_reducible rfl
 rotate_left
 ·simp only [Act.put, sqA, sqB, sqC, i64_w, i32_w]
  rfl
 refine sqP (i := 19) (N := some 24) (v := ?_) (a' := ?_) #[I,O,I,O,O,I,I,O,I,I,O,O,I,I,O,I,I,O,O,I,O,O,O,O,O,O,O,O] rfl rfl HT_.out (Or.inl ⟨by rfl, ?_⟩) ?_ ?_
 rotate_left
 ·intro w'
  go_simp
  with_reducible rfl
 rotate_left
 ·simp only [Act.put, sqA, sqB, sqC, i64_w, i32_w]
  rfl
 refine sqP (i := 21) (N := some 26) (v := ?_) (a' := ?_) #[I,O,I,O,O,I,I,O,I,I,O,O,I,I,O,I,I,O,O,I,O,I,O,O,O,O,O,O] rfl rfl HT_.out (Or.inl ⟨by rfl, ?_⟩) ?_ ?_
 rotate_left
 ·intro w'
  go_simp
  with_reducible rfl
 rotate_left
 ·simp only [Act.put, sqA, sqB, sqC, i64_w, i32_w]
  rfl
 refine take_ (i := 1) (N := some 6) (v := ?_) (a' := ?_) #[I,I,I,O,O,I,I,O,I,I,O,O,I,I,O,I,I,O,O,I,O,I,O,O,O,O,O,O] rfl rfl (take_ofW HT_.out HW_.out (by kernel_rfl)) (fun _ _ _ h => h) (Or.inl ⟨by rfl, ?_⟩) hHeld ?_ ?_
 rotate_left
 ·rintro w' ⟨s0, s1, s2, s3, s4, s5, s6, s7, s8, s9⟩
  go_simp
  with_reducible rfl
 rotate_left
 ·simp only [Act.put, sqA, sqB, sqC, i64_w, i32_w]
  rfl
 refine take_ (i := 3) (N := some 8) (v := ?_) (a' := ?_) #[I,I,I,I,O,I,I,O,I,I,O,O,I,I,O,I,I,O,O,I,O,I,O,O,O,O,O,O] rfl rfl (take_ofW HT_.out HW_.out (by kernel_rfl)) (fun _ _ _ h => h) (Or.inl ⟨by rfl, ?_⟩) hHeld ?_ ?_
 rotate_left
 ·rintro w' ⟨s0, s1, s2, s3, s4, s5, s6, s7, s8, s9⟩
  go_simp
  with_reducible rfl
 rotate_left
 ·simp only [Act.put, sqA, sqB, sqC, i64_w, i32_w]
  rfl
 refine take_ (i := 7) (N := some 12) (v := ?_) (a' := ?_) #[I,I,I,I,O,I,I,I,I,I,O,O,I,I,O,I,I,O,O,I,O,I,O,O,O,O,O,O] rfl rfl (take_ofW HT_.out HW_.out (by kernel_rfl)) (fun _ _ _ h => h) (Or.inl ⟨by rfl, ?_⟩) hHeld ?_ ?_
 rotate_left
 ·rintro w' ⟨s0, s1, s2, s3, s4, s5, s6, s7, s8, s9⟩
  go_simp
  with_reducible rfl
 rotate_left
 ·simp only [Act.put, sqA, sqB, sqC, i64_w, i32_w]
  rfl
 refine take_ (i := 10) (N := some 15) (v := ?_) (a' := ?_) #[I,I,I,I,O,I,I,I,I,I,I,O,I,I,O,I,I,O,O,I,O,I,O,O,O,O,O,O] rfl rfl (take_ofW HT_.out HW_.out (by kernel_rfl)) (fun _ _ _ h => h) (Or.inl ⟨by rfl, ?_⟩) hHeld ?_ ?_
 rotate_left
 ·rintro w' ⟨s0, s1, s2, s3, s4, s5, s6, s7, s8, s9⟩
  go_simp
  with_reducible rfl
 rotate_left
 ·simp only [Act.put, sqA, sqB, sqC, i64_w, i32_w]
  rfl
 refine take_ (i := 14) (N := some 19) (v := ?_) (a' := ?_) #[I,I,I,I,O,I,I,I,I,I,I,O,I,I,I,I,I,O,O,I,O,I,O,O,O,O,O,O] rfl rfl (take_ofW HT_.out HW_.out (by kernel_rfl)) (fun _ _ _ h => h) (Or.inl ⟨by rfl, ?_⟩) hHeld ?_ ?_
 rotate_left
 ·rintro w' ⟨s0, s1, s2, s3, s4, s5, s6, s7, s8, s9⟩
  go_simp
  with_reducible rfl
 rotate_left
 ·simp only [Act.put, sqA, sqB, sqC, i64_w, i32_w]
  rfl
 refine take_ (i := 17) (N := some 22) (v := ?_) (a' := ?_) #[I,I,I,I,O,I,I,I,I,I,I,O,I,I,I,I,I,I,O,I,O,I,O,O,O,O,O,O] rfl rfl (take_ofW HT_.out HW_.out (by kernel_rfl)) (fun _ _ _ h => h) (Or.inl ⟨by rfl, ?_⟩) hHeld ?_ ?_
 rotate_left
 ·rintro w' ⟨s0, s1, s2, s3, s4, s5, s6, s7, s8, s9⟩
  go_simp
  with_reducible rfl
 rotate_left
 ·simp only [Act.put, sqA, sqB, sqC, i64_w, i32_w]
  rfl
 refine take_ (i := 20) (N := some 25) (v := ?_) (a' := ?_) #[I,I,I,I,O,I,I,I,I,I,I,O,I,I,I,I,I,I,O,I,I,I,O,O,O,O,O,O] rfl rfl (take_ofW HT_.out HW_.out (by kernel_rfl)) (fun _ _ _ h => h) (Or.inl ⟨by rfl, ?_⟩) hHeld ?_ ?_
 rotate_left
 ·rintro w' ⟨s0, s1, s2, s3, s4, s5, s6, s7, s8, s9⟩
  go_simp
  with_reducible rfl
 rotate_left
 ·simp only [Act.put, sqA, sqB, sqC, i64_w, i32_w]
  rfl
 refine take_ (i := 22) (N := some 27) (v := ?_) (a' := ?_) #[I,I,I,I,O,I,I,I,I,I,I,O,I,I,I,I,I,I,O,I,I,I,I,O,O,O,O,O] rfl rfl (take_ofW HT_.out HW_.out (by kernel_rfl)) (fun _ _ _ h => h) (Or.inl ⟨by rfl, ?_⟩) hHeld ?_ ?_
 rotate_left
 ·rintro w' ⟨s0, s1, s2, s3, s4, s5, s6, s7, s8, s9⟩
  go_simp
  with_reducible rfl
 rotate_left
 ·simp only [Act.put, sqA, sqB, sqC, i64_w, i32_w]
  rfl
 refine one_ (i := 4) (N := some 9) #[I,I,I,I,I,I,I,I,I,I,I,O,I,I,I,I,I,I,O,I,I,I,I,O,O,O,O,O] rfl rfl (one_of HT_.out (by kernel_rfl)) (by decide) (fun K hK => ?_)
 refine goes_ Tryz.func129 (by kernel_rfl) rfl #[.int .i64 a0_2, .int .i64 a1_2] (by rfl) rfl rfl (by (try simp only [List.map_toArray, List.map_cons, List.map_nil]); first | done | rfl | (simp only [List.length_drop, List.length_take]; rfl)) ?_
 with_reducible refine (cmp_Compare_int.calls a0_2 a1_2 t125 _ A3.out).mono ?_
 rintro e w' ⟨rfl, ⟨nd, rfl⟩⟩
 refine ⟨_, rfl, ?_⟩
 refine hK.out _ _ ⟨(blk_cell BK123.out 0).trans rfl, (blk_cell BK123.out 1).trans rfl, (blk_cell BK123.out 2).trans rfl, (blk_cell BK123.out 3).trans rfl, (blk_cell BK123.out 4).trans rfl, (blk_cell BK124.out 0).trans rfl, (blk_cell BK124.out 1).trans rfl, (blk_cell BK124.out 2).trans rfl, (blk_cell BK124.out 3).trans rfl, (blk_cell BK124.out 4).trans rfl⟩ (fun hHeld => ?_)
 clear hK K
 refine norm_ (a' := ?_) ?_ ?_
 rotate_left
 ·show Act.put _ (some 9) _ = _
  simp only [Act.put, sqA, sqB, sqC, i64_w, i32_w]
  rfl
 refine one_ (i := 11) (N := some 16) #[I,I,I,I,I,I,I,I,I,I,I,I,I,I,I,I,I,I,O,I,I,I,I,O,O,O,O,O] rfl rfl (one_of HT_.out (by kernel_rfl)) (by decide) (fun K hK => ?_)
 refine goes_ Tryz.func129 (by kernel_rfl) rfl #[.int .i64 a0_3, .int .i64 a1_3] (by rfl) rfl rfl (by (try simp only [List.map_toArray, List.map_cons, List.map_nil]); first | done | rfl | (simp only [List.length_drop, List.length_take]; rfl)) ?_
 with_reducible refine (cmp_Compare_int.calls a0_3 a1_3 t126 _ A4.out).mono ?_
 rintro e w' ⟨rfl, ⟨nd, rfl⟩⟩
 refine ⟨_, rfl, ?_⟩
 refine hK.out _ _ ⟨(blk_cell BK123.out 0).trans rfl, (blk_cell BK123.out 1).trans rfl, (blk_cell BK123.out 2).trans rfl, (blk_cell BK123.out 3).trans rfl, (blk_cell BK123.out 4).trans rfl, (blk_cell BK124.out 0).trans rfl, (blk_cell BK124.out 1).trans rfl, (blk_cell BK124.out 2).trans rfl, (blk_cell BK124.out 3).trans rfl, (blk_cell BK124.out 4).trans rfl⟩ (fun hHeld => ?_)
 clear hK K
 refine norm_ (a' := ?_) ?_ ?_
 rotate_left
 ·show Act.put _ (some 16) _ = _
  simp only [Act.put, sqA, sqB, sqC, i64_w, i32_w]
  rfl
 refine one_ (i := 18) (N := some 23) #[I,I,I,I,I,I,I,I,I,I,I,I,I,I,I,I,I,I,I,I,I,I,I,O,O,O,O,O] rfl rfl (one_of HT_.out (by kernel_rfl)) (by decide) (fun K hK => ?_)
 refine goes_ Tryz.func129 (by kernel_rfl) rfl #[.int .i64 a0_4, .int .i64 a1_4] (by rfl) rfl rfl (by (try simp only [List.map_toArray, List.map_cons, List.map_nil]); first | done | rfl | (simp only [List.length_drop, List.length_take]; rfl)) ?_
 with_reducible refine (cmp_Compare_int.calls a0_4 a1_4 t127 _ A5.out).mono ?_
 rintro e w' ⟨rfl, ⟨nd, rfl⟩⟩
 refine ⟨_, rfl, ?_⟩
 refine hK.out _ _ ⟨(blk_cell BK123.out 0).trans rfl, (blk_cell BK123.out 1).trans rfl, (blk_cell BK123.out 2).trans rfl, (blk_cell BK123.out 3).trans rfl, (blk_cell BK123.out 4).trans rfl, (blk_cell BK124.out 0).trans rfl, (blk_cell BK124.out 1).trans rfl, (blk_cell BK124.out 2).trans rfl, (blk_cell BK124.out 3).trans rfl, (blk_cell BK124.out 4).trans rfl⟩ (fun hHeld => ?_)
 clear hK K
 refine norm_ (a' := ?_) ?_ ?_
 rotate_left
 ·show Act.put _ (some 23) _ = _
  simp only [Act.put, sqA, sqB, sqC, i64_w, i32_w]
  rfl
 refine one_ (i := 23) (N := some 28) #[I,I,I,I,I,I,I,I,I,I,I,I,I,I,I,I,I,I,I,I,I,I,I,I,O,O,O,O] rfl rfl (one_of HT_.out (by kernel_rfl)) (by decide) (fun K hK => ?_)
 refine goes_ Tryz.func128 (by kernel_rfl) rfl #[.string a0_1, .string a1_1] (by rfl) rfl rfl (by (try simp only [List.map_toArray, List.map_cons, List.map_nil]); first | done | rfl | (simp only [List.length_drop, List.length_take]; rfl)) ?_
 with_reducible refine (cmp_Compare_string.calls a0_1 a1_1 t128 _ A6.out).mono ?_
 rintro e w' ⟨rfl, ⟨nd, rfl⟩⟩
 refine ⟨_, rfl, ?_⟩
 refine hK.out _ _ ⟨(blk_cell BK123.out 0).trans rfl, (blk_cell BK123.out 1).trans rfl, (blk_cell BK123.out 2).trans rfl, (blk_cell BK123.out 3).trans rfl, (blk_cell BK123.out 4).trans rfl, (blk_cell BK124.out 0).trans rfl, (blk_cell BK124.out 1).trans rfl, (blk_cell BK124.out 2).trans rfl, (blk_cell BK124.out 3).trans rfl, (blk_cell BK124.out 4).trans rfl⟩ (fun hHeld => ?_)
 clear hK K
 refine norm_ (a' := ?_) ?_ ?_
 rotate_left
 ·show Act.put _ (some 28) _ = _
  simp only [Act.put, sqA, sqB, sqC, i64_w, i32_w]
  rfl
 refine one_ (i := 24) (N := some 29) #[I,I,I,I,I,I,I,I,I,I,I,I,I,I,I,I,I,I,I,I,I,I,I,I,I,O,O,O] rfl rfl (one_of HT_.out (by kernel_rfl)) (by decide) (fun K hK => ?_)
 refine Kd.R_lit_step (Kd.int .i64) _ 3 ?hg (N := 29) ?hd (xs := ([t125, t126, t127, t128] : List Int)) (inner := [.int .i64 t125, .int .i64 t126, .int .i64 t127, .int .i64 t128]) (ok := fun _ => True) (okp := fun _ => True) ?hr ?hp (fun _ hk => hk) trivial (Below.refl _ _) (Nat.le_refl _) (by simp) ?_; (case hd => rfl); (case hg => rfl); (case hr => first | (go_simp; done) | (go_simp; rfl)); (case hp => exact (Reps.one (show Kd.M (Kd.int .i64) _ _ _ t125 [.int .i64 t125] from rfl) (Reps.one (show Kd.M (Kd.int .i64) _ _ _ t126 [.int .i64 t126] from rfl) (Reps.one (show Kd.M (Kd.int .i64) _ _ _ t127 [.int .i64 t127] from rfl) (Reps.one (show Kd.M (Kd.int .i64) _ _ _ t128 [.int .i64 t128] from rfl) (Reps.none _ _))))))
 intro v130 w11 ho12 hb hg_ hnew_
 clear hg_ hnew_
 (first | rw [← Ny129.out] at ho12 | (simp only [Int.reduceToNat] at ho12; rw [← Ny129.out] at ho12))
 have n0_ := Aside0.mk (Kd.R_lower ho12 (below_size (by repeat (first | (with_reducible first | exact HB.out | apply below_alloc | apply pw_below_drewN | apply below_drew1 | refine below_set ?_ GE123.out | refine below_set ?_ GE124.out) | exact HB.out))))
 have n1_ := Aside0.mk (blk_below (g := gb123) (o := .cells #[.string a0_0, .string a0_1, .int .i64 a0_2, .int .i64 a0_3, .int .i64 a0_4] 47 (0, 0)) (by (with_reducible repeat (first | apply blN | apply blD | apply blA)); exact BK123.out) hb)
 have n2_ := Aside0.mk (blk_below (g := gb124) (o := .cells #[.string a1_0, .string a1_1, .int .i64 a1_2, .int .i64 a1_3, .int .i64 a1_4] 47 (0, 0)) (by (with_reducible repeat (first | apply blN | apply blD | apply blA)); exact BK124.out) hb)
 have n3_ := Aside0.mk (below_step (by repeat (first | (with_reducible first | exact HB.out | apply below_alloc | apply pw_below_drewN | apply below_drew1 | refine below_set ?_ GE123.out | refine below_set ?_ GE124.out) | exact HB.out)) hb)
 clear BK123
 clear BK124
 clear HB
 have HO131 := n0_
 have BK123 := n1_
 have BK124 := n2_
 have HB := n3_
 clear n0_ n1_ n2_ n3_
 clear hb ho12
 obtain ⟨Ao13, co13, eo13⟩ := Kd.R_slice HO131.out
 (first | subst eo13 | (injection eo13 with f1_ f2_ f3_; have f4_ := f1_.symm; have f5_ := f3_.symm; clear f1_ f2_ f3_; subst f4_; subst f5_))
 refine hK.out _ _ ⟨(blk_cell BK123.out 0).trans rfl, (blk_cell BK123.out 1).trans rfl, (blk_cell BK123.out 2).trans rfl, (blk_cell BK123.out 3).trans rfl, (blk_cell BK123.out 4).trans rfl, (blk_cell BK124.out 0).trans rfl, (blk_cell BK124.out 1).trans rfl, (blk_cell BK124.out 2).trans rfl, (blk_cell BK124.out 3).trans rfl, (blk_cell BK124.out 4).trans rfl⟩ (fun hHeld => ?_)
 clear hK K
 refine norm_ (a' := ?_) ?_ ?_
 rotate_left
 ·show Act.put _ (some 29) _ = _
  simp only [Act.put, sqA, sqB, sqC, i64_w, i32_w]
  rfl
 refine one_ (i := 25) (N := some 30) #[I,I,I,I,I,I,I,I,I,I,I,I,I,I,I,I,I,I,I,I,I,I,I,I,I,I,O,O] rfl rfl (one_of HT_.out (by kernel_rfl)) (by decide) (fun K hK => ?_)
 refine goes_ Tryz.func127 (by kernel_rfl) rfl #[.slice Ao13 y129.length co13] (by rfl) rfl rfl (by (try simp only [List.map_toArray, List.map_cons, List.map_nil]); first | done | rfl | (simp only [List.length_drop, List.length_take]; rfl)) ?_
 with_reducible refine (cmp_Or_int.calls k _ _ y129 t132 _ ?side1 ?side2 A7.out).mono ?_
 (case side1 => repeat (first | exact (Kd.R_reads' HO131.out).2.2 | (with_reducible refine Kd.C_alloc ?_ _) | (with_reducible refine Kd.C_drewN ?_ _) | (with_reducible refine Kd.C_drew ?_)))
 (case side2 => exact (Kd.R_reads' HO131.out).2.1)
 rintro e w' ⟨rfl, ⟨nd, rfl⟩⟩
 refine ⟨_, rfl, ?_⟩
 refine hK.out _ _ ⟨(blk_cell BK123.out 0).trans rfl, (blk_cell BK123.out 1).trans rfl, (blk_cell BK123.out 2).trans rfl, (blk_cell BK123.out 3).trans rfl, (blk_cell BK123.out 4).trans rfl, (blk_cell BK124.out 0).trans rfl, (blk_cell BK124.out 1).trans rfl, (blk_cell BK124.out 2).trans rfl, (blk_cell BK124.out 3).trans rfl, (blk_cell BK124.out 4).trans rfl⟩ (fun hHeld => ?_)
 clear hK K
 refine norm_ (a' := ?_) ?_ ?_
 rotate_left
 ·show Act.put _ (some 30) _ = _
  simp only [Act.put, sqA, sqB, sqC, i64_w, i32_w]
  rfl
 refine sqP (i := 26) (N := some 31) (v := ?_) (a' := ?_) #[I,I,I,I,I,I,I,I,I,I,I,I,I,I,I,I,I,I,I,I,I,I,I,I,I,I,I,O] rfl rfl HT_.out (Or.inl ⟨by rfl, ?_⟩) ?_ ?_
 rotate_left
 ·intro w'
  go_simp
  with_reducible rfl
 rotate_left
 ·simp only [Act.put, sqA, sqB, sqC, i64_w, i32_w]
  rfl
 refine sqP (i := 27) (N := some 4) (v := ?_) (a' := ?_) #[I,I,I,I,I,I,I,I,I,I,I,I,I,I,I,I,I,I,I,I,I,I,I,I,I,I,I,I] rfl rfl HT_.out (Or.inl ⟨by rfl, ?_⟩) ?_ ?_
 rotate_left
 ·intro w'
  go_simp
  with_reducible rfl
 rotate_left
 ·simp only [Act.put, sqA, sqB, sqC, i64_w, i32_w]
  rfl
 refine done_ (done_of HT_.out (by kernel_rfl)) ?_
 try go_wp2
 go_ret
 exact ⟨by first | rfl | (simp [errW_none, errW_some] <;> rfl) | (simp [*, errW_none, errW_some] <;> rfl), by repeat (first | (with_reducible first | exact HB.out | apply below_alloc | apply pw_below_drewN | apply below_drew1 | refine below_set ?_ GE123.out | refine below_set ?_ GE124.out) | exact HB.out)⟩

end Go.Proofs.YtmcddoolniaehaaGreat.S
end
section
namespace Go.Proofs.YtmcddoolniaehaaGreat.S
open Go.RowKit Go.Proofs.YtmcddoolniaehaaGreatW.PrintWords Go.Proofs.YtmcddoolniaehaaGreatW.PrintLast Go.Proofs.YtmcddoolniaehaaGreatW.PrintMore Go.Proofs.YtmcddoolniaehaaGreatW
set_option linter.unusedVariables false
set_option linter.unusedSimpArgs false
def newerB (a b : S47) : Bool :=
  if a.f2 = b.f2 then if a.f3.f0 = b.f3.f0 then if a.f3.f1 = b.f3.f1 then Op.bytesLess b.f1.toList a.f1.toList else decide (b.f3.f1 < a.f3.f1) else decide (b.f3.f0 < a.f3.f0) else decide (b.f2 < a.f2)
def cmpI (a b : Int) : Int := if a < b then -1 else if b < a then 1 else 0
theorem cmpI_f (a b : Int) : cmp_Compare_int.f a b = some (cmpI a b) := by
  simp only [cmp_Compare_int.f, cmp_isNaN_int.f, Option.bind_some, bne_self_eq_false, Bool.false_eq_true, if_false, cmpI]
  split
  · rfl
  · split <;> rfl
theorem or_step (k : Nat) (l : List Int) (i : Int) (h0 : 0 ≤ i) (h1 : i < (l.length : Int)) : cmp_Or_int.l0 (k + 1) 0 l (l.length : Int) i = if rd l i = 0 then cmp_Or_int.l0 k 0 l (l.length : Int) (wrap64 (i + 1)) else some (rd l i) := by
  simp only [cmp_Or_int.l0]
  rw [if_pos h1, if_pos h0, if_pos h1]
theorem or_end (k : Nat) (l : List Int) (i : Int) (h1 : ¬ i < (l.length : Int)) : cmp_Or_int.l0 (k + 1) 0 l (l.length : Int) i = some 0 := by
  simp only [cmp_Or_int.l0]
  rw [if_neg h1]
theorem cmp_Or4 (a b c d : Int) : cmp_Or_int.f 5 [a, b, c, d] = some (if a = 0 then if b = 0 then if c = 0 then if d = 0 then 0 else d else c else b else a) := by
  have w1 : wrap64 (0 + 1) = 1 := by unfold wrap64; omega
  have w2 : wrap64 (1 + 1) = 2 := by unfold wrap64; omega
  have w3 : wrap64 (2 + 1) = 3 := by unfold wrap64; omega
  have w4 : wrap64 (3 + 1) = 4 := by unfold wrap64; omega
  have r0 : rd [a, b, c, d] 0 = a := rfl
  have r1 : rd [a, b, c, d] 1 = b := rfl
  have r2 : rd [a, b, c, d] 2 = c := rfl
  have r3 : rd [a, b, c, d] 3 = d := rfl
  show cmp_Or_int.l0 (4 + 1) 0 [a, b, c, d] _ 0 = _
  rw [or_step 4 _ 0 (by omega) (by simp), w1, r0, or_step 3 _ 1 (by omega) (by simp), w2, r1, or_step 2 _ 2 (by omega) (by simp), w3, r2, or_step 1 _ 3 (by omega) (by simp), w4, r3, or_end 0 _ 4 (by simp)]
  split <;> (try rfl)
  split <;> (try rfl)
  split <;> (try rfl)
  split <;> rfl
theorem newer_f (a b : S47) : reg_Newer.f 5 a.f0 a.f1 a.f2 a.f3.f0 a.f3.f1 b.f0 b.f1 b.f2 b.f3.f0 b.f3.f1 = some (newerB a b) := by
  unfold reg_Newer.f
  rw [cmpI_f, cmpI_f, cmpI_f, cmpS_f]
  rw [Option.bind_some, Option.bind_some, Option.bind_some, Option.bind_some, cmp_Or4, Option.bind_some]
  congr 1
  unfold newerB
  have hI : ∀ x y : Int, (cmpI x y = 0 ↔ x = y) ∧ (0 < cmpI x y ↔ y < x) := by
    intro x y
    unfold cmpI
    split
    · omega
    · split <;> omega
  have hS : ∀ x y : ByteArray, 0 < cmpS x y ↔ Op.bytesLess y.toList x.toList = true := by
    intro x y
    unfold cmpS
    split
    · rename_i h; have := less_asymm h; simp [this]
    · split <;> simp [*]
  obtain ⟨p1, p2⟩ := hI a.f2 b.f2
  obtain ⟨q1, q2⟩ := hI a.f3.f0 b.f3.f0
  obtain ⟨s1, s2⟩ := hI a.f3.f1 b.f3.f1
  have t2 := hS a.f1 b.f1
  by_cases h1 : a.f2 = b.f2
  · rw [if_pos (p1.2 h1), if_pos h1]
    by_cases h2 : a.f3.f0 = b.f3.f0
    · rw [if_pos (q1.2 h2), if_pos h2]
      by_cases h3 : a.f3.f1 = b.f3.f1
      · rw [if_pos (s1.2 h3), if_pos h3]
        have e : (if cmpS a.f1 b.f1 = 0 then (0 : Int) else cmpS a.f1 b.f1) = cmpS a.f1 b.f1 := by split <;> simp_all
        rw [e]
        rw [Bool.eq_iff_iff]
        simpa using t2
      · rw [if_neg (fun h => h3 (s1.1 h)), if_neg h3]; exact decide_eq_decide.2 s2
    · rw [if_neg (fun h => h2 (q1.1 h)), if_neg h2]; exact decide_eq_decide.2 q2
  · rw [if_neg (fun h => h1 (p1.1 h)), if_neg h1]; exact decide_eq_decide.2 p2
def putL (l : List S47) (r : S47) : List S47 :=
  if regIs r.f0 l then (if newerB r (rd_T47 l (regPos r.f0 l : Nat)) then l.set (regPos r.f0 l) r else l) else l.take (regPos r.f0 l) ++ r :: l.drop (regPos r.f0 l)
theorem regRow_set : ∀ (l : List S47) (i : Nat) (r : S47), i < l.length → regRow (l.set i r) = (((((regRow l).set (i * 5) (.string r.f0)).set (i * 5 + 1) (.string r.f1)).set (i * 5 + 2) (.int .i64 r.f2)).set (i * 5 + 3) (.int .i64 r.f3.f0)).set (i * 5 + 4) (.int .i64 r.f3.f1)
  | [], i, r, h => by simp at h
  | x :: l, 0, r, _ => by
    simp only [List.set_cons_zero, regRow, List.flatMap_cons, regCells, List.cons_append, List.nil_append, Nat.zero_mul, Nat.zero_add]
    rfl
  | x :: l, i + 1, r, h => by
    have ih := regRow_set l i r (by simpa using h)
    have e : ∀ j : Nat, (i + 1) * 5 + j = (i * 5 + j) + 1 + 1 + 1 + 1 + 1 := fun j => by omega
    have e0 : (i + 1) * 5 = (i * 5) + 1 + 1 + 1 + 1 + 1 := by omega
    rw [List.set_cons_succ]
    show regCells x ++ regRow (l.set i r) = _
    rw [ih, e 1, e 2, e 3, e 4, e0]
    show _ = (((((regCells x ++ regRow l).set _ _).set _ _).set _ _).set _ _).set _ _
    simp only [regCells, List.cons_append, List.nil_append, List.set_cons_succ]
theorem own_reads_reg {w : World} {base : Nat} {v : Value} {l : List S47} (h : w.ownsRow base 47 5 v l.length (regRow l)) : ∃ A c, v = .slice A l.length c ∧ l.length ≤ c ∧ k47.C w A l.length l := by
  obtain ⟨A, c, h1, h2, h3⟩ := Kd.R_reads (R_reg h)
  exact ⟨A, c, h1, h2, h3⟩
theorem below_alloc' {w w1 : World} (h : Below w.heap.size w w1) (o : Obj) : Below w.heap.size w (w1.alloc o) := below_alloc h o
set_option maxHeartbeats 4000000 in
set_option maxRecDepth 100000 in
theorem put_new (w0 : World) (gb : Nat) (v : Value) (l : List S47) (r : S47) (w : World) (hB : Below w0.heap.size w0 w) (hbase : w0.heap.size ≤ gb) (hg : w.heap[gb]? = some (.cells #[v] 127 (0, 0))) (ho : w.ownsRow w0.heap.size 47 5 v l.length (regRow l)) (hup : RegUp l) (hlim : (l.length + 1) * 56 ≤ 140737488355328)
    (his : regIs r.f0 l = false) :
    Calls Tryz.prog 113 #[.pointer (some ⟨gb, 0, none⟩), .agg #[.string r.f0, .string r.f1, .int .i64 r.f2, .int .i64 r.f3.f0, .int .i64 r.f3.f1]] w fun e w' => e = .returned (.tuple #[]) ∧ ∃ v', w'.heap[gb]? = some (.cells #[v'] 127 (0, 0)) ∧ w'.ownsRow w0.heap.size 47 5 v' (putL l r).length (regRow (putL l r)) ∧ Below w0.heap.size w0 w' := by
  obtain ⟨A, c, rfl, hlc, hC⟩ := own_reads_reg ho
  have hgc : w.cell? ⟨gb, 0, none⟩ = some (.slice A l.length c) := (blk_cell hg 0).trans rfl
  have hglt := blk_lt hg
  have HF := fun (W : World) (h : Below w.heap.size w W) => reg_find r.f0 A c l W (Kd.C_below hC h) hup (by omega)
  have HFA := Aside0.mk HF
  clear HF
  have hne : gb ≠ w.heap.size := by omega
  have HP := Aside0.mk (show putL l r = l.take (regPos r.f0 l) ++ r :: l.drop (regPos r.f0 l) by simp [putL, his])
  have HO := Aside0.mk ho
  have HG := Aside0.mk hg
  have HB := Aside0.mk hB
  clear ho hg hB hC hup
  rw [his] at HFA
  go_enter Tryz.func113, Tryz.ntmps113
  go_wp2_with fail
  go_region_held3 (fun w' => w'.cell? ⟨gb, 0, none⟩ = some (.slice A l.length c) ∧ w'.cell? ⟨w.heap.size, 0, none⟩ = some (.string r.f0))
    (first
      | go_keep
      | (exact ⟨(hb.cell (p := ⟨gb, 0, none⟩) (by simp; omega)).trans (by go_simp), (hb.cell (p := ⟨w.heap.size, 0, none⟩) (by simp)).trans (by go_simp)⟩))
    (first | (go_at_call 122; refine (HFA.out _ ?hz).mono ?_; (case hz => repeat (first | exact Below.refl _ _ | apply below_alloc | apply pw_below_drewN | apply below_drew)); rintro e w1 ⟨rfl, hb⟩))
  have hw1 : Below w.heap.size w w1 := below_step (below_drew (below_alloc (Below.refl _ _) _)) hb
  have hbox := blk_below (blk_drew (blk_new w (.cells #[.string r.f0, .string r.f1, .int .i64 r.f2, .int .i64 r.f3.f0, .int .i64 r.f3.f1] 47))) hb
  have hboxlt := blk_lt hbox
  have hgb := blk_below HG.out hw1
  have ho1 := pw_own_below HO.out hw1
  have HB1 := Aside0.mk (below_then HB.out HB.out.size hw1)
  have hrow := Kd.R_ne (R_reg ho1) hgb (by decide)
  have hc0 := (blk_cell hbox 0).trans rfl
  have hc1 := (blk_cell hbox 1).trans rfl
  have hc2 := (blk_cell hbox 2).trans rfl
  have hc3 := (blk_cell hbox 3).trans rfl
  have hc4 := (blk_cell hbox 4).trans rfl
  have hgc1 := (blk_cell hgb 0).trans rfl
  have hgf1 := blk_frozen hgb 0
  have hg1lt := blk_lt hgb
  have hsz1 := hw1.size
  have HO1 := Aside0.mk ho1
  have HROW := Aside0.mk hrow
  have HGB := Aside0.mk hgb
  have HI := fun (W : World) => ins_calls w0.heap.size (.slice A l.length c) l.length (regPos r.f0 l) (regRow l) W
  have HBX := Aside0.mk hbox
  have HNB := Aside0.mk (show some w.heap.size ≠ (Value.slice A l.length c).ownBlock from fun e => by have := own_lt HO.out w.heap.size e.symm; omega)
  clear hb hbox hgb ho1 hw1 hrow hgc HG HO HB HFA
  have hne1 : gb ≠ w1.heap.size := by omega
  have hne2 : w.heap.size ≠ w1.heap.size := by omega
  go_wp2_with fail
  go_region_law (first | (go_simp; go_at_call 123; refine (HI _ ?ho ?hb (regPos_le _ _) (flat_one regCells_one l) w1.heap.size (regCells r) rfl (regCells_one r) ?hx ?hn hlim).mono ?_; (case ho => exact (HO1.out.alloc _).drew); (case hb => simp; omega); (case hx => exact blk_drew (blk_new _ _)); (case hn => exact fun e => by have := own_lt HO1.out _ e; omega); rintro e w2 ⟨v', rfl, ho2, hg2, hat2⟩; obtain ⟨A2, c2, rfl⟩ := own_slice ho2; have hgb2 := blk_grown (blk_drew (blk_alloc HGB.out _)) hg2 HROW.out; have hz0 := (blk_cell hgb2 0).trans rfl; have hf0 := blk_frozen hgb2 0; have HGB2 := Aside0.mk hgb2; have HO2 := Aside0.mk ho2; have HG2 := Aside0.mk hg2; clear hgb2 ho2 hg2 hat2))
  all_goals
    go_wp2
    go_end0
    refine ⟨rfl, _, blk_set HGB2.out 0 _, ?_, ?_⟩
    · have e1 : (putL l r).length = l.length + 1 := by rw [HP.out]; have := regPos_le r.f0 l; simp; omega
      have e2 : regRow (putL l r) = (regRow l).take (regPos r.f0 l * 5) ++ regCells r ++ (regRow l).drop (regPos r.f0 l * 5) := by
        rw [HP.out]
        unfold regRow
        rw [flat_take (sz := 5) (fun _ => rfl), flat_drop (sz := 5) (fun _ => rfl), List.flatMap_append, List.flatMap_cons, List.append_assoc]
      rw [e1, e2]
      refine own_move HO2.out (fun k hk => Below.heap_setCell _ _ _ _ ?_)
      have q := Kd.R_ne (R_of_cells (d := k47) (ok := fun _ => True) (xs := putL l r) (enc := regCells) regCells_length (fun w base ok x => k47_mkM w base ok x) (by rw [e1]; unfold regRow at e2; rw [e2]; exact HO2.out) (fun _ _ => trivial)) HGB2.out (by decide)
      intro e
      exact q (by rw [hk, e])
    · refine Below.setCell ?_ hbase _
      exact (below_drew (below_alloc' HB1.out _)).grown HG2.out (by simp; omega) (own_base HO1.out)
set_option maxHeartbeats 4000000 in
set_option maxRecDepth 100000 in
theorem put_old (w0 : World) (gb : Nat) (v : Value) (l : List S47) (r : S47) (w : World) (hB : Below w0.heap.size w0 w) (hbase : w0.heap.size ≤ gb) (hg : w.heap[gb]? = some (.cells #[v] 127 (0, 0))) (ho : w.ownsRow w0.heap.size 47 5 v l.length (regRow l)) (hup : RegUp l) (hlim : (l.length + 1) * 56 ≤ 140737488355328)
    (his : regIs r.f0 l = true) :
    Calls Tryz.prog 113 #[.pointer (some ⟨gb, 0, none⟩), .agg #[.string r.f0, .string r.f1, .int .i64 r.f2, .int .i64 r.f3.f0, .int .i64 r.f3.f1]] w fun e w' => e = .returned (.tuple #[]) ∧ ∃ v', w'.heap[gb]? = some (.cells #[v'] 127 (0, 0)) ∧ w'.ownsRow w0.heap.size 47 5 v' (putL l r).length (regRow (putL l r)) ∧ Below w0.heap.size w0 w' := by
  have hpos : regPos r.f0 l < l.length := by unfold regIs at his; simp at his; exact his.1
  obtain ⟨g, c, rfl, hgb0, hglt0⟩ := ho.form (by omega)
  obtain ⟨A, c', e, hlc, hC⟩ := own_reads_reg ho
  cases e
  have hgc : w.cell? ⟨gb, 0, none⟩ = some (.slice (some ⟨g, 0, none⟩) l.length c) := (blk_cell hg 0).trans rfl
  have hglt := blk_lt hg
  have HF := fun (W : World) (h : Below w.heap.size w W) => reg_find r.f0 (some ⟨g, 0, none⟩) c l W (Kd.C_below hC h) hup (by omega)
  have HFA := Aside0.mk HF
  clear HF
  have hne : gb ≠ w.heap.size := by omega
  have HP := Aside0.mk (show putL l r = if newerB r (rd_T47 l (regPos r.f0 l : Nat)) then l.set (regPos r.f0 l) r else l by simp [putL, his])
  obtain ⟨ad, ead, hx0, hx1, hx2, hx3, hx4⟩ := at_T47 hC (regPos r.f0 l : Nat) (by omega) (by omega)
  cases ead
  simp only [Int.toNat_natCast, add_plain] at hx0 hx1 hx2 hx3 hx4
  have hbx0 := World.block_lt_of_cell? w _ hx0
  have hbx1 := World.block_lt_of_cell? w _ hx1
  have hbx2 := World.block_lt_of_cell? w _ hx2
  have hbx3 := World.block_lt_of_cell? w _ hx3
  have hbx4 := World.block_lt_of_cell? w _ hx4
  have HX := Aside0.mk (And.intro (And.intro hx0 hbx0) (And.intro (And.intro hx1 hbx1) (And.intro (And.intro hx2 hbx2) (And.intro (And.intro hx3 hbx3) (And.intro hx4 hbx4)))))
  clear hx0 hx1 hx2 hx3 hx4 hbx0 hbx1 hbx2 hbx3 hbx4
  have HN := Aside0.mk (fun W => reg_Newer.calls 5 r.f0 r.f1 r.f2 r.f3.f0 r.f3.f1 _ _ _ _ _ _ W (newer_f r (rd_T47 l (regPos r.f0 l : Nat))))
  have HO := Aside0.mk ho
  have HG := Aside0.mk hg
  have HB := Aside0.mk hB
  clear ho hg hB hC hup
  rw [his] at HFA
  go_enter Tryz.func113, Tryz.ntmps113
  go_wp2_with fail
  go_region_held3 (fun w' => w'.cell? ⟨gb, 0, none⟩ = some (.slice (some ⟨g, 0, none⟩) l.length c) ∧ w'.cell? ⟨w.heap.size, 0, none⟩ = some (.string r.f0))
    (first
      | go_keep
      | (exact ⟨(hb.cell (p := ⟨gb, 0, none⟩) (by simp; omega)).trans (by go_simp), (hb.cell (p := ⟨w.heap.size, 0, none⟩) (by simp)).trans (by go_simp)⟩))
    (first | (go_at_call 122; refine (HFA.out _ ?hz).mono ?_; (case hz => repeat (first | exact Below.refl _ _ | apply below_alloc | apply pw_below_drewN | apply below_drew)); rintro e w1 ⟨rfl, hb⟩))
  have hw1 : Below w.heap.size w w1 := below_step (below_drew (below_alloc (Below.refl _ _) _)) hb
  have hbox := blk_below (blk_drew (blk_new w (.cells #[.string r.f0, .string r.f1, .int .i64 r.f2, .int .i64 r.f3.f0, .int .i64 r.f3.f1] 47))) hb
  have hboxlt := blk_lt hbox
  have hgb := blk_below HG.out hw1
  have ho1 := pw_own_below HO.out hw1
  have HB1 := Aside0.mk (below_then HB.out HB.out.size hw1)
  have hrow := Kd.R_ne (R_reg ho1) hgb (by decide)
  have hc0 : w1.cell? ⟨w.heap.size, 0, none⟩ = some (.string r.f0) := blk_cell hbox 0
  have hc1 : w1.cell? ⟨w.heap.size, 1, none⟩ = some (.string r.f1) := blk_cell hbox 1
  have hc2 : w1.cell? ⟨w.heap.size, 2, none⟩ = some (.int .i64 r.f2) := blk_cell hbox 2
  have hc3 : w1.cell? ⟨w.heap.size, 3, none⟩ = some (.int .i64 r.f3.f0) := blk_cell hbox 3
  have hc4 : w1.cell? ⟨w.heap.size, 4, none⟩ = some (.int .i64 r.f3.f1) := blk_cell hbox 4
  have hgc1 : w1.cell? ⟨gb, 0, none⟩ = some (.slice (some ⟨g, 0, none⟩) l.length c) := blk_cell hgb 0
  have hg1 : g < w1.heap.size := Nat.lt_of_lt_of_le hglt0 hw1.size
  have hgbl1 : gb < w1.heap.size := Nat.lt_of_lt_of_le hglt hw1.size
  have hx0 := (hw1.cell (p := ⟨g, regPos r.f0 l * 5, none⟩) HX.out.1.2).trans HX.out.1.1
  have hx1 := (hw1.cell (p := ⟨g, regPos r.f0 l * 5 + 1, none⟩) HX.out.2.1.2).trans HX.out.2.1.1
  have hx2 := (hw1.cell (p := ⟨g, regPos r.f0 l * 5 + 2, none⟩) HX.out.2.2.1.2).trans HX.out.2.2.1.1
  have hx3 := (hw1.cell (p := ⟨g, regPos r.f0 l * 5 + 3, none⟩) HX.out.2.2.2.1.2).trans HX.out.2.2.2.1.1
  have hx4 := (hw1.cell (p := ⟨g, regPos r.f0 l * 5 + 4, none⟩) HX.out.2.2.2.2.2).trans HX.out.2.2.2.2.1
  have HO1 := Aside0.mk ho1
  have HROW := Aside0.mk hrow
  have HGB := Aside0.mk hgb
  have HBX := Aside0.mk hbox
  have HNB := Aside0.mk (show some w.heap.size ≠ (Value.slice (some ⟨g, 0, none⟩) l.length c).ownBlock from fun e => by have := own_lt HO.out w.heap.size e.symm; omega)
  have hposI : ((regPos r.f0 l : Nat) : Int) < (l.length : Int) := by omega
  clear hb hbox hgb ho1 hw1 hrow hgc HG HO HB HFA HX
  go_wp2_with fail
  go_region_held3 (fun w' => w'.cell? ⟨gb, 0, none⟩ = some (.slice (some ⟨g, 0, none⟩) l.length c) ∧ w'.cell? ⟨w.heap.size, 0, none⟩ = some (.string r.f0) ∧ w'.cell? ⟨w.heap.size, 1, none⟩ = some (.string r.f1) ∧ w'.cell? ⟨w.heap.size, 2, none⟩ = some (.int .i64 r.f2) ∧ w'.cell? ⟨w.heap.size, 3, none⟩ = some (.int .i64 r.f3.f0) ∧ w'.cell? ⟨w.heap.size, 4, none⟩ = some (.int .i64 r.f3.f1) ∧ w'.cell? ⟨g, regPos r.f0 l * 5, none⟩ = some (.string (rd_T47 l (regPos r.f0 l : Nat)).f0) ∧ w'.cell? ⟨g, regPos r.f0 l * 5 + 1, none⟩ = some (.string (rd_T47 l (regPos r.f0 l : Nat)).f1) ∧ w'.cell? ⟨g, regPos r.f0 l * 5 + 2, none⟩ = some (.int .i64 (rd_T47 l (regPos r.f0 l : Nat)).f2) ∧ w'.cell? ⟨g, regPos r.f0 l * 5 + 3, none⟩ = some (.int .i64 (rd_T47 l (regPos r.f0 l : Nat)).f3.f0) ∧ w'.cell? ⟨g, regPos r.f0 l * 5 + 4, none⟩ = some (.int .i64 (rd_T47 l (regPos r.f0 l : Nat)).f3.f1))
    (first
      | go_keep
      | (exact ⟨(hb.cell (p := ⟨gb, 0, none⟩) (by simp; omega)).trans hgc1, (hb.cell (p := ⟨w.heap.size, 0, none⟩) (by simp; omega)).trans hc0, (hb.cell (p := ⟨w.heap.size, 1, none⟩) (by simp; omega)).trans hc1, (hb.cell (p := ⟨w.heap.size, 2, none⟩) (by simp; omega)).trans hc2, (hb.cell (p := ⟨w.heap.size, 3, none⟩) (by simp; omega)).trans hc3, (hb.cell (p := ⟨w.heap.size, 4, none⟩) (by simp; omega)).trans hc4, (hb.cell (p := ⟨g, regPos r.f0 l * 5, none⟩) (by simp; omega)).trans hx0, (hb.cell (p := ⟨g, regPos r.f0 l * 5 + 1, none⟩) (by simp; omega)).trans hx1, (hb.cell (p := ⟨g, regPos r.f0 l * 5 + 2, none⟩) (by simp; omega)).trans hx2, (hb.cell (p := ⟨g, regPos r.f0 l * 5 + 3, none⟩) (by simp; omega)).trans hx3, (hb.cell (p := ⟨g, regPos r.f0 l * 5 + 4, none⟩) (by simp; omega)).trans hx4⟩))
    (first | (go_at_call 124; refine (HN.out _).mono ?_; rintro e w2 ⟨rfl, hb⟩))
  have hw2 : Below w1.heap.size w1 w2 := below_step (by repeat (first | exact Below.refl _ _ | apply below_alloc | apply pw_below_drewN | apply below_drew)) hb
  have HB2 := Aside0.mk (below_then HB1.out HB1.out.size hw2)
  have HGB2 := Aside0.mk (blk_below HGB.out hw2)
  have HO2 := Aside0.mk (pw_own_below HO1.out hw2)
  have hf : ∀ j, w2.frozen? ⟨g, j, none⟩ = false := fun j => by
    obtain ⟨cells, hcl⟩ := own_typed HO2.out g rfl
    exact blk_frozen hcl j
  have hgne : g ≠ gb := fun e => HROW.out (by rw [← e]; rfl)
  have hgbn : gb ≠ g := fun e => hgne e.symm
  have hwn : w.heap.size ≠ g := by omega
  have hgwn : g ≠ w.heap.size := by omega
  clear hb hw2 HN HBX HNB HB1 HGB HO1 hc0 hc1 hc2 hc3 hc4 hx0 hx1 hx2 hx3 hx4 hgc1
  cases hnw : newerB r (rd_T47 l (regPos r.f0 l : Nat)) with
  | false =>
    have HP2 := Aside0.mk (show putL l r = l by rw [HP.out, hnw]; rfl)
    go_wp2
    go_end0
    exact ⟨rfl, _, HGB2.out, by rw [HP2.out]; exact HO2.out, HB2.out⟩
  | true =>
    have HP2 := Aside0.mk (show putL l r = l.set (regPos r.f0 l) r by rw [HP.out, hnw]; rfl)
    have hf0 := hf (regPos r.f0 l * 5)
    have hf1 := hf (regPos r.f0 l * 5 + 1)
    have hf2 := hf (regPos r.f0 l * 5 + 2)
    have hf3 := hf (regPos r.f0 l * 5 + 3)
    have hf4 := hf (regPos r.f0 l * 5 + 4)
    clear hf
    go_split_ands
    go_wp2_with fail
    go_region
    go_wp2
    go_end0
    refine ⟨rfl, _, blk_drew (blk_far (blk_far (blk_far (blk_far (blk_far HGB2.out (show gb ≠ g from hgbn) _) (show gb ≠ g from hgbn) _) (show gb ≠ g from hgbn) _) (show gb ≠ g from hgbn) _) (show gb ≠ g from hgbn) _), ?_, ?_⟩
    · rw [HP2.out, List.length_set, regRow_set l (regPos r.f0 l) r hpos]
      exact ((((((HO2.out.stored (regPos r.f0 l * 5) (.string r.f0)).1.stored (regPos r.f0 l * 5 + 1) (.string r.f1)).1.stored (regPos r.f0 l * 5 + 2) (.int .i64 r.f2)).1.stored (regPos r.f0 l * 5 + 3) (.int .i64 r.f3.f0)).1.stored (regPos r.f0 l * 5 + 4) (.int .i64 r.f3.f1)).1).drew
    · exact below_drew (Below.setCell (Below.setCell (Below.setCell (Below.setCell (Below.setCell HB2.out hgb0 _) hgb0 _) hgb0 _) hgb0 _) hgb0 _)
theorem put_calls (w0 : World) (gb : Nat) (v : Value) (l : List S47) (r : S47) (w : World) (hB : Below w0.heap.size w0 w) (hbase : w0.heap.size ≤ gb) (hg : w.heap[gb]? = some (.cells #[v] 127 (0, 0))) (ho : w.ownsRow w0.heap.size 47 5 v l.length (regRow l)) (hup : RegUp l) (hlim : (l.length + 1) * 56 ≤ 140737488355328) :
    Calls Tryz.prog 113 #[.pointer (some ⟨gb, 0, none⟩), .agg #[.string r.f0, .string r.f1, .int .i64 r.f2, .int .i64 r.f3.f0, .int .i64 r.f3.f1]] w fun e w' => e = .returned (.tuple #[]) ∧ ∃ v', w'.heap[gb]? = some (.cells #[v'] 127 (0, 0)) ∧ w'.ownsRow w0.heap.size 47 5 v' (putL l r).length (regRow (putL l r)) ∧ Below w0.heap.size w0 w' := by
  cases his : regIs r.f0 l with
  | false => exact put_new w0 gb v l r w hB hbase hg ho hup hlim his
  | true => exact put_old w0 gb v l r w hB hbase hg ho hup hlim his
end Go.Proofs.YtmcddoolniaehaaGreat.S
end
section
namespace Go.Proofs.YtmcddoolniaehaaGreat.S
open Go.RowKit Go.Proofs.YtmcddoolniaehaaGreatW.PrintWords Go.Proofs.YtmcddoolniaehaaGreatW.PrintLast Go.Proofs.YtmcddoolniaehaaGreatW.PrintMore Go.Proofs.YtmcddoolniaehaaGreatW
set_option linter.unusedVariables false
set_option linter.unusedSimpArgs false
def kLt (x y : S47) : Prop := Op.bytesLess x.f0.toList y.f0.toList = true
theorem rd_at (l : List S47) (k : Nat) (h : k < l.length) : rd_T47 l (k : Int) = l[k] := by
  simp [rd_T47, List.getD_eq_getElem?_getD, List.getElem?_eq_getElem h]
theorem regUp_iff (l : List S47) : RegUp l ↔ l.Pairwise kLt := by
  rw [List.pairwise_iff_getElem]
  constructor
  · intro h i j hi hj hij
    have := h i j hij hj
    rwa [rd_at l i hi, rd_at l j hj] at this
  · intro h i j hij hj
    have := h i j (by omega) hj hij
    rw [rd_at l i (by omega), rd_at l j hj]; exact this
def regUpB : List S47 → Bool
  | [] => true
  | x :: l => (match l with | [] => true | y :: _ => Op.bytesLess x.f0.toList y.f0.toList) && regUpB l
theorem regUpB_up : ∀ l, regUpB l = true → l.Pairwise kLt
  | [], _ => List.Pairwise.nil
  | [x], _ => List.pairwise_singleton _ _
  | x :: y :: l, h => by
    have h1 : Op.bytesLess x.f0.toList y.f0.toList = true ∧ regUpB (y :: l) = true := by
      unfold regUpB at h; simpa using h
    have ih := regUpB_up (y :: l) h1.2
    rw [List.pairwise_cons]
    refine ⟨fun z hz => ?_, ih⟩
    rcases List.mem_cons.1 hz with rfl | hz
    · exact h1.1
    · exact less_trans h1.1 ((List.pairwise_cons.1 ih).1 z hz)
theorem up_regUpB : ∀ l : List S47, l.Pairwise kLt → regUpB l = true
  | [], _ => rfl
  | [x], _ => rfl
  | x :: y :: l, h => by
    rw [List.pairwise_cons] at h
    have := up_regUpB (y :: l) h.2
    unfold regUpB
    simp only [Bool.and_eq_true]
    exact ⟨h.1 y List.mem_cons_self, this⟩
theorem take_regPos (key : ByteArray) : ∀ l : List S47, ∀ x ∈ l.take (regPos key l), Op.bytesLess x.f0.toList key.toList = true
  | [], x, h => by simp at h
  | y :: l, x, h => by
    unfold regPos at h
    split at h
    · rename_i hy
      rw [List.take_succ_cons] at h
      rcases List.mem_cons.1 h with rfl | h
      · exact hy
      · exact take_regPos key l x h
    · simp at h
theorem drop_regPos (key : ByteArray) : ∀ l : List S47, l.Pairwise kLt → ∀ x ∈ l.drop (regPos key l), Op.bytesLess x.f0.toList key.toList = false
  | [], _, x, h => by simp at h
  | y :: l, hp, x, h => by
    rw [List.pairwise_cons] at hp
    unfold regPos at h
    split at h
    · rw [List.drop_succ_cons] at h
      exact drop_regPos key l hp.2 x h
    · rename_i hy
      rw [List.drop_zero] at h
      rcases List.mem_cons.1 h with rfl | h
      · simpa using hy
      · cases q : Op.bytesLess x.f0.toList key.toList with
        | false => rfl
        | true => exact absurd (less_trans (hp.1 x h) q) hy
theorem cmpS_zero {a b : ByteArray} : cmpS a b = 0 ↔ a = b := by
  unfold cmpS
  constructor
  · intro h
    split at h
    · cases h
    · split at h
      · cases h
      · rename_i h1 h2
        exact toList_inj (less_antisymm (by simpa using h1) (by simpa using h2))
  · rintro rfl
    rw [less_irrefl]; rfl
theorem regIs_true {key : ByteArray} {l : List S47} (h : regIs key l = true) : ∃ hp : regPos key l < l.length, l[regPos key l].f0 = key := by
  unfold regIs at h
  rw [Bool.and_eq_true, decide_eq_true_eq, decide_eq_true_eq] at h
  refine ⟨h.1, ?_⟩
  have := h.2
  rw [rd_at l _ h.1] at this
  exact cmpS_zero.1 this
theorem regIs_false {key : ByteArray} {l : List S47} (hp : l.Pairwise kLt) (h : regIs key l = false) : ∀ x ∈ l.drop (regPos key l), Op.bytesLess key.toList x.f0.toList = true := by
  intro x hx
  have h1 := drop_regPos key l hp x hx
  cases q : Op.bytesLess key.toList x.f0.toList with
  | true => rfl
  | false =>
    exfalso
    have e : x.f0 = key := toList_inj (less_antisymm h1 q)
    have hlt : regPos key l < l.length := by
      rcases Nat.lt_or_ge (regPos key l) l.length with z | z
      · exact z
      · rw [List.drop_of_length_le z] at hx; cases hx
    rw [List.drop_eq_getElem_cons hlt] at hx
    rcases List.mem_cons.1 hx with rfl | hx2
    · unfold regIs at h
      rw [rd_at l _ hlt, e, cmpS_zero.2 rfl] at h
      simp [hlt] at h
    · have hd := drop_regPos key l hp l[regPos key l] (by rw [List.drop_eq_getElem_cons hlt]; exact List.mem_cons_self)
      have hpd : (l.drop (regPos key l)).Pairwise kLt := List.Pairwise.sublist (List.drop_sublist _ _) hp
      rw [List.drop_eq_getElem_cons hlt, List.pairwise_cons] at hpd
      have := hpd.1 x hx2
      unfold kLt at this
      rw [e] at this
      rw [hd] at this
      cases this
theorem pairwise_keys {l m : List S47} (h : l.map (fun x => x.f0) = m.map (fun x => x.f0)) (hp : l.Pairwise kLt) : m.Pairwise kLt := by
  have h1 : (l.map (fun x => x.f0)).Pairwise (fun a b => Op.bytesLess a.toList b.toList = true) := (List.pairwise_map (f := fun x : S47 => x.f0)).2 hp
  rw [h] at h1
  exact (List.pairwise_map (f := fun x : S47 => x.f0)).1 h1
theorem putL_up {l : List S47} (r : S47) (hp : l.Pairwise kLt) : (putL l r).Pairwise kLt := by
  unfold putL
  cases his : regIs r.f0 l with
  | true =>
    obtain ⟨hlt, hk⟩ := regIs_true his
    simp only [if_true]
    split
    · refine pairwise_keys (l := l) ?_ hp
      rw [List.map_set]
      apply List.ext_getElem
      · simp
      · intro i h1 h2
        rw [List.getElem_set]
        split
        · rename_i e; subst e; simp [hk]
        · rfl
    · exact hp
  | false =>
    simp only [Bool.false_eq_true, if_false]
    rw [List.pairwise_append]
    refine ⟨hp.sublist (List.take_sublist _ _), ?_, ?_⟩
    · rw [List.pairwise_cons]
      exact ⟨fun x hx => regIs_false hp his x hx, hp.sublist (List.drop_sublist _ _)⟩
    · intro a ha b hb
      have h1 := take_regPos r.f0 l a ha
      rcases List.mem_cons.1 hb with rfl | hb
      · exact h1
      · exact less_trans h1 (regIs_false hp his b hb)
theorem putL_length (l : List S47) (r : S47) : (putL l r).length ≤ l.length + 1 := by
  unfold putL
  split
  · split <;> simp
  · have := regPos_le r.f0 l
    simp; omega
theorem foldl_up : ∀ (m l : List S47), l.Pairwise kLt → (m.foldl putL l).Pairwise kLt
  | [], _, h => h
  | r :: m, l, h => foldl_up m _ (putL_up r h)
theorem foldl_length : ∀ (m l : List S47), (m.foldl putL l).length ≤ l.length + m.length
  | [], _ => by simp
  | r :: m, l => by
    have h1 := foldl_length m (putL l r)
    have h2 := putL_length l r
    simp only [List.foldl_cons, List.length_cons]
    omega
theorem take_foldl (m l : List S47) (k : Nat) (h : k < m.length) : (m.take (k + 1)).foldl putL l = putL ((m.take k).foldl putL l) (rd_T47 m (k : Nat)) := by
  rw [List.take_succ_eq_append_getElem h, List.foldl_append, rd_at m k h]; rfl
end Go.Proofs.YtmcddoolniaehaaGreat.S
end
