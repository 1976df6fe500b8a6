/- IdsTells: it answers true. By hand: one call behind the other. -/
import Derived.Test.YtkgjdeicjkibiaaDIAwake
import Derived.Test.YtkgjdeicjkibiaaDISame
import Derived.Test.YtkgjdeicjkibiaaDIRRises
import Derived.Test.YtkgjdeicjkibiaaDIRSome
namespace Go.Proofs.Ytkgjdeicjkibiaa.D
open Go.RowKit Go.Maps Go.Proofs.YtkgjdeicjkibiaaW.PrintWords Go.Proofs.YtkgjdeicjkibiaaW.PrintLast Go.Proofs.YtkgjdeicjkibiaaW.PrintMore Go.Proofs.YtkgjdeicjkibiaaW
set_option linter.unusedVariables false
set_option linter.unusedSimpArgs false
set_option maxHeartbeats 8000000 in
set_option maxRecDepth 100000 in
theorem idsTells_calls (Aa : Option Addr) (ca : Nat) (a : List Id) (Ab : Option Addr) (cb : Nat) (b : List Id) {x : Id} (hx : okId x) {y : Id} (hy : okId y) (w : World) (hra : Kd.C kI w Aa a.length a) (hrb : Kd.C kI w Ab b.length b) :
    Calls Try.prog 7 #[.slice Aa a.length ca, .slice Ab b.length cb, valI x, valI y] w fun e w' => e = .returned (.bool true) ∧ Below w.heap.size w w' := by
  obtain ⟨pr, hpr0⟩ : ∃ p, risesI a = p := ⟨_, rfl⟩
  obtain ⟨ph, hph0⟩ : ∃ p, decide (x ∈ a) = p := ⟨_, rfl⟩
  obtain ⟨pl, hpl0⟩ : ∃ p, ltI x y = p := ⟨_, rfl⟩
  have hpr := Aside0.mk hpr0
  have hph := Aside0.mk hph0
  have hpl := Aside0.mk hpl0
  clear hpr0 hph0 hpl0
  have Ra := Aside0.mk (Kd.C_alloc (Kd.C_alloc hra (.cells (arrI x) 23)) (.cells (arrI y) 23))
  have Rb := Aside0.mk (Kd.C_alloc (Kd.C_alloc hrb (.cells (arrI x) 23)) (.cells (arrI y) 23))
  have HX := Aside0.mk (blk_alloc (blk_new w (.cells (arrI x) 23)) (.cells (arrI y) 23))
  have HY : Aside0 (((w.alloc (.cells (arrI x) 23)).alloc (.cells (arrI y) 23)).heap[w.heap.size + 1]? = some (.cells (arrI y) 23 (0, 0))) := ⟨by have := blk_new (w.alloc (.cells (arrI x) 23)) (.cells (arrI y) 23); simpa using this⟩
  have HB := Aside0.mk (below_alloc (below_alloc (Below.refl w.heap.size w) (.cells (arrI x) 23)) (.cells (arrI y) 23))
  clear hra hrb
  go_enter Try.func7, Try.ntmps7
  by_cases h1 : (a.length : Int) ≤ 30
  rotate_left
  · go_wp2_with fail
    refine (awake_calls _).mono ?_
    rintro e V0 ⟨rfl, hb0⟩
    replace HB := Aside0.mk (below_step HB.out hb0)
    clear hb0
    have h1' : (30 : Int) < a.length := by omega
    go_wp2
    go_ret
    exact ⟨rfl, HB.out⟩
  by_cases h2 : (b.length : Int) ≤ 30
  rotate_left
  · go_wp2_with fail
    refine (awake_calls _).mono ?_
    rintro e V0 ⟨rfl, hb0⟩
    replace HB := Aside0.mk (below_step HB.out hb0)
    clear hb0
    have h1' : ¬ (30 : Int) < a.length := by omega
    have h2' : (30 : Int) < b.length := by omega
    go_wp2
    go_ret
    exact ⟨rfl, HB.out⟩
  have La : Aside0 (a.length ≤ 30) := ⟨by omega⟩
  have Lb : Aside0 (b.length ≤ 30) := ⟨by omega⟩
  have h1' : ¬ (30 : Int) < a.length := by omega
  have h2' : ¬ (30 : Int) < b.length := by omega
  go_wp2_with fail
  refine (awake_calls _).mono ?_
  rintro e V0 ⟨rfl, hb0⟩
  replace Ra := Aside0.mk (Kd.C_below Ra.out hb0)
  replace Rb := Aside0.mk (Kd.C_below Rb.out hb0)
  replace HX := Aside0.mk (blk_below HX.out hb0)
  replace HY := Aside0.mk (blk_below HY.out hb0)
  replace HB := Aside0.mk (below_step HB.out hb0)
  clear hb0
  go_wp2_with (first | ((try (refine gate_guard (by rfl) ?_; dsimp only)); refine wpl_load w.heap.size 0 x (range_of_blk (t := 23) HX.out) hx (by rfl) _ (by rfl) (by rfl) ?_; go_frame) | ((try (refine gate_guard (by rfl) ?_; dsimp only)); refine wpl_load (w.heap.size + 1) 0 y (range_of_blk (t := 23) HY.out) hy (by rfl) _ (by rfl) (by rfl) ?_; go_frame))
  obtain ⟨r1, hr1⟩ : ∃ r : List Id, r = sortI a := ⟨_, rfl⟩
  have Lr1 : Aside0 (r1.length ≤ 30) := ⟨by rw [hr1]; exact Nat.le_trans (len_sortI _) La.out⟩
  have hcn := sort_calls Aa ca a _ Ra.out (by have := La.out; omega)
  rw [← hr1] at hcn
  have Er1 := Aside0.mk hr1
  clear hr1
  refine hcn.mono ?_
  rintro e V1 ⟨Ar1, cr1, rfl, hC, hb1⟩
  clear hcn
  replace Ra := Aside0.mk (Kd.C_below Ra.out hb1)
  replace Rb := Aside0.mk (Kd.C_below Rb.out hb1)
  replace HX := Aside0.mk (blk_below HX.out hb1)
  replace HY := Aside0.mk (blk_below HY.out hb1)
  replace HB := Aside0.mk (below_step HB.out hb1)
  clear hb1
  have Rr1 := Aside0.mk hC
  clear hC
  go_wp2_with (first | ((try (refine gate_guard (by rfl) ?_; dsimp only)); refine wpl_load w.heap.size 0 x (range_of_blk (t := 23) HX.out) hx (by rfl) _ (by rfl) (by rfl) ?_; go_frame) | ((try (refine gate_guard (by rfl) ?_; dsimp only)); refine wpl_load (w.heap.size + 1) 0 y (range_of_blk (t := 23) HY.out) hy (by rfl) _ (by rfl) (by rfl) ?_; go_frame))
  obtain ⟨r2, hr2⟩ : ∃ r : List Id, r = sortI a := ⟨_, rfl⟩
  have Lr2 : Aside0 (r2.length ≤ 30) := ⟨by rw [hr2]; exact Nat.le_trans (len_sortI _) La.out⟩
  have hcn := rsort_calls Aa ca a _ Ra.out (by have := La.out; omega)
  rw [← hr2] at hcn
  have Er2 := Aside0.mk hr2
  clear hr2
  refine hcn.mono ?_
  rintro e V2 ⟨Ar2, cr2, rfl, hC, hb2⟩
  clear hcn
  replace Ra := Aside0.mk (Kd.C_below Ra.out hb2)
  replace Rb := Aside0.mk (Kd.C_below Rb.out hb2)
  replace Rr1 := Aside0.mk (Kd.C_below Rr1.out hb2)
  replace HX := Aside0.mk (blk_below HX.out hb2)
  replace HY := Aside0.mk (blk_below HY.out hb2)
  replace HB := Aside0.mk (below_step HB.out hb2)
  clear hb2
  have Rr2 := Aside0.mk hC
  clear hC
  go_wp2_with (first | ((try (refine gate_guard (by rfl) ?_; dsimp only)); refine wpl_load w.heap.size 0 x (range_of_blk (t := 23) HX.out) hx (by rfl) _ (by rfl) (by rfl) ?_; go_frame) | ((try (refine gate_guard (by rfl) ?_; dsimp only)); refine wpl_load (w.heap.size + 1) 0 y (range_of_blk (t := 23) HY.out) hy (by rfl) _ (by rfl) (by rfl) ?_; go_frame))
  have q1 : decide (r1 = r2) = true := by rw [Er1.out, Er2.out]; exact decide_eq_true rfl
  have hcn := same_calls Ar1 cr1 r1 Ar2 cr2 r2 _ Rr1.out Rr2.out
  rw [q1] at hcn
  refine hcn.mono ?_
  rintro e V3 ⟨rfl, hb3⟩
  clear hcn
  replace Ra := Aside0.mk (Kd.C_below Ra.out hb3)
  replace Rb := Aside0.mk (Kd.C_below Rb.out hb3)
  replace Rr1 := Aside0.mk (Kd.C_below Rr1.out hb3)
  replace Rr2 := Aside0.mk (Kd.C_below Rr2.out hb3)
  replace HX := Aside0.mk (blk_below HX.out hb3)
  replace HY := Aside0.mk (blk_below HY.out hb3)
  replace HB := Aside0.mk (below_step HB.out hb3)
  clear hb3
  go_wp2_with (first | ((try (refine gate_guard (by rfl) ?_; dsimp only)); refine wpl_load w.heap.size 0 x (range_of_blk (t := 23) HX.out) hx (by rfl) _ (by rfl) (by rfl) ?_; go_frame) | ((try (refine gate_guard (by rfl) ?_; dsimp only)); refine wpl_load (w.heap.size + 1) 0 y (range_of_blk (t := 23) HY.out) hy (by rfl) _ (by rfl) (by rfl) ?_; go_frame))
  clear q1
  clear Rr1
  clear Rr2
  obtain ⟨s1, hs1⟩ : ∃ r : List Id, r = bothI a b := ⟨_, rfl⟩
  have Ls1 : Aside0 (s1.length ≤ 60) := ⟨by rw [hs1]; have := La.out; have := Lb.out; exact Nat.le_trans (len_sortI _) (by rw [List.length_append]; omega)⟩
  have hcn := both_calls Aa ca a Ab cb b _ Ra.out Rb.out (by have := La.out; have := Lb.out; omega)
  rw [← hs1] at hcn
  have Es1 := Aside0.mk hs1
  clear hs1
  refine hcn.mono ?_
  rintro e V4 ⟨As1, cs1, rfl, hC, hb4⟩
  clear hcn
  replace Ra := Aside0.mk (Kd.C_below Ra.out hb4)
  replace Rb := Aside0.mk (Kd.C_below Rb.out hb4)
  replace HX := Aside0.mk (blk_below HX.out hb4)
  replace HY := Aside0.mk (blk_below HY.out hb4)
  replace HB := Aside0.mk (below_step HB.out hb4)
  clear hb4
  have Rs1 := Aside0.mk hC
  clear hC
  go_wp2_with (first | ((try (refine gate_guard (by rfl) ?_; dsimp only)); refine wpl_load w.heap.size 0 x (range_of_blk (t := 23) HX.out) hx (by rfl) _ (by rfl) (by rfl) ?_; go_frame) | ((try (refine gate_guard (by rfl) ?_; dsimp only)); refine wpl_load (w.heap.size + 1) 0 y (range_of_blk (t := 23) HY.out) hy (by rfl) _ (by rfl) (by rfl) ?_; go_frame))
  obtain ⟨s2, hs2⟩ : ∃ r : List Id, r = bothI a b := ⟨_, rfl⟩
  have Ls2 : Aside0 (s2.length ≤ 60) := ⟨by rw [hs2]; have := La.out; have := Lb.out; exact Nat.le_trans (len_sortI _) (by rw [List.length_append]; omega)⟩
  have hcn := rboth_calls Aa ca a Ab cb b _ Ra.out Rb.out (by have := La.out; have := Lb.out; omega)
  rw [← hs2] at hcn
  have Es2 := Aside0.mk hs2
  clear hs2
  refine hcn.mono ?_
  rintro e V5 ⟨As2, cs2, rfl, hC, hb5⟩
  clear hcn
  replace Ra := Aside0.mk (Kd.C_below Ra.out hb5)
  replace Rb := Aside0.mk (Kd.C_below Rb.out hb5)
  replace Rs1 := Aside0.mk (Kd.C_below Rs1.out hb5)
  replace HX := Aside0.mk (blk_below HX.out hb5)
  replace HY := Aside0.mk (blk_below HY.out hb5)
  replace HB := Aside0.mk (below_step HB.out hb5)
  clear hb5
  have Rs2 := Aside0.mk hC
  clear hC
  go_wp2_with (first | ((try (refine gate_guard (by rfl) ?_; dsimp only)); refine wpl_load w.heap.size 0 x (range_of_blk (t := 23) HX.out) hx (by rfl) _ (by rfl) (by rfl) ?_; go_frame) | ((try (refine gate_guard (by rfl) ?_; dsimp only)); refine wpl_load (w.heap.size + 1) 0 y (range_of_blk (t := 23) HY.out) hy (by rfl) _ (by rfl) (by rfl) ?_; go_frame))
  have q1 : decide (s1 = s2) = true := by rw [Es1.out, Es2.out]; exact decide_eq_true rfl
  have hcn := same_calls As1 cs1 s1 As2 cs2 s2 _ Rs1.out Rs2.out
  rw [q1] at hcn
  refine hcn.mono ?_
  rintro e V6 ⟨rfl, hb6⟩
  clear hcn
  replace Ra := Aside0.mk (Kd.C_below Ra.out hb6)
  replace Rb := Aside0.mk (Kd.C_below Rb.out hb6)
  replace Rs1 := Aside0.mk (Kd.C_below Rs1.out hb6)
  replace Rs2 := Aside0.mk (Kd.C_below Rs2.out hb6)
  replace HX := Aside0.mk (blk_below HX.out hb6)
  replace HY := Aside0.mk (blk_below HY.out hb6)
  replace HB := Aside0.mk (below_step HB.out hb6)
  clear hb6
  go_wp2_with (first | ((try (refine gate_guard (by rfl) ?_; dsimp only)); refine wpl_load w.heap.size 0 x (range_of_blk (t := 23) HX.out) hx (by rfl) _ (by rfl) (by rfl) ?_; go_frame) | ((try (refine gate_guard (by rfl) ?_; dsimp only)); refine wpl_load (w.heap.size + 1) 0 y (range_of_blk (t := 23) HY.out) hy (by rfl) _ (by rfl) (by rfl) ?_; go_frame))
  clear q1
  clear Rs1
  clear Rs2
  obtain ⟨t1, ht1⟩ : ∃ r : List Id, r = someI a b true := ⟨_, rfl⟩
  have Lt1 : Aside0 (t1.length ≤ 30) := ⟨by rw [ht1]; exact Nat.le_trans (len_someI _ _ _) La.out⟩
  have hcn := common_calls Aa ca a Ab cb b _ Ra.out Rb.out (by have := La.out; omega) (by have := Lb.out; omega)
  rw [← ht1] at hcn
  have Et1 := Aside0.mk ht1
  clear ht1
  refine hcn.mono ?_
  rintro e V7 ⟨At1, ct1, rfl, hC, hb7⟩
  clear hcn
  replace Ra := Aside0.mk (Kd.C_below Ra.out hb7)
  replace Rb := Aside0.mk (Kd.C_below Rb.out hb7)
  replace HX := Aside0.mk (blk_below HX.out hb7)
  replace HY := Aside0.mk (blk_below HY.out hb7)
  replace HB := Aside0.mk (below_step HB.out hb7)
  clear hb7
  have Rt1 := Aside0.mk hC
  clear hC
  go_wp2_with (first | ((try (refine gate_guard (by rfl) ?_; dsimp only)); refine wpl_load w.heap.size 0 x (range_of_blk (t := 23) HX.out) hx (by rfl) _ (by rfl) (by rfl) ?_; go_frame) | ((try (refine gate_guard (by rfl) ?_; dsimp only)); refine wpl_load (w.heap.size + 1) 0 y (range_of_blk (t := 23) HY.out) hy (by rfl) _ (by rfl) (by rfl) ?_; go_frame))
  obtain ⟨t2, ht2⟩ : ∃ r : List Id, r = someI a b true := ⟨_, rfl⟩
  have Lt2 : Aside0 (t2.length ≤ 30) := ⟨by rw [ht2]; exact Nat.le_trans (len_someI _ _ _) La.out⟩
  have hcn := rcommon_calls Aa ca a Ab cb b _ Ra.out Rb.out (by have := La.out; omega)
  rw [← ht2] at hcn
  have Et2 := Aside0.mk ht2
  clear ht2
  refine hcn.mono ?_
  rintro e V8 ⟨At2, ct2, rfl, hC, hb8⟩
  clear hcn
  replace Ra := Aside0.mk (Kd.C_below Ra.out hb8)
  replace Rb := Aside0.mk (Kd.C_below Rb.out hb8)
  replace Rt1 := Aside0.mk (Kd.C_below Rt1.out hb8)
  replace HX := Aside0.mk (blk_below HX.out hb8)
  replace HY := Aside0.mk (blk_below HY.out hb8)
  replace HB := Aside0.mk (below_step HB.out hb8)
  clear hb8
  have Rt2 := Aside0.mk hC
  clear hC
  go_wp2_with (first | ((try (refine gate_guard (by rfl) ?_; dsimp only)); refine wpl_load w.heap.size 0 x (range_of_blk (t := 23) HX.out) hx (by rfl) _ (by rfl) (by rfl) ?_; go_frame) | ((try (refine gate_guard (by rfl) ?_; dsimp only)); refine wpl_load (w.heap.size + 1) 0 y (range_of_blk (t := 23) HY.out) hy (by rfl) _ (by rfl) (by rfl) ?_; go_frame))
  have q1 : decide (t1 = t2) = true := by rw [Et1.out, Et2.out]; exact decide_eq_true rfl
  have hcn := same_calls At1 ct1 t1 At2 ct2 t2 _ Rt1.out Rt2.out
  rw [q1] at hcn
  refine hcn.mono ?_
  rintro e V9 ⟨rfl, hb9⟩
  clear hcn
  replace Ra := Aside0.mk (Kd.C_below Ra.out hb9)
  replace Rb := Aside0.mk (Kd.C_below Rb.out hb9)
  replace Rt1 := Aside0.mk (Kd.C_below Rt1.out hb9)
  replace Rt2 := Aside0.mk (Kd.C_below Rt2.out hb9)
  replace HX := Aside0.mk (blk_below HX.out hb9)
  replace HY := Aside0.mk (blk_below HY.out hb9)
  replace HB := Aside0.mk (below_step HB.out hb9)
  clear hb9
  go_wp2_with (first | ((try (refine gate_guard (by rfl) ?_; dsimp only)); refine wpl_load w.heap.size 0 x (range_of_blk (t := 23) HX.out) hx (by rfl) _ (by rfl) (by rfl) ?_; go_frame) | ((try (refine gate_guard (by rfl) ?_; dsimp only)); refine wpl_load (w.heap.size + 1) 0 y (range_of_blk (t := 23) HY.out) hy (by rfl) _ (by rfl) (by rfl) ?_; go_frame))
  clear q1
  clear Rt1
  clear Rt2
  obtain ⟨u1, hu1⟩ : ∃ r : List Id, r = someI a b false := ⟨_, rfl⟩
  have Lu1 : Aside0 (u1.length ≤ 30) := ⟨by rw [hu1]; exact Nat.le_trans (len_someI _ _ _) La.out⟩
  have hcn := without_calls Aa ca a Ab cb b _ Ra.out Rb.out (by have := La.out; omega) (by have := Lb.out; omega)
  rw [← hu1] at hcn
  have Eu1 := Aside0.mk hu1
  clear hu1
  refine hcn.mono ?_
  rintro e V10 ⟨Au1, cu1, rfl, hC, hb10⟩
  clear hcn
  replace Ra := Aside0.mk (Kd.C_below Ra.out hb10)
  replace Rb := Aside0.mk (Kd.C_below Rb.out hb10)
  replace HX := Aside0.mk (blk_below HX.out hb10)
  replace HY := Aside0.mk (blk_below HY.out hb10)
  replace HB := Aside0.mk (below_step HB.out hb10)
  clear hb10
  have Ru1 := Aside0.mk hC
  clear hC
  go_wp2_with (first | ((try (refine gate_guard (by rfl) ?_; dsimp only)); refine wpl_load w.heap.size 0 x (range_of_blk (t := 23) HX.out) hx (by rfl) _ (by rfl) (by rfl) ?_; go_frame) | ((try (refine gate_guard (by rfl) ?_; dsimp only)); refine wpl_load (w.heap.size + 1) 0 y (range_of_blk (t := 23) HY.out) hy (by rfl) _ (by rfl) (by rfl) ?_; go_frame))
  obtain ⟨u2, hu2⟩ : ∃ r : List Id, r = someI a b false := ⟨_, rfl⟩
  have Lu2 : Aside0 (u2.length ≤ 30) := ⟨by rw [hu2]; exact Nat.le_trans (len_someI _ _ _) La.out⟩
  have hcn := rwithout_calls Aa ca a Ab cb b _ Ra.out Rb.out (by have := La.out; omega)
  rw [← hu2] at hcn
  have Eu2 := Aside0.mk hu2
  clear hu2
  refine hcn.mono ?_
  rintro e V11 ⟨Au2, cu2, rfl, hC, hb11⟩
  clear hcn
  replace Ra := Aside0.mk (Kd.C_below Ra.out hb11)
  replace Rb := Aside0.mk (Kd.C_below Rb.out hb11)
  replace Ru1 := Aside0.mk (Kd.C_below Ru1.out hb11)
  replace HX := Aside0.mk (blk_below HX.out hb11)
  replace HY := Aside0.mk (blk_below HY.out hb11)
  replace HB := Aside0.mk (below_step HB.out hb11)
  clear hb11
  have Ru2 := Aside0.mk hC
  clear hC
  go_wp2_with (first | ((try (refine gate_guard (by rfl) ?_; dsimp only)); refine wpl_load w.heap.size 0 x (range_of_blk (t := 23) HX.out) hx (by rfl) _ (by rfl) (by rfl) ?_; go_frame) | ((try (refine gate_guard (by rfl) ?_; dsimp only)); refine wpl_load (w.heap.size + 1) 0 y (range_of_blk (t := 23) HY.out) hy (by rfl) _ (by rfl) (by rfl) ?_; go_frame))
  have q1 : decide (u1 = u2) = true := by rw [Eu1.out, Eu2.out]; exact decide_eq_true rfl
  have hcn := same_calls Au1 cu1 u1 Au2 cu2 u2 _ Ru1.out Ru2.out
  rw [q1] at hcn
  refine hcn.mono ?_
  rintro e V12 ⟨rfl, hb12⟩
  clear hcn
  replace Ra := Aside0.mk (Kd.C_below Ra.out hb12)
  replace Rb := Aside0.mk (Kd.C_below Rb.out hb12)
  replace Ru1 := Aside0.mk (Kd.C_below Ru1.out hb12)
  replace Ru2 := Aside0.mk (Kd.C_below Ru2.out hb12)
  replace HX := Aside0.mk (blk_below HX.out hb12)
  replace HY := Aside0.mk (blk_below HY.out hb12)
  replace HB := Aside0.mk (below_step HB.out hb12)
  clear hb12
  go_wp2_with (first | ((try (refine gate_guard (by rfl) ?_; dsimp only)); refine wpl_load w.heap.size 0 x (range_of_blk (t := 23) HX.out) hx (by rfl) _ (by rfl) (by rfl) ?_; go_frame) | ((try (refine gate_guard (by rfl) ?_; dsimp only)); refine wpl_load (w.heap.size + 1) 0 y (range_of_blk (t := 23) HY.out) hy (by rfl) _ (by rfl) (by rfl) ?_; go_frame))
  clear q1
  clear Ru1
  clear Ru2
  have hcn := rrises_calls Aa ca a _ Ra.out
  rw [hpr.out] at hcn
  refine hcn.mono ?_
  rintro e V13 ⟨rfl, hb13⟩
  clear hcn
  replace Ra := Aside0.mk (Kd.C_below Ra.out hb13)
  replace Rb := Aside0.mk (Kd.C_below Rb.out hb13)
  replace HX := Aside0.mk (blk_below HX.out hb13)
  replace HY := Aside0.mk (blk_below HY.out hb13)
  replace HB := Aside0.mk (below_step HB.out hb13)
  clear hb13
  go_wp2_with (first | ((try (refine gate_guard (by rfl) ?_; dsimp only)); refine wpl_load w.heap.size 0 x (range_of_blk (t := 23) HX.out) hx (by rfl) _ (by rfl) (by rfl) ?_; go_frame) | ((try (refine gate_guard (by rfl) ?_; dsimp only)); refine wpl_load (w.heap.size + 1) 0 y (range_of_blk (t := 23) HY.out) hy (by rfl) _ (by rfl) (by rfl) ?_; go_frame))
  have hcn := rhas_calls Aa ca a hx _ Ra.out
  rw [hph.out] at hcn
  refine hcn.mono ?_
  rintro e V14 ⟨rfl, hb14⟩
  clear hcn
  replace Ra := Aside0.mk (Kd.C_below Ra.out hb14)
  replace Rb := Aside0.mk (Kd.C_below Rb.out hb14)
  replace HX := Aside0.mk (blk_below HX.out hb14)
  replace HY := Aside0.mk (blk_below HY.out hb14)
  replace HB := Aside0.mk (below_step HB.out hb14)
  clear hb14
  go_wp2_with (first | ((try (refine gate_guard (by rfl) ?_; dsimp only)); refine wpl_load w.heap.size 0 x (range_of_blk (t := 23) HX.out) hx (by rfl) _ (by rfl) (by rfl) ?_; go_frame) | ((try (refine gate_guard (by rfl) ?_; dsimp only)); refine wpl_load (w.heap.size + 1) 0 y (range_of_blk (t := 23) HY.out) hy (by rfl) _ (by rfl) (by rfl) ?_; go_frame))
  have hcn := rless_calls hx hy V14
  rw [hpl.out] at hcn
  refine hcn.mono ?_
  rintro e V15 ⟨rfl, hb15⟩
  clear hcn
  replace Ra := Aside0.mk (Kd.C_below Ra.out hb15)
  replace Rb := Aside0.mk (Kd.C_below Rb.out hb15)
  replace HX := Aside0.mk (blk_below HX.out hb15)
  replace HY := Aside0.mk (blk_below HY.out hb15)
  replace HB := Aside0.mk (below_step HB.out hb15)
  clear hb15
  go_wp2_with (first | ((try (refine gate_guard (by rfl) ?_; dsimp only)); refine wpl_load w.heap.size 0 x (range_of_blk (t := 23) HX.out) hx (by rfl) _ (by rfl) (by rfl) ?_; go_frame) | ((try (refine gate_guard (by rfl) ?_; dsimp only)); refine wpl_load (w.heap.size + 1) 0 y (range_of_blk (t := 23) HY.out) hy (by rfl) _ (by rfl) (by rfl) ?_; go_frame))
  have hcn := rises_calls Aa ca a _ Ra.out
  rw [hpr.out] at hcn
  refine hcn.mono ?_
  rintro e V16 ⟨rfl, hb16⟩
  clear hcn
  replace Ra := Aside0.mk (Kd.C_below Ra.out hb16)
  replace Rb := Aside0.mk (Kd.C_below Rb.out hb16)
  replace HX := Aside0.mk (blk_below HX.out hb16)
  replace HY := Aside0.mk (blk_below HY.out hb16)
  replace HB := Aside0.mk (below_step HB.out hb16)
  clear hb16
  go_wp2_with (first | ((try (refine gate_guard (by rfl) ?_; dsimp only)); refine wpl_load w.heap.size 0 x (range_of_blk (t := 23) HX.out) hx (by rfl) _ (by rfl) (by rfl) ?_; go_frame) | ((try (refine gate_guard (by rfl) ?_; dsimp only)); refine wpl_load (w.heap.size + 1) 0 y (range_of_blk (t := 23) HY.out) hy (by rfl) _ (by rfl) (by rfl) ?_; go_frame))
  have hcn := has_calls Aa ca a hx _ Ra.out
  rw [hph.out] at hcn
  refine hcn.mono ?_
  rintro e V17 ⟨rfl, hb17⟩
  clear hcn
  replace Ra := Aside0.mk (Kd.C_below Ra.out hb17)
  replace Rb := Aside0.mk (Kd.C_below Rb.out hb17)
  replace HX := Aside0.mk (blk_below HX.out hb17)
  replace HY := Aside0.mk (blk_below HY.out hb17)
  replace HB := Aside0.mk (below_step HB.out hb17)
  clear hb17
  go_wp2_with (first | ((try (refine gate_guard (by rfl) ?_; dsimp only)); refine wpl_load w.heap.size 0 x (range_of_blk (t := 23) HX.out) hx (by rfl) _ (by rfl) (by rfl) ?_; go_frame) | ((try (refine gate_guard (by rfl) ?_; dsimp only)); refine wpl_load (w.heap.size + 1) 0 y (range_of_blk (t := 23) HY.out) hy (by rfl) _ (by rfl) (by rfl) ?_; go_frame))
  have hcn := less_calls hx hy V17
  rw [hpl.out] at hcn
  refine hcn.mono ?_
  rintro e V18 ⟨rfl, hb18⟩
  clear hcn
  replace Ra := Aside0.mk (Kd.C_below Ra.out hb18)
  replace Rb := Aside0.mk (Kd.C_below Rb.out hb18)
  replace HX := Aside0.mk (blk_below HX.out hb18)
  replace HY := Aside0.mk (blk_below HY.out hb18)
  replace HB := Aside0.mk (below_step HB.out hb18)
  clear hb18
  go_wp2_with (first | ((try (refine gate_guard (by rfl) ?_; dsimp only)); refine wpl_load w.heap.size 0 x (range_of_blk (t := 23) HX.out) hx (by rfl) _ (by rfl) (by rfl) ?_; go_frame) | ((try (refine gate_guard (by rfl) ?_; dsimp only)); refine wpl_load (w.heap.size + 1) 0 y (range_of_blk (t := 23) HY.out) hy (by rfl) _ (by rfl) (by rfl) ?_; go_frame))
  go_ret
  exact ⟨rfl, HB.out⟩
end Go.Proofs.Ytkgjdeicjkibiaa.D
