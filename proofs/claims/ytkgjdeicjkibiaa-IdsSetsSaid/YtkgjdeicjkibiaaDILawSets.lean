/- IdsSets: it answers true. By hand: one call behind the other. -/
import Derived.Test.YtkgjdeicjkibiaaDIAwake
import Derived.Test.YtkgjdeicjkibiaaDISame
import Derived.Test.YtkgjdeicjkibiaaDIRises
namespace Go.Proofs.Ytkgjdeicjkibiaa.D
open Go.RowKit Go.Maps Go.Proofs.YtkgjdeicjkibiaaW.PrintWords Go.Proofs.YtkgjdeicjkibiaaW.PrintLast Go.Proofs.YtkgjdeicjkibiaaW.PrintMore Go.Proofs.YtkgjdeicjkibiaaW
set_option linter.unusedVariables false
set_option linter.unusedSimpArgs false
theorem sets_both (a b : List Id) (x : Id) : decide (x ∈ bothI a b) = (decide (x ∈ a) || decide (x ∈ b)) := by
  rw [Bool.eq_iff_iff]; simp [mem_bothI]
theorem sets_common (a b : List Id) (x : Id) : decide (x ∈ someI a b true) = (decide (x ∈ a) && decide (x ∈ b)) := by
  rw [Bool.eq_iff_iff]; simp [mem_someI]
theorem sets_without (a b : List Id) (x : Id) : decide (x ∈ someI a b false) = (decide (x ∈ a) && !decide (x ∈ b)) := by
  rw [Bool.eq_iff_iff]; simp [mem_someI]
theorem up_nodup' {l : List Id} (h : UpI l) : l.Nodup := h.imp fun {a b} hab => ltI_ne hab
theorem sets_len1 (a b : List Id) : (bothI a b).length = (sortI b).length + (someI a b false).length := by
  rw [← List.length_append]
  refine List.Perm.length_eq ((List.perm_ext_iff_of_nodup (up_nodup' (up_sortI _)) ?_).2 fun x => ?_)
  · refine List.nodup_append.2 ⟨up_nodup' (up_sortI _), up_nodup' (up_sortI _), fun y hy z hz e => ?_⟩
    subst e
    rw [mem_sortI] at hy
    rw [mem_someI, decide_eq_false_iff_not] at hz
    exact hz.2 hy
  · rw [List.mem_append, mem_sortI, mem_sortI, mem_someI, List.mem_append, decide_eq_false_iff_not]
    by_cases h1 : x ∈ a <;> by_cases h2 : x ∈ b <;> simp [h1, h2]
theorem sets_len2 (a b : List Id) : (sortI a).length = (someI a b true).length + (someI a b false).length := by
  rw [← List.length_append]
  refine List.Perm.length_eq ((List.perm_ext_iff_of_nodup (up_nodup' (up_sortI _)) ?_).2 fun x => ?_)
  · refine List.nodup_append.2 ⟨up_nodup' (up_sortI _), up_nodup' (up_sortI _), fun y hy z hz e => ?_⟩
    subst e
    rw [mem_someI, decide_eq_true_eq] at hy
    rw [mem_someI, decide_eq_false_iff_not] at hz
    exact hz.2 hy.2
  · rw [List.mem_append, mem_sortI, mem_someI, mem_someI, decide_eq_true_eq, decide_eq_false_iff_not]
    by_cases h1 : x ∈ a <;> by_cases h2 : x ∈ b <;> simp [h1, h2]
set_option maxHeartbeats 8000000 in
set_option maxRecDepth 100000 in
theorem idsSets_tt (Aa : Option Addr) (ca : Nat) (a : List Id) (Ab : Option Addr) (cb : Nat) (b : List Id) {x : Id} (hx : okId x) (hpb : decide (x ∈ a) = true) (hqb : decide (x ∈ b) = true) (w : World) (hra : Kd.C kI w Aa a.length a) (hrb : Kd.C kI w Ab b.length b) :
    Calls Try.prog 8 #[.slice Aa a.length ca, .slice Ab b.length cb, valI x] w fun e w' => e = .returned (.bool true) ∧ Below w.heap.size w w' := by
  have hp := Aside0.mk hpb
  have hq := Aside0.mk hqb
  clear hpb hqb
  have Ra := Aside0.mk (Kd.C_alloc hra (.cells (arrI x) 23))
  have Rb := Aside0.mk (Kd.C_alloc hrb (.cells (arrI x) 23))
  have HX := Aside0.mk (blk_new w (.cells (arrI x) 23))
  have HB := Aside0.mk (below_alloc (Below.refl w.heap.size w) (.cells (arrI x) 23))
  clear hra hrb
  go_enter Try.func8, Try.ntmps8
  by_cases h1 : (a.length : Int) ≤ 30
  rotate_left
  · go_wp2_with fail
    refine (awake_calls _).mono ?_
    rintro e V0 ⟨rfl, hb0⟩
    replace HB := Aside0.mk (below_step HB.out hb0)
    clear hb0
    have h1' : (30 : Int) < a.length := by omega
    go_wp2
    go_ret
    exact ⟨rfl, HB.out⟩
  by_cases h2 : (b.length : Int) ≤ 30
  rotate_left
  · go_wp2_with fail
    refine (awake_calls _).mono ?_
    rintro e V0 ⟨rfl, hb0⟩
    replace HB := Aside0.mk (below_step HB.out hb0)
    clear hb0
    have h1' : ¬ (30 : Int) < a.length := by omega
    have h2' : (30 : Int) < b.length := by omega
    go_wp2
    go_ret
    exact ⟨rfl, HB.out⟩
  have La : Aside0 (a.length ≤ 30) := ⟨by omega⟩
  have Lb : Aside0 (b.length ≤ 30) := ⟨by omega⟩
  have h1' : ¬ (30 : Int) < a.length := by omega
  have h2' : ¬ (30 : Int) < b.length := by omega
  go_wp2_with fail
  refine (awake_calls _).mono ?_
  rintro e V0 ⟨rfl, hb0⟩
  replace Ra := Aside0.mk (Kd.C_below Ra.out hb0)
  replace Rb := Aside0.mk (Kd.C_below Rb.out hb0)
  replace HX := Aside0.mk (blk_below HX.out hb0)
  replace HB := Aside0.mk (below_step HB.out hb0)
  clear hb0
  go_wp2_with (first | ((try (refine gate_guard (by rfl) ?_; dsimp only)); refine wpl_load w.heap.size 0 x (range_of_blk (t := 23) HX.out) hx (by rfl) _ (by rfl) (by rfl) ?_; go_frame))
  have hcn := has_calls Aa ca a hx _ Ra.out
  rw [hp.out] at hcn
  refine hcn.mono ?_
  rintro e V1 ⟨rfl, hb1⟩
  clear hcn
  replace Ra := Aside0.mk (Kd.C_below Ra.out hb1)
  replace Rb := Aside0.mk (Kd.C_below Rb.out hb1)
  replace HX := Aside0.mk (blk_below HX.out hb1)
  replace HB := Aside0.mk (below_step HB.out hb1)
  clear hb1
  go_wp2_with (first | ((try (refine gate_guard (by rfl) ?_; dsimp only)); refine wpl_load w.heap.size 0 x (range_of_blk (t := 23) HX.out) hx (by rfl) _ (by rfl) (by rfl) ?_; go_frame))
  have hcn := has_calls Ab cb b hx _ Rb.out
  rw [hq.out] at hcn
  refine hcn.mono ?_
  rintro e V2 ⟨rfl, hb2⟩
  clear hcn
  replace Ra := Aside0.mk (Kd.C_below Ra.out hb2)
  replace Rb := Aside0.mk (Kd.C_below Rb.out hb2)
  replace HX := Aside0.mk (blk_below HX.out hb2)
  replace HB := Aside0.mk (below_step HB.out hb2)
  clear hb2
  go_wp2_with (first | ((try (refine gate_guard (by rfl) ?_; dsimp only)); refine wpl_load w.heap.size 0 x (range_of_blk (t := 23) HX.out) hx (by rfl) _ (by rfl) (by rfl) ?_; go_frame))
  obtain ⟨r1, hr1⟩ : ∃ r : List Id, r = bothI a b := ⟨_, rfl⟩
  have Lr1 : Aside0 (r1.length ≤ 60) := ⟨by rw [hr1]; have := La.out; have := Lb.out; exact Nat.le_trans (len_sortI _) (by rw [List.length_append]; omega)⟩
  have hcn := both_calls Aa ca a Ab cb b _ Ra.out Rb.out (by have := La.out; have := Lb.out; omega)
  rw [← hr1] at hcn
  have Er1 := Aside0.mk hr1
  clear hr1
  refine hcn.mono ?_
  rintro e V3 ⟨Ar1, cr1, rfl, hC, hb3⟩
  clear hcn
  replace Ra := Aside0.mk (Kd.C_below Ra.out hb3)
  replace Rb := Aside0.mk (Kd.C_below Rb.out hb3)
  replace HX := Aside0.mk (blk_below HX.out hb3)
  replace HB := Aside0.mk (below_step HB.out hb3)
  clear hb3
  have Rr1 := Aside0.mk hC
  clear hC
  go_wp2_with (first | ((try (refine gate_guard (by rfl) ?_; dsimp only)); refine wpl_load w.heap.size 0 x (range_of_blk (t := 23) HX.out) hx (by rfl) _ (by rfl) (by rfl) ?_; go_frame))
  obtain ⟨r2, hr2⟩ : ∃ r : List Id, r = someI a b true := ⟨_, rfl⟩
  have Lr2 : Aside0 (r2.length ≤ 30) := ⟨by rw [hr2]; exact Nat.le_trans (len_someI _ _ _) La.out⟩
  have hcn := common_calls Aa ca a Ab cb b _ Ra.out Rb.out (by have := La.out; omega) (by have := Lb.out; omega)
  rw [← hr2] at hcn
  have Er2 := Aside0.mk hr2
  clear hr2
  refine hcn.mono ?_
  rintro e V4 ⟨Ar2, cr2, rfl, hC, hb4⟩
  clear hcn
  replace Ra := Aside0.mk (Kd.C_below Ra.out hb4)
  replace Rb := Aside0.mk (Kd.C_below Rb.out hb4)
  replace Rr1 := Aside0.mk (Kd.C_below Rr1.out hb4)
  replace HX := Aside0.mk (blk_below HX.out hb4)
  replace HB := Aside0.mk (below_step HB.out hb4)
  clear hb4
  have Rr2 := Aside0.mk hC
  clear hC
  go_wp2_with (first | ((try (refine gate_guard (by rfl) ?_; dsimp only)); refine wpl_load w.heap.size 0 x (range_of_blk (t := 23) HX.out) hx (by rfl) _ (by rfl) (by rfl) ?_; go_frame))
  obtain ⟨r3, hr3⟩ : ∃ r : List Id, r = someI a b false := ⟨_, rfl⟩
  have Lr3 : Aside0 (r3.length ≤ 30) := ⟨by rw [hr3]; exact Nat.le_trans (len_someI _ _ _) La.out⟩
  have hcn := without_calls Aa ca a Ab cb b _ Ra.out Rb.out (by have := La.out; omega) (by have := Lb.out; omega)
  rw [← hr3] at hcn
  have Er3 := Aside0.mk hr3
  clear hr3
  refine hcn.mono ?_
  rintro e V5 ⟨Ar3, cr3, rfl, hC, hb5⟩
  clear hcn
  replace Ra := Aside0.mk (Kd.C_below Ra.out hb5)
  replace Rb := Aside0.mk (Kd.C_below Rb.out hb5)
  replace Rr1 := Aside0.mk (Kd.C_below Rr1.out hb5)
  replace Rr2 := Aside0.mk (Kd.C_below Rr2.out hb5)
  replace HX := Aside0.mk (blk_below HX.out hb5)
  replace HB := Aside0.mk (below_step HB.out hb5)
  clear hb5
  have Rr3 := Aside0.mk hC
  clear hC
  go_wp2_with (first | ((try (refine gate_guard (by rfl) ?_; dsimp only)); refine wpl_load w.heap.size 0 x (range_of_blk (t := 23) HX.out) hx (by rfl) _ (by rfl) (by rfl) ?_; go_frame))
  have q1 : decide (x ∈ r1) = true := by rw [Er1.out, sets_both, hp.out, hq.out]; rfl
  have hcn := has_calls Ar1 cr1 r1 hx _ Rr1.out
  rw [q1] at hcn
  refine hcn.mono ?_
  rintro e V6 ⟨rfl, hb6⟩
  clear hcn
  replace Ra := Aside0.mk (Kd.C_below Ra.out hb6)
  replace Rb := Aside0.mk (Kd.C_below Rb.out hb6)
  replace Rr1 := Aside0.mk (Kd.C_below Rr1.out hb6)
  replace Rr2 := Aside0.mk (Kd.C_below Rr2.out hb6)
  replace Rr3 := Aside0.mk (Kd.C_below Rr3.out hb6)
  replace HX := Aside0.mk (blk_below HX.out hb6)
  replace HB := Aside0.mk (below_step HB.out hb6)
  clear hb6
  go_wp2_with (first | ((try (refine gate_guard (by rfl) ?_; dsimp only)); refine wpl_load w.heap.size 0 x (range_of_blk (t := 23) HX.out) hx (by rfl) _ (by rfl) (by rfl) ?_; go_frame))
  clear q1
  have q1 : decide (x ∈ r2) = true := by rw [Er2.out, sets_common, hp.out, hq.out]; rfl
  have hcn := has_calls Ar2 cr2 r2 hx _ Rr2.out
  rw [q1] at hcn
  refine hcn.mono ?_
  rintro e V7 ⟨rfl, hb7⟩
  clear hcn
  replace Ra := Aside0.mk (Kd.C_below Ra.out hb7)
  replace Rb := Aside0.mk (Kd.C_below Rb.out hb7)
  replace Rr1 := Aside0.mk (Kd.C_below Rr1.out hb7)
  replace Rr2 := Aside0.mk (Kd.C_below Rr2.out hb7)
  replace Rr3 := Aside0.mk (Kd.C_below Rr3.out hb7)
  replace HX := Aside0.mk (blk_below HX.out hb7)
  replace HB := Aside0.mk (below_step HB.out hb7)
  clear hb7
  go_wp2_with (first | ((try (refine gate_guard (by rfl) ?_; dsimp only)); refine wpl_load w.heap.size 0 x (range_of_blk (t := 23) HX.out) hx (by rfl) _ (by rfl) (by rfl) ?_; go_frame))
  clear q1
  have q1 : decide (x ∈ r3) = false := by rw [Er3.out, sets_without, hp.out, hq.out]; rfl
  have hcn := has_calls Ar3 cr3 r3 hx _ Rr3.out
  rw [q1] at hcn
  refine hcn.mono ?_
  rintro e V8 ⟨rfl, hb8⟩
  clear hcn
  replace Ra := Aside0.mk (Kd.C_below Ra.out hb8)
  replace Rb := Aside0.mk (Kd.C_below Rb.out hb8)
  replace Rr1 := Aside0.mk (Kd.C_below Rr1.out hb8)
  replace Rr2 := Aside0.mk (Kd.C_below Rr2.out hb8)
  replace Rr3 := Aside0.mk (Kd.C_below Rr3.out hb8)
  replace HX := Aside0.mk (blk_below HX.out hb8)
  replace HB := Aside0.mk (below_step HB.out hb8)
  clear hb8
  go_wp2_with (first | ((try (refine gate_guard (by rfl) ?_; dsimp only)); refine wpl_load w.heap.size 0 x (range_of_blk (t := 23) HX.out) hx (by rfl) _ (by rfl) (by rfl) ?_; go_frame))
  clear q1
  have q1 : risesI r1 = true := by rw [Er1.out]; exact rises_up (up_sortI _)
  have hcn := rises_calls Ar1 cr1 r1 _ Rr1.out
  rw [q1] at hcn
  refine hcn.mono ?_
  rintro e V9 ⟨rfl, hb9⟩
  clear hcn
  replace Ra := Aside0.mk (Kd.C_below Ra.out hb9)
  replace Rb := Aside0.mk (Kd.C_below Rb.out hb9)
  replace Rr1 := Aside0.mk (Kd.C_below Rr1.out hb9)
  replace Rr2 := Aside0.mk (Kd.C_below Rr2.out hb9)
  replace Rr3 := Aside0.mk (Kd.C_below Rr3.out hb9)
  replace HX := Aside0.mk (blk_below HX.out hb9)
  replace HB := Aside0.mk (below_step HB.out hb9)
  clear hb9
  go_wp2_with (first | ((try (refine gate_guard (by rfl) ?_; dsimp only)); refine wpl_load w.heap.size 0 x (range_of_blk (t := 23) HX.out) hx (by rfl) _ (by rfl) (by rfl) ?_; go_frame))
  clear q1
  have q1 : risesI r2 = true := by rw [Er2.out]; exact rises_up (up_sortI _)
  have hcn := rises_calls Ar2 cr2 r2 _ Rr2.out
  rw [q1] at hcn
  refine hcn.mono ?_
  rintro e V10 ⟨rfl, hb10⟩
  clear hcn
  replace Ra := Aside0.mk (Kd.C_below Ra.out hb10)
  replace Rb := Aside0.mk (Kd.C_below Rb.out hb10)
  replace Rr1 := Aside0.mk (Kd.C_below Rr1.out hb10)
  replace Rr2 := Aside0.mk (Kd.C_below Rr2.out hb10)
  replace Rr3 := Aside0.mk (Kd.C_below Rr3.out hb10)
  replace HX := Aside0.mk (blk_below HX.out hb10)
  replace HB := Aside0.mk (below_step HB.out hb10)
  clear hb10
  go_wp2_with (first | ((try (refine gate_guard (by rfl) ?_; dsimp only)); refine wpl_load w.heap.size 0 x (range_of_blk (t := 23) HX.out) hx (by rfl) _ (by rfl) (by rfl) ?_; go_frame))
  clear q1
  have q1 : risesI r3 = true := by rw [Er3.out]; exact rises_up (up_sortI _)
  have hcn := rises_calls Ar3 cr3 r3 _ Rr3.out
  rw [q1] at hcn
  refine hcn.mono ?_
  rintro e V11 ⟨rfl, hb11⟩
  clear hcn
  replace Ra := Aside0.mk (Kd.C_below Ra.out hb11)
  replace Rb := Aside0.mk (Kd.C_below Rb.out hb11)
  replace Rr1 := Aside0.mk (Kd.C_below Rr1.out hb11)
  replace Rr2 := Aside0.mk (Kd.C_below Rr2.out hb11)
  replace Rr3 := Aside0.mk (Kd.C_below Rr3.out hb11)
  replace HX := Aside0.mk (blk_below HX.out hb11)
  replace HB := Aside0.mk (below_step HB.out hb11)
  clear hb11
  go_wp2_with (first | ((try (refine gate_guard (by rfl) ?_; dsimp only)); refine wpl_load w.heap.size 0 x (range_of_blk (t := 23) HX.out) hx (by rfl) _ (by rfl) (by rfl) ?_; go_frame))
  clear q1
  have hs0 : Aside0 (r1.length = (sortI b).length + r3.length) := ⟨by rw [Er1.out, Er3.out]; exact sets_len1 a b⟩
  have hs9 : Aside0 ((sortI a).length = r2.length + r3.length) := ⟨by rw [Er2.out, Er3.out]; exact sets_len2 a b⟩
  obtain ⟨s1, hs1⟩ : ∃ r : List Id, r = sortI b := ⟨_, rfl⟩
  have Ls1 : Aside0 (s1.length ≤ 30) := ⟨by rw [hs1]; exact Nat.le_trans (len_sortI _) Lb.out⟩
  have hcn := sort_calls Ab cb b _ Rb.out (by have := Lb.out; omega)
  rw [← hs1] at hcn
  have Es1 := Aside0.mk hs1
  clear hs1
  have m1 : (r1.length : Int) = (s1.length : Int) + (r3.length : Int) := by have := hs0.out; rw [← Es1.out] at this; omega
  have m2 : (s1.length : Int) ≤ 30 := by have := Ls1.out; omega
  have m3 : (r3.length : Int) ≤ 30 := by have := Lr3.out; omega
  have m4 : wrap64 ((s1.length : Int) + (r3.length : Int)) = (s1.length : Int) + (r3.length : Int) := by unfold wrap64; omega
  refine hcn.mono ?_
  rintro e V12 ⟨As1, cs1, rfl, hC, hb12⟩
  clear hcn
  replace Ra := Aside0.mk (Kd.C_below Ra.out hb12)
  replace Rb := Aside0.mk (Kd.C_below Rb.out hb12)
  replace Rr1 := Aside0.mk (Kd.C_below Rr1.out hb12)
  replace Rr2 := Aside0.mk (Kd.C_below Rr2.out hb12)
  replace Rr3 := Aside0.mk (Kd.C_below Rr3.out hb12)
  replace HX := Aside0.mk (blk_below HX.out hb12)
  replace HB := Aside0.mk (below_step HB.out hb12)
  clear hb12
  have Rs1 := Aside0.mk hC
  clear hC
  go_wp2_with (first | ((try (refine gate_guard (by rfl) ?_; dsimp only)); refine wpl_load w.heap.size 0 x (range_of_blk (t := 23) HX.out) hx (by rfl) _ (by rfl) (by rfl) ?_; go_frame))
  obtain ⟨s2, hs2⟩ : ∃ r : List Id, r = sortI a := ⟨_, rfl⟩
  have Ls2 : Aside0 (s2.length ≤ 30) := ⟨by rw [hs2]; exact Nat.le_trans (len_sortI _) La.out⟩
  have hcn := sort_calls Aa ca a _ Ra.out (by have := La.out; omega)
  rw [← hs2] at hcn
  have Es2 := Aside0.mk hs2
  clear hs2
  have m5 : (s2.length : Int) = (r2.length : Int) + (r3.length : Int) := by have := hs9.out; rw [← Es2.out] at this; omega
  have m6 : (r2.length : Int) ≤ 30 := by have := Lr2.out; omega
  have m7 : wrap64 ((r2.length : Int) + (r3.length : Int)) = (r2.length : Int) + (r3.length : Int) := by unfold wrap64; omega
  refine hcn.mono ?_
  rintro e V13 ⟨As2, cs2, rfl, hC, hb13⟩
  clear hcn
  replace Ra := Aside0.mk (Kd.C_below Ra.out hb13)
  replace Rb := Aside0.mk (Kd.C_below Rb.out hb13)
  replace Rr1 := Aside0.mk (Kd.C_below Rr1.out hb13)
  replace Rr2 := Aside0.mk (Kd.C_below Rr2.out hb13)
  replace Rr3 := Aside0.mk (Kd.C_below Rr3.out hb13)
  replace Rs1 := Aside0.mk (Kd.C_below Rs1.out hb13)
  replace HX := Aside0.mk (blk_below HX.out hb13)
  replace HB := Aside0.mk (below_step HB.out hb13)
  clear hb13
  have Rs2 := Aside0.mk hC
  clear hC
  go_wp2_with (first | ((try (refine gate_guard (by rfl) ?_; dsimp only)); refine wpl_load w.heap.size 0 x (range_of_blk (t := 23) HX.out) hx (by rfl) _ (by rfl) (by rfl) ?_; go_frame))
  go_wp2
  go_ret
  exact ⟨rfl, HB.out⟩
set_option maxHeartbeats 8000000 in
set_option maxRecDepth 100000 in
theorem idsSets_tf (Aa : Option Addr) (ca : Nat) (a : List Id) (Ab : Option Addr) (cb : Nat) (b : List Id) {x : Id} (hx : okId x) (hpb : decide (x ∈ a) = true) (hqb : decide (x ∈ b) = false) (w : World) (hra : Kd.C kI w Aa a.length a) (hrb : Kd.C kI w Ab b.length b) :
    Calls Try.prog 8 #[.slice Aa a.length ca, .slice Ab b.length cb, valI x] w fun e w' => e = .returned (.bool true) ∧ Below w.heap.size w w' := by
  have hp := Aside0.mk hpb
  have hq := Aside0.mk hqb
  clear hpb hqb
  have Ra := Aside0.mk (Kd.C_alloc hra (.cells (arrI x) 23))
  have Rb := Aside0.mk (Kd.C_alloc hrb (.cells (arrI x) 23))
  have HX := Aside0.mk (blk_new w (.cells (arrI x) 23))
  have HB := Aside0.mk (below_alloc (Below.refl w.heap.size w) (.cells (arrI x) 23))
  clear hra hrb
  go_enter Try.func8, Try.ntmps8
  by_cases h1 : (a.length : Int) ≤ 30
  rotate_left
  · go_wp2_with fail
    refine (awake_calls _).mono ?_
    rintro e V0 ⟨rfl, hb0⟩
    replace HB := Aside0.mk (below_step HB.out hb0)
    clear hb0
    have h1' : (30 : Int) < a.length := by omega
    go_wp2
    go_ret
    exact ⟨rfl, HB.out⟩
  by_cases h2 : (b.length : Int) ≤ 30
  rotate_left
  · go_wp2_with fail
    refine (awake_calls _).mono ?_
    rintro e V0 ⟨rfl, hb0⟩
    replace HB := Aside0.mk (below_step HB.out hb0)
    clear hb0
    have h1' : ¬ (30 : Int) < a.length := by omega
    have h2' : (30 : Int) < b.length := by omega
    go_wp2
    go_ret
    exact ⟨rfl, HB.out⟩
  have La : Aside0 (a.length ≤ 30) := ⟨by omega⟩
  have Lb : Aside0 (b.length ≤ 30) := ⟨by omega⟩
  have h1' : ¬ (30 : Int) < a.length := by omega
  have h2' : ¬ (30 : Int) < b.length := by omega
  go_wp2_with fail
  refine (awake_calls _).mono ?_
  rintro e V0 ⟨rfl, hb0⟩
  replace Ra := Aside0.mk (Kd.C_below Ra.out hb0)
  replace Rb := Aside0.mk (Kd.C_below Rb.out hb0)
  replace HX := Aside0.mk (blk_below HX.out hb0)
  replace HB := Aside0.mk (below_step HB.out hb0)
  clear hb0
  go_wp2_with (first | ((try (refine gate_guard (by rfl) ?_; dsimp only)); refine wpl_load w.heap.size 0 x (range_of_blk (t := 23) HX.out) hx (by rfl) _ (by rfl) (by rfl) ?_; go_frame))
  have hcn := has_calls Aa ca a hx _ Ra.out
  rw [hp.out] at hcn
  refine hcn.mono ?_
  rintro e V1 ⟨rfl, hb1⟩
  clear hcn
  replace Ra := Aside0.mk (Kd.C_below Ra.out hb1)
  replace Rb := Aside0.mk (Kd.C_below Rb.out hb1)
  replace HX := Aside0.mk (blk_below HX.out hb1)
  replace HB := Aside0.mk (below_step HB.out hb1)
  clear hb1
  go_wp2_with (first | ((try (refine gate_guard (by rfl) ?_; dsimp only)); refine wpl_load w.heap.size 0 x (range_of_blk (t := 23) HX.out) hx (by rfl) _ (by rfl) (by rfl) ?_; go_frame))
  have hcn := has_calls Ab cb b hx _ Rb.out
  rw [hq.out] at hcn
  refine hcn.mono ?_
  rintro e V2 ⟨rfl, hb2⟩
  clear hcn
  replace Ra := Aside0.mk (Kd.C_below Ra.out hb2)
  replace Rb := Aside0.mk (Kd.C_below Rb.out hb2)
  replace HX := Aside0.mk (blk_below HX.out hb2)
  replace HB := Aside0.mk (below_step HB.out hb2)
  clear hb2
  go_wp2_with (first | ((try (refine gate_guard (by rfl) ?_; dsimp only)); refine wpl_load w.heap.size 0 x (range_of_blk (t := 23) HX.out) hx (by rfl) _ (by rfl) (by rfl) ?_; go_frame))
  obtain ⟨r1, hr1⟩ : ∃ r : List Id, r = bothI a b := ⟨_, rfl⟩
  have Lr1 : Aside0 (r1.length ≤ 60) := ⟨by rw [hr1]; have := La.out; have := Lb.out; exact Nat.le_trans (len_sortI _) (by rw [List.length_append]; omega)⟩
  have hcn := both_calls Aa ca a Ab cb b _ Ra.out Rb.out (by have := La.out; have := Lb.out; omega)
  rw [← hr1] at hcn
  have Er1 := Aside0.mk hr1
  clear hr1
  refine hcn.mono ?_
  rintro e V3 ⟨Ar1, cr1, rfl, hC, hb3⟩
  clear hcn
  replace Ra := Aside0.mk (Kd.C_below Ra.out hb3)
  replace Rb := Aside0.mk (Kd.C_below Rb.out hb3)
  replace HX := Aside0.mk (blk_below HX.out hb3)
  replace HB := Aside0.mk (below_step HB.out hb3)
  clear hb3
  have Rr1 := Aside0.mk hC
  clear hC
  go_wp2_with (first | ((try (refine gate_guard (by rfl) ?_; dsimp only)); refine wpl_load w.heap.size 0 x (range_of_blk (t := 23) HX.out) hx (by rfl) _ (by rfl) (by rfl) ?_; go_frame))
  obtain ⟨r2, hr2⟩ : ∃ r : List Id, r = someI a b true := ⟨_, rfl⟩
  have Lr2 : Aside0 (r2.length ≤ 30) := ⟨by rw [hr2]; exact Nat.le_trans (len_someI _ _ _) La.out⟩
  have hcn := common_calls Aa ca a Ab cb b _ Ra.out Rb.out (by have := La.out; omega) (by have := Lb.out; omega)
  rw [← hr2] at hcn
  have Er2 := Aside0.mk hr2
  clear hr2
  refine hcn.mono ?_
  rintro e V4 ⟨Ar2, cr2, rfl, hC, hb4⟩
  clear hcn
  replace Ra := Aside0.mk (Kd.C_below Ra.out hb4)
  replace Rb := Aside0.mk (Kd.C_below Rb.out hb4)
  replace Rr1 := Aside0.mk (Kd.C_below Rr1.out hb4)
  replace HX := Aside0.mk (blk_below HX.out hb4)
  replace HB := Aside0.mk (below_step HB.out hb4)
  clear hb4
  have Rr2 := Aside0.mk hC
  clear hC
  go_wp2_with (first | ((try (refine gate_guard (by rfl) ?_; dsimp only)); refine wpl_load w.heap.size 0 x (range_of_blk (t := 23) HX.out) hx (by rfl) _ (by rfl) (by rfl) ?_; go_frame))
  obtain ⟨r3, hr3⟩ : ∃ r : List Id, r = someI a b false := ⟨_, rfl⟩
  have Lr3 : Aside0 (r3.length ≤ 30) := ⟨by rw [hr3]; exact Nat.le_trans (len_someI _ _ _) La.out⟩
  have hcn := without_calls Aa ca a Ab cb b _ Ra.out Rb.out (by have := La.out; omega) (by have := Lb.out; omega)
  rw [← hr3] at hcn
  have Er3 := Aside0.mk hr3
  clear hr3
  refine hcn.mono ?_
  rintro e V5 ⟨Ar3, cr3, rfl, hC, hb5⟩
  clear hcn
  replace Ra := Aside0.mk (Kd.C_below Ra.out hb5)
  replace Rb := Aside0.mk (Kd.C_below Rb.out hb5)
  replace Rr1 := Aside0.mk (Kd.C_below Rr1.out hb5)
  replace Rr2 := Aside0.mk (Kd.C_below Rr2.out hb5)
  replace HX := Aside0.mk (blk_below HX.out hb5)
  replace HB := Aside0.mk (below_step HB.out hb5)
  clear hb5
  have Rr3 := Aside0.mk hC
  clear hC
  go_wp2_with (first | ((try (refine gate_guard (by rfl) ?_; dsimp only)); refine wpl_load w.heap.size 0 x (range_of_blk (t := 23) HX.out) hx (by rfl) _ (by rfl) (by rfl) ?_; go_frame))
  have q1 : decide (x ∈ r1) = true := by rw [Er1.out, sets_both, hp.out, hq.out]; rfl
  have hcn := has_calls Ar1 cr1 r1 hx _ Rr1.out
  rw [q1] at hcn
  refine hcn.mono ?_
  rintro e V6 ⟨rfl, hb6⟩
  clear hcn
  replace Ra := Aside0.mk (Kd.C_below Ra.out hb6)
  replace Rb := Aside0.mk (Kd.C_below Rb.out hb6)
  replace Rr1 := Aside0.mk (Kd.C_below Rr1.out hb6)
  replace Rr2 := Aside0.mk (Kd.C_below Rr2.out hb6)
  replace Rr3 := Aside0.mk (Kd.C_below Rr3.out hb6)
  replace HX := Aside0.mk (blk_below HX.out hb6)
  replace HB := Aside0.mk (below_step HB.out hb6)
  clear hb6
  go_wp2_with (first | ((try (refine gate_guard (by rfl) ?_; dsimp only)); refine wpl_load w.heap.size 0 x (range_of_blk (t := 23) HX.out) hx (by rfl) _ (by rfl) (by rfl) ?_; go_frame))
  clear q1
  have q1 : decide (x ∈ r2) = false := by rw [Er2.out, sets_common, hp.out, hq.out]; rfl
  have hcn := has_calls Ar2 cr2 r2 hx _ Rr2.out
  rw [q1] at hcn
  refine hcn.mono ?_
  rintro e V7 ⟨rfl, hb7⟩
  clear hcn
  replace Ra := Aside0.mk (Kd.C_below Ra.out hb7)
  replace Rb := Aside0.mk (Kd.C_below Rb.out hb7)
  replace Rr1 := Aside0.mk (Kd.C_below Rr1.out hb7)
  replace Rr2 := Aside0.mk (Kd.C_below Rr2.out hb7)
  replace Rr3 := Aside0.mk (Kd.C_below Rr3.out hb7)
  replace HX := Aside0.mk (blk_below HX.out hb7)
  replace HB := Aside0.mk (below_step HB.out hb7)
  clear hb7
  go_wp2_with (first | ((try (refine gate_guard (by rfl) ?_; dsimp only)); refine wpl_load w.heap.size 0 x (range_of_blk (t := 23) HX.out) hx (by rfl) _ (by rfl) (by rfl) ?_; go_frame))
  clear q1
  have q1 : decide (x ∈ r3) = true := by rw [Er3.out, sets_without, hp.out, hq.out]; rfl
  have hcn := has_calls Ar3 cr3 r3 hx _ Rr3.out
  rw [q1] at hcn
  refine hcn.mono ?_
  rintro e V8 ⟨rfl, hb8⟩
  clear hcn
  replace Ra := Aside0.mk (Kd.C_below Ra.out hb8)
  replace Rb := Aside0.mk (Kd.C_below Rb.out hb8)
  replace Rr1 := Aside0.mk (Kd.C_below Rr1.out hb8)
  replace Rr2 := Aside0.mk (Kd.C_below Rr2.out hb8)
  replace Rr3 := Aside0.mk (Kd.C_below Rr3.out hb8)
  replace HX := Aside0.mk (blk_below HX.out hb8)
  replace HB := Aside0.mk (below_step HB.out hb8)
  clear hb8
  go_wp2_with (first | ((try (refine gate_guard (by rfl) ?_; dsimp only)); refine wpl_load w.heap.size 0 x (range_of_blk (t := 23) HX.out) hx (by rfl) _ (by rfl) (by rfl) ?_; go_frame))
  clear q1
  have q1 : risesI r1 = true := by rw [Er1.out]; exact rises_up (up_sortI _)
  have hcn := rises_calls Ar1 cr1 r1 _ Rr1.out
  rw [q1] at hcn
  refine hcn.mono ?_
  rintro e V9 ⟨rfl, hb9⟩
  clear hcn
  replace Ra := Aside0.mk (Kd.C_below Ra.out hb9)
  replace Rb := Aside0.mk (Kd.C_below Rb.out hb9)
  replace Rr1 := Aside0.mk (Kd.C_below Rr1.out hb9)
  replace Rr2 := Aside0.mk (Kd.C_below Rr2.out hb9)
  replace Rr3 := Aside0.mk (Kd.C_below Rr3.out hb9)
  replace HX := Aside0.mk (blk_below HX.out hb9)
  replace HB := Aside0.mk (below_step HB.out hb9)
  clear hb9
  go_wp2_with (first | ((try (refine gate_guard (by rfl) ?_; dsimp only)); refine wpl_load w.heap.size 0 x (range_of_blk (t := 23) HX.out) hx (by rfl) _ (by rfl) (by rfl) ?_; go_frame))
  clear q1
  have q1 : risesI r2 = true := by rw [Er2.out]; exact rises_up (up_sortI _)
  have hcn := rises_calls Ar2 cr2 r2 _ Rr2.out
  rw [q1] at hcn
  refine hcn.mono ?_
  rintro e V10 ⟨rfl, hb10⟩
  clear hcn
  replace Ra := Aside0.mk (Kd.C_below Ra.out hb10)
  replace Rb := Aside0.mk (Kd.C_below Rb.out hb10)
  replace Rr1 := Aside0.mk (Kd.C_below Rr1.out hb10)
  replace Rr2 := Aside0.mk (Kd.C_below Rr2.out hb10)
  replace Rr3 := Aside0.mk (Kd.C_below Rr3.out hb10)
  replace HX := Aside0.mk (blk_below HX.out hb10)
  replace HB := Aside0.mk (below_step HB.out hb10)
  clear hb10
  go_wp2_with (first | ((try (refine gate_guard (by rfl) ?_; dsimp only)); refine wpl_load w.heap.size 0 x (range_of_blk (t := 23) HX.out) hx (by rfl) _ (by rfl) (by rfl) ?_; go_frame))
  clear q1
  have q1 : risesI r3 = true := by rw [Er3.out]; exact rises_up (up_sortI _)
  have hcn := rises_calls Ar3 cr3 r3 _ Rr3.out
  rw [q1] at hcn
  refine hcn.mono ?_
  rintro e V11 ⟨rfl, hb11⟩
  clear hcn
  replace Ra := Aside0.mk (Kd.C_below Ra.out hb11)
  replace Rb := Aside0.mk (Kd.C_below Rb.out hb11)
  replace Rr1 := Aside0.mk (Kd.C_below Rr1.out hb11)
  replace Rr2 := Aside0.mk (Kd.C_below Rr2.out hb11)
  replace Rr3 := Aside0.mk (Kd.C_below Rr3.out hb11)
  replace HX := Aside0.mk (blk_below HX.out hb11)
  replace HB := Aside0.mk (below_step HB.out hb11)
  clear hb11
  go_wp2_with (first | ((try (refine gate_guard (by rfl) ?_; dsimp only)); refine wpl_load w.heap.size 0 x (range_of_blk (t := 23) HX.out) hx (by rfl) _ (by rfl) (by rfl) ?_; go_frame))
  clear q1
  have hs0 : Aside0 (r1.length = (sortI b).length + r3.length) := ⟨by rw [Er1.out, Er3.out]; exact sets_len1 a b⟩
  have hs9 : Aside0 ((sortI a).length = r2.length + r3.length) := ⟨by rw [Er2.out, Er3.out]; exact sets_len2 a b⟩
  obtain ⟨s1, hs1⟩ : ∃ r : List Id, r = sortI b := ⟨_, rfl⟩
  have Ls1 : Aside0 (s1.length ≤ 30) := ⟨by rw [hs1]; exact Nat.le_trans (len_sortI _) Lb.out⟩
  have hcn := sort_calls Ab cb b _ Rb.out (by have := Lb.out; omega)
  rw [← hs1] at hcn
  have Es1 := Aside0.mk hs1
  clear hs1
  have m1 : (r1.length : Int) = (s1.length : Int) + (r3.length : Int) := by have := hs0.out; rw [← Es1.out] at this; omega
  have m2 : (s1.length : Int) ≤ 30 := by have := Ls1.out; omega
  have m3 : (r3.length : Int) ≤ 30 := by have := Lr3.out; omega
  have m4 : wrap64 ((s1.length : Int) + (r3.length : Int)) = (s1.length : Int) + (r3.length : Int) := by unfold wrap64; omega
  refine hcn.mono ?_
  rintro e V12 ⟨As1, cs1, rfl, hC, hb12⟩
  clear hcn
  replace Ra := Aside0.mk (Kd.C_below Ra.out hb12)
  replace Rb := Aside0.mk (Kd.C_below Rb.out hb12)
  replace Rr1 := Aside0.mk (Kd.C_below Rr1.out hb12)
  replace Rr2 := Aside0.mk (Kd.C_below Rr2.out hb12)
  replace Rr3 := Aside0.mk (Kd.C_below Rr3.out hb12)
  replace HX := Aside0.mk (blk_below HX.out hb12)
  replace HB := Aside0.mk (below_step HB.out hb12)
  clear hb12
  have Rs1 := Aside0.mk hC
  clear hC
  go_wp2_with (first | ((try (refine gate_guard (by rfl) ?_; dsimp only)); refine wpl_load w.heap.size 0 x (range_of_blk (t := 23) HX.out) hx (by rfl) _ (by rfl) (by rfl) ?_; go_frame))
  obtain ⟨s2, hs2⟩ : ∃ r : List Id, r = sortI a := ⟨_, rfl⟩
  have Ls2 : Aside0 (s2.length ≤ 30) := ⟨by rw [hs2]; exact Nat.le_trans (len_sortI _) La.out⟩
  have hcn := sort_calls Aa ca a _ Ra.out (by have := La.out; omega)
  rw [← hs2] at hcn
  have Es2 := Aside0.mk hs2
  clear hs2
  have m5 : (s2.length : Int) = (r2.length : Int) + (r3.length : Int) := by have := hs9.out; rw [← Es2.out] at this; omega
  have m6 : (r2.length : Int) ≤ 30 := by have := Lr2.out; omega
  have m7 : wrap64 ((r2.length : Int) + (r3.length : Int)) = (r2.length : Int) + (r3.length : Int) := by unfold wrap64; omega
  refine hcn.mono ?_
  rintro e V13 ⟨As2, cs2, rfl, hC, hb13⟩
  clear hcn
  replace Ra := Aside0.mk (Kd.C_below Ra.out hb13)
  replace Rb := Aside0.mk (Kd.C_below Rb.out hb13)
  replace Rr1 := Aside0.mk (Kd.C_below Rr1.out hb13)
  replace Rr2 := Aside0.mk (Kd.C_below Rr2.out hb13)
  replace Rr3 := Aside0.mk (Kd.C_below Rr3.out hb13)
  replace Rs1 := Aside0.mk (Kd.C_below Rs1.out hb13)
  replace HX := Aside0.mk (blk_below HX.out hb13)
  replace HB := Aside0.mk (below_step HB.out hb13)
  clear hb13
  have Rs2 := Aside0.mk hC
  clear hC
  go_wp2_with (first | ((try (refine gate_guard (by rfl) ?_; dsimp only)); refine wpl_load w.heap.size 0 x (range_of_blk (t := 23) HX.out) hx (by rfl) _ (by rfl) (by rfl) ?_; go_frame))
  go_wp2
  go_ret
  exact ⟨rfl, HB.out⟩
set_option maxHeartbeats 8000000 in
set_option maxRecDepth 100000 in
theorem idsSets_ft (Aa : Option Addr) (ca : Nat) (a : List Id) (Ab : Option Addr) (cb : Nat) (b : List Id) {x : Id} (hx : okId x) (hpb : decide (x ∈ a) = false) (hqb : decide (x ∈ b) = true) (w : World) (hra : Kd.C kI w Aa a.length a) (hrb : Kd.C kI w Ab b.length b) :
    Calls Try.prog 8 #[.slice Aa a.length ca, .slice Ab b.length cb, valI x] w fun e w' => e = .returned (.bool true) ∧ Below w.heap.size w w' := by
  have hp := Aside0.mk hpb
  have hq := Aside0.mk hqb
  clear hpb hqb
  have Ra := Aside0.mk (Kd.C_alloc hra (.cells (arrI x) 23))
  have Rb := Aside0.mk (Kd.C_alloc hrb (.cells (arrI x) 23))
  have HX := Aside0.mk (blk_new w (.cells (arrI x) 23))
  have HB := Aside0.mk (below_alloc (Below.refl w.heap.size w) (.cells (arrI x) 23))
  clear hra hrb
  go_enter Try.func8, Try.ntmps8
  by_cases h1 : (a.length : Int) ≤ 30
  rotate_left
  · go_wp2_with fail
    refine (awake_calls _).mono ?_
    rintro e V0 ⟨rfl, hb0⟩
    replace HB := Aside0.mk (below_step HB.out hb0)
    clear hb0
    have h1' : (30 : Int) < a.length := by omega
    go_wp2
    go_ret
    exact ⟨rfl, HB.out⟩
  by_cases h2 : (b.length : Int) ≤ 30
  rotate_left
  · go_wp2_with fail
    refine (awake_calls _).mono ?_
    rintro e V0 ⟨rfl, hb0⟩
    replace HB := Aside0.mk (below_step HB.out hb0)
    clear hb0
    have h1' : ¬ (30 : Int) < a.length := by omega
    have h2' : (30 : Int) < b.length := by omega
    go_wp2
    go_ret
    exact ⟨rfl, HB.out⟩
  have La : Aside0 (a.length ≤ 30) := ⟨by omega⟩
  have Lb : Aside0 (b.length ≤ 30) := ⟨by omega⟩
  have h1' : ¬ (30 : Int) < a.length := by omega
  have h2' : ¬ (30 : Int) < b.length := by omega
  go_wp2_with fail
  refine (awake_calls _).mono ?_
  rintro e V0 ⟨rfl, hb0⟩
  replace Ra := Aside0.mk (Kd.C_below Ra.out hb0)
  replace Rb := Aside0.mk (Kd.C_below Rb.out hb0)
  replace HX := Aside0.mk (blk_below HX.out hb0)
  replace HB := Aside0.mk (below_step HB.out hb0)
  clear hb0
  go_wp2_with (first | ((try (refine gate_guard (by rfl) ?_; dsimp only)); refine wpl_load w.heap.size 0 x (range_of_blk (t := 23) HX.out) hx (by rfl) _ (by rfl) (by rfl) ?_; go_frame))
  have hcn := has_calls Aa ca a hx _ Ra.out
  rw [hp.out] at hcn
  refine hcn.mono ?_
  rintro e V1 ⟨rfl, hb1⟩
  clear hcn
  replace Ra := Aside0.mk (Kd.C_below Ra.out hb1)
  replace Rb := Aside0.mk (Kd.C_below Rb.out hb1)
  replace HX := Aside0.mk (blk_below HX.out hb1)
  replace HB := Aside0.mk (below_step HB.out hb1)
  clear hb1
  go_wp2_with (first | ((try (refine gate_guard (by rfl) ?_; dsimp only)); refine wpl_load w.heap.size 0 x (range_of_blk (t := 23) HX.out) hx (by rfl) _ (by rfl) (by rfl) ?_; go_frame))
  have hcn := has_calls Ab cb b hx _ Rb.out
  rw [hq.out] at hcn
  refine hcn.mono ?_
  rintro e V2 ⟨rfl, hb2⟩
  clear hcn
  replace Ra := Aside0.mk (Kd.C_below Ra.out hb2)
  replace Rb := Aside0.mk (Kd.C_below Rb.out hb2)
  replace HX := Aside0.mk (blk_below HX.out hb2)
  replace HB := Aside0.mk (below_step HB.out hb2)
  clear hb2
  go_wp2_with (first | ((try (refine gate_guard (by rfl) ?_; dsimp only)); refine wpl_load w.heap.size 0 x (range_of_blk (t := 23) HX.out) hx (by rfl) _ (by rfl) (by rfl) ?_; go_frame))
  obtain ⟨r1, hr1⟩ : ∃ r : List Id, r = bothI a b := ⟨_, rfl⟩
  have Lr1 : Aside0 (r1.length ≤ 60) := ⟨by rw [hr1]; have := La.out; have := Lb.out; exact Nat.le_trans (len_sortI _) (by rw [List.length_append]; omega)⟩
  have hcn := both_calls Aa ca a Ab cb b _ Ra.out Rb.out (by have := La.out; have := Lb.out; omega)
  rw [← hr1] at hcn
  have Er1 := Aside0.mk hr1
  clear hr1
  refine hcn.mono ?_
  rintro e V3 ⟨Ar1, cr1, rfl, hC, hb3⟩
  clear hcn
  replace Ra := Aside0.mk (Kd.C_below Ra.out hb3)
  replace Rb := Aside0.mk (Kd.C_below Rb.out hb3)
  replace HX := Aside0.mk (blk_below HX.out hb3)
  replace HB := Aside0.mk (below_step HB.out hb3)
  clear hb3
  have Rr1 := Aside0.mk hC
  clear hC
  go_wp2_with (first | ((try (refine gate_guard (by rfl) ?_; dsimp only)); refine wpl_load w.heap.size 0 x (range_of_blk (t := 23) HX.out) hx (by rfl) _ (by rfl) (by rfl) ?_; go_frame))
  obtain ⟨r2, hr2⟩ : ∃ r : List Id, r = someI a b true := ⟨_, rfl⟩
  have Lr2 : Aside0 (r2.length ≤ 30) := ⟨by rw [hr2]; exact Nat.le_trans (len_someI _ _ _) La.out⟩
  have hcn := common_calls Aa ca a Ab cb b _ Ra.out Rb.out (by have := La.out; omega) (by have := Lb.out; omega)
  rw [← hr2] at hcn
  have Er2 := Aside0.mk hr2
  clear hr2
  refine hcn.mono ?_
  rintro e V4 ⟨Ar2, cr2, rfl, hC, hb4⟩
  clear hcn
  replace Ra := Aside0.mk (Kd.C_below Ra.out hb4)
  replace Rb := Aside0.mk (Kd.C_below Rb.out hb4)
  replace Rr1 := Aside0.mk (Kd.C_below Rr1.out hb4)
  replace HX := Aside0.mk (blk_below HX.out hb4)
  replace HB := Aside0.mk (below_step HB.out hb4)
  clear hb4
  have Rr2 := Aside0.mk hC
  clear hC
  go_wp2_with (first | ((try (refine gate_guard (by rfl) ?_; dsimp only)); refine wpl_load w.heap.size 0 x (range_of_blk (t := 23) HX.out) hx (by rfl) _ (by rfl) (by rfl) ?_; go_frame))
  obtain ⟨r3, hr3⟩ : ∃ r : List Id, r = someI a b false := ⟨_, rfl⟩
  have Lr3 : Aside0 (r3.length ≤ 30) := ⟨by rw [hr3]; exact Nat.le_trans (len_someI _ _ _) La.out⟩
  have hcn := without_calls Aa ca a Ab cb b _ Ra.out Rb.out (by have := La.out; omega) (by have := Lb.out; omega)
  rw [← hr3] at hcn
  have Er3 := Aside0.mk hr3
  clear hr3
  refine hcn.mono ?_
  rintro e V5 ⟨Ar3, cr3, rfl, hC, hb5⟩
  clear hcn
  replace Ra := Aside0.mk (Kd.C_below Ra.out hb5)
  replace Rb := Aside0.mk (Kd.C_below Rb.out hb5)
  replace Rr1 := Aside0.mk (Kd.C_below Rr1.out hb5)
  replace Rr2 := Aside0.mk (Kd.C_below Rr2.out hb5)
  replace HX := Aside0.mk (blk_below HX.out hb5)
  replace HB := Aside0.mk (below_step HB.out hb5)
  clear hb5
  have Rr3 := Aside0.mk hC
  clear hC
  go_wp2_with (first | ((try (refine gate_guard (by rfl) ?_; dsimp only)); refine wpl_load w.heap.size 0 x (range_of_blk (t := 23) HX.out) hx (by rfl) _ (by rfl) (by rfl) ?_; go_frame))
  have q1 : decide (x ∈ r1) = true := by rw [Er1.out, sets_both, hp.out, hq.out]; rfl
  have hcn := has_calls Ar1 cr1 r1 hx _ Rr1.out
  rw [q1] at hcn
  refine hcn.mono ?_
  rintro e V6 ⟨rfl, hb6⟩
  clear hcn
  replace Ra := Aside0.mk (Kd.C_below Ra.out hb6)
  replace Rb := Aside0.mk (Kd.C_below Rb.out hb6)
  replace Rr1 := Aside0.mk (Kd.C_below Rr1.out hb6)
  replace Rr2 := Aside0.mk (Kd.C_below Rr2.out hb6)
  replace Rr3 := Aside0.mk (Kd.C_below Rr3.out hb6)
  replace HX := Aside0.mk (blk_below HX.out hb6)
  replace HB := Aside0.mk (below_step HB.out hb6)
  clear hb6
  go_wp2_with (first | ((try (refine gate_guard (by rfl) ?_; dsimp only)); refine wpl_load w.heap.size 0 x (range_of_blk (t := 23) HX.out) hx (by rfl) _ (by rfl) (by rfl) ?_; go_frame))
  clear q1
  have q1 : decide (x ∈ r2) = false := by rw [Er2.out, sets_common, hp.out, hq.out]; rfl
  have hcn := has_calls Ar2 cr2 r2 hx _ Rr2.out
  rw [q1] at hcn
  refine hcn.mono ?_
  rintro e V7 ⟨rfl, hb7⟩
  clear hcn
  replace Ra := Aside0.mk (Kd.C_below Ra.out hb7)
  replace Rb := Aside0.mk (Kd.C_below Rb.out hb7)
  replace Rr1 := Aside0.mk (Kd.C_below Rr1.out hb7)
  replace Rr2 := Aside0.mk (Kd.C_below Rr2.out hb7)
  replace Rr3 := Aside0.mk (Kd.C_below Rr3.out hb7)
  replace HX := Aside0.mk (blk_below HX.out hb7)
  replace HB := Aside0.mk (below_step HB.out hb7)
  clear hb7
  go_wp2_with (first | ((try (refine gate_guard (by rfl) ?_; dsimp only)); refine wpl_load w.heap.size 0 x (range_of_blk (t := 23) HX.out) hx (by rfl) _ (by rfl) (by rfl) ?_; go_frame))
  clear q1
  have q1 : decide (x ∈ r3) = false := by rw [Er3.out, sets_without, hp.out, hq.out]; rfl
  have hcn := has_calls Ar3 cr3 r3 hx _ Rr3.out
  rw [q1] at hcn
  refine hcn.mono ?_
  rintro e V8 ⟨rfl, hb8⟩
  clear hcn
  replace Ra := Aside0.mk (Kd.C_below Ra.out hb8)
  replace Rb := Aside0.mk (Kd.C_below Rb.out hb8)
  replace Rr1 := Aside0.mk (Kd.C_below Rr1.out hb8)
  replace Rr2 := Aside0.mk (Kd.C_below Rr2.out hb8)
  replace Rr3 := Aside0.mk (Kd.C_below Rr3.out hb8)
  replace HX := Aside0.mk (blk_below HX.out hb8)
  replace HB := Aside0.mk (below_step HB.out hb8)
  clear hb8
  go_wp2_with (first | ((try (refine gate_guard (by rfl) ?_; dsimp only)); refine wpl_load w.heap.size 0 x (range_of_blk (t := 23) HX.out) hx (by rfl) _ (by rfl) (by rfl) ?_; go_frame))
  clear q1
  have q1 : risesI r1 = true := by rw [Er1.out]; exact rises_up (up_sortI _)
  have hcn := rises_calls Ar1 cr1 r1 _ Rr1.out
  rw [q1] at hcn
  refine hcn.mono ?_
  rintro e V9 ⟨rfl, hb9⟩
  clear hcn
  replace Ra := Aside0.mk (Kd.C_below Ra.out hb9)
  replace Rb := Aside0.mk (Kd.C_below Rb.out hb9)
  replace Rr1 := Aside0.mk (Kd.C_below Rr1.out hb9)
  replace Rr2 := Aside0.mk (Kd.C_below Rr2.out hb9)
  replace Rr3 := Aside0.mk (Kd.C_below Rr3.out hb9)
  replace HX := Aside0.mk (blk_below HX.out hb9)
  replace HB := Aside0.mk (below_step HB.out hb9)
  clear hb9
  go_wp2_with (first | ((try (refine gate_guard (by rfl) ?_; dsimp only)); refine wpl_load w.heap.size 0 x (range_of_blk (t := 23) HX.out) hx (by rfl) _ (by rfl) (by rfl) ?_; go_frame))
  clear q1
  have q1 : risesI r2 = true := by rw [Er2.out]; exact rises_up (up_sortI _)
  have hcn := rises_calls Ar2 cr2 r2 _ Rr2.out
  rw [q1] at hcn
  refine hcn.mono ?_
  rintro e V10 ⟨rfl, hb10⟩
  clear hcn
  replace Ra := Aside0.mk (Kd.C_below Ra.out hb10)
  replace Rb := Aside0.mk (Kd.C_below Rb.out hb10)
  replace Rr1 := Aside0.mk (Kd.C_below Rr1.out hb10)
  replace Rr2 := Aside0.mk (Kd.C_below Rr2.out hb10)
  replace Rr3 := Aside0.mk (Kd.C_below Rr3.out hb10)
  replace HX := Aside0.mk (blk_below HX.out hb10)
  replace HB := Aside0.mk (below_step HB.out hb10)
  clear hb10
  go_wp2_with (first | ((try (refine gate_guard (by rfl) ?_; dsimp only)); refine wpl_load w.heap.size 0 x (range_of_blk (t := 23) HX.out) hx (by rfl) _ (by rfl) (by rfl) ?_; go_frame))
  clear q1
  have q1 : risesI r3 = true := by rw [Er3.out]; exact rises_up (up_sortI _)
  have hcn := rises_calls Ar3 cr3 r3 _ Rr3.out
  rw [q1] at hcn
  refine hcn.mono ?_
  rintro e V11 ⟨rfl, hb11⟩
  clear hcn
  replace Ra := Aside0.mk (Kd.C_below Ra.out hb11)
  replace Rb := Aside0.mk (Kd.C_below Rb.out hb11)
  replace Rr1 := Aside0.mk (Kd.C_below Rr1.out hb11)
  replace Rr2 := Aside0.mk (Kd.C_below Rr2.out hb11)
  replace Rr3 := Aside0.mk (Kd.C_below Rr3.out hb11)
  replace HX := Aside0.mk (blk_below HX.out hb11)
  replace HB := Aside0.mk (below_step HB.out hb11)
  clear hb11
  go_wp2_with (first | ((try (refine gate_guard (by rfl) ?_; dsimp only)); refine wpl_load w.heap.size 0 x (range_of_blk (t := 23) HX.out) hx (by rfl) _ (by rfl) (by rfl) ?_; go_frame))
  clear q1
  have hs0 : Aside0 (r1.length = (sortI b).length + r3.length) := ⟨by rw [Er1.out, Er3.out]; exact sets_len1 a b⟩
  have hs9 : Aside0 ((sortI a).length = r2.length + r3.length) := ⟨by rw [Er2.out, Er3.out]; exact sets_len2 a b⟩
  obtain ⟨s1, hs1⟩ : ∃ r : List Id, r = sortI b := ⟨_, rfl⟩
  have Ls1 : Aside0 (s1.length ≤ 30) := ⟨by rw [hs1]; exact Nat.le_trans (len_sortI _) Lb.out⟩
  have hcn := sort_calls Ab cb b _ Rb.out (by have := Lb.out; omega)
  rw [← hs1] at hcn
  have Es1 := Aside0.mk hs1
  clear hs1
  have m1 : (r1.length : Int) = (s1.length : Int) + (r3.length : Int) := by have := hs0.out; rw [← Es1.out] at this; omega
  have m2 : (s1.length : Int) ≤ 30 := by have := Ls1.out; omega
  have m3 : (r3.length : Int) ≤ 30 := by have := Lr3.out; omega
  have m4 : wrap64 ((s1.length : Int) + (r3.length : Int)) = (s1.length : Int) + (r3.length : Int) := by unfold wrap64; omega
  refine hcn.mono ?_
  rintro e V12 ⟨As1, cs1, rfl, hC, hb12⟩
  clear hcn
  replace Ra := Aside0.mk (Kd.C_below Ra.out hb12)
  replace Rb := Aside0.mk (Kd.C_below Rb.out hb12)
  replace Rr1 := Aside0.mk (Kd.C_below Rr1.out hb12)
  replace Rr2 := Aside0.mk (Kd.C_below Rr2.out hb12)
  replace Rr3 := Aside0.mk (Kd.C_below Rr3.out hb12)
  replace HX := Aside0.mk (blk_below HX.out hb12)
  replace HB := Aside0.mk (below_step HB.out hb12)
  clear hb12
  have Rs1 := Aside0.mk hC
  clear hC
  go_wp2_with (first | ((try (refine gate_guard (by rfl) ?_; dsimp only)); refine wpl_load w.heap.size 0 x (range_of_blk (t := 23) HX.out) hx (by rfl) _ (by rfl) (by rfl) ?_; go_frame))
  obtain ⟨s2, hs2⟩ : ∃ r : List Id, r = sortI a := ⟨_, rfl⟩
  have Ls2 : Aside0 (s2.length ≤ 30) := ⟨by rw [hs2]; exact Nat.le_trans (len_sortI _) La.out⟩
  have hcn := sort_calls Aa ca a _ Ra.out (by have := La.out; omega)
  rw [← hs2] at hcn
  have Es2 := Aside0.mk hs2
  clear hs2
  have m5 : (s2.length : Int) = (r2.length : Int) + (r3.length : Int) := by have := hs9.out; rw [← Es2.out] at this; omega
  have m6 : (r2.length : Int) ≤ 30 := by have := Lr2.out; omega
  have m7 : wrap64 ((r2.length : Int) + (r3.length : Int)) = (r2.length : Int) + (r3.length : Int) := by unfold wrap64; omega
  refine hcn.mono ?_
  rintro e V13 ⟨As2, cs2, rfl, hC, hb13⟩
  clear hcn
  replace Ra := Aside0.mk (Kd.C_below Ra.out hb13)
  replace Rb := Aside0.mk (Kd.C_below Rb.out hb13)
  replace Rr1 := Aside0.mk (Kd.C_below Rr1.out hb13)
  replace Rr2 := Aside0.mk (Kd.C_below Rr2.out hb13)
  replace Rr3 := Aside0.mk (Kd.C_below Rr3.out hb13)
  replace Rs1 := Aside0.mk (Kd.C_below Rs1.out hb13)
  replace HX := Aside0.mk (blk_below HX.out hb13)
  replace HB := Aside0.mk (below_step HB.out hb13)
  clear hb13
  have Rs2 := Aside0.mk hC
  clear hC
  go_wp2_with (first | ((try (refine gate_guard (by rfl) ?_; dsimp only)); refine wpl_load w.heap.size 0 x (range_of_blk (t := 23) HX.out) hx (by rfl) _ (by rfl) (by rfl) ?_; go_frame))
  go_wp2
  go_ret
  exact ⟨rfl, HB.out⟩
set_option maxHeartbeats 8000000 in
set_option maxRecDepth 100000 in
theorem idsSets_ff (Aa : Option Addr) (ca : Nat) (a : List Id) (Ab : Option Addr) (cb : Nat) (b : List Id) {x : Id} (hx : okId x) (hpb : decide (x ∈ a) = false) (hqb : decide (x ∈ b) = false) (w : World) (hra : Kd.C kI w Aa a.length a) (hrb : Kd.C kI w Ab b.length b) :
    Calls Try.prog 8 #[.slice Aa a.length ca, .slice Ab b.length cb, valI x] w fun e w' => e = .returned (.bool true) ∧ Below w.heap.size w w' := by
  have hp := Aside0.mk hpb
  have hq := Aside0.mk hqb
  clear hpb hqb
  have Ra := Aside0.mk (Kd.C_alloc hra (.cells (arrI x) 23))
  have Rb := Aside0.mk (Kd.C_alloc hrb (.cells (arrI x) 23))
  have HX := Aside0.mk (blk_new w (.cells (arrI x) 23))
  have HB := Aside0.mk (below_alloc (Below.refl w.heap.size w) (.cells (arrI x) 23))
  clear hra hrb
  go_enter Try.func8, Try.ntmps8
  by_cases h1 : (a.length : Int) ≤ 30
  rotate_left
  · go_wp2_with fail
    refine (awake_calls _).mono ?_
    rintro e V0 ⟨rfl, hb0⟩
    replace HB := Aside0.mk (below_step HB.out hb0)
    clear hb0
    have h1' : (30 : Int) < a.length := by omega
    go_wp2
    go_ret
    exact ⟨rfl, HB.out⟩
  by_cases h2 : (b.length : Int) ≤ 30
  rotate_left
  · go_wp2_with fail
    refine (awake_calls _).mono ?_
    rintro e V0 ⟨rfl, hb0⟩
    replace HB := Aside0.mk (below_step HB.out hb0)
    clear hb0
    have h1' : ¬ (30 : Int) < a.length := by omega
    have h2' : (30 : Int) < b.length := by omega
    go_wp2
    go_ret
    exact ⟨rfl, HB.out⟩
  have La : Aside0 (a.length ≤ 30) := ⟨by omega⟩
  have Lb : Aside0 (b.length ≤ 30) := ⟨by omega⟩
  have h1' : ¬ (30 : Int) < a.length := by omega
  have h2' : ¬ (30 : Int) < b.length := by omega
  go_wp2_with fail
  refine (awake_calls _).mono ?_
  rintro e V0 ⟨rfl, hb0⟩
  replace Ra := Aside0.mk (Kd.C_below Ra.out hb0)
  replace Rb := Aside0.mk (Kd.C_below Rb.out hb0)
  replace HX := Aside0.mk (blk_below HX.out hb0)
  replace HB := Aside0.mk (below_step HB.out hb0)
  clear hb0
  go_wp2_with (first | ((try (refine gate_guard (by rfl) ?_; dsimp only)); refine wpl_load w.heap.size 0 x (range_of_blk (t := 23) HX.out) hx (by rfl) _ (by rfl) (by rfl) ?_; go_frame))
  have hcn := has_calls Aa ca a hx _ Ra.out
  rw [hp.out] at hcn
  refine hcn.mono ?_
  rintro e V1 ⟨rfl, hb1⟩
  clear hcn
  replace Ra := Aside0.mk (Kd.C_below Ra.out hb1)
  replace Rb := Aside0.mk (Kd.C_below Rb.out hb1)
  replace HX := Aside0.mk (blk_below HX.out hb1)
  replace HB := Aside0.mk (below_step HB.out hb1)
  clear hb1
  go_wp2_with (first | ((try (refine gate_guard (by rfl) ?_; dsimp only)); refine wpl_load w.heap.size 0 x (range_of_blk (t := 23) HX.out) hx (by rfl) _ (by rfl) (by rfl) ?_; go_frame))
  have hcn := has_calls Ab cb b hx _ Rb.out
  rw [hq.out] at hcn
  refine hcn.mono ?_
  rintro e V2 ⟨rfl, hb2⟩
  clear hcn
  replace Ra := Aside0.mk (Kd.C_below Ra.out hb2)
  replace Rb := Aside0.mk (Kd.C_below Rb.out hb2)
  replace HX := Aside0.mk (blk_below HX.out hb2)
  replace HB := Aside0.mk (below_step HB.out hb2)
  clear hb2
  go_wp2_with (first | ((try (refine gate_guard (by rfl) ?_; dsimp only)); refine wpl_load w.heap.size 0 x (range_of_blk (t := 23) HX.out) hx (by rfl) _ (by rfl) (by rfl) ?_; go_frame))
  obtain ⟨r1, hr1⟩ : ∃ r : List Id, r = bothI a b := ⟨_, rfl⟩
  have Lr1 : Aside0 (r1.length ≤ 60) := ⟨by rw [hr1]; have := La.out; have := Lb.out; exact Nat.le_trans (len_sortI _) (by rw [List.length_append]; omega)⟩
  have hcn := both_calls Aa ca a Ab cb b _ Ra.out Rb.out (by have := La.out; have := Lb.out; omega)
  rw [← hr1] at hcn
  have Er1 := Aside0.mk hr1
  clear hr1
  refine hcn.mono ?_
  rintro e V3 ⟨Ar1, cr1, rfl, hC, hb3⟩
  clear hcn
  replace Ra := Aside0.mk (Kd.C_below Ra.out hb3)
  replace Rb := Aside0.mk (Kd.C_below Rb.out hb3)
  replace HX := Aside0.mk (blk_below HX.out hb3)
  replace HB := Aside0.mk (below_step HB.out hb3)
  clear hb3
  have Rr1 := Aside0.mk hC
  clear hC
  go_wp2_with (first | ((try (refine gate_guard (by rfl) ?_; dsimp only)); refine wpl_load w.heap.size 0 x (range_of_blk (t := 23) HX.out) hx (by rfl) _ (by rfl) (by rfl) ?_; go_frame))
  obtain ⟨r2, hr2⟩ : ∃ r : List Id, r = someI a b true := ⟨_, rfl⟩
  have Lr2 : Aside0 (r2.length ≤ 30) := ⟨by rw [hr2]; exact Nat.le_trans (len_someI _ _ _) La.out⟩
  have hcn := common_calls Aa ca a Ab cb b _ Ra.out Rb.out (by have := La.out; omega) (by have := Lb.out; omega)
  rw [← hr2] at hcn
  have Er2 := Aside0.mk hr2
  clear hr2
  refine hcn.mono ?_
  rintro e V4 ⟨Ar2, cr2, rfl, hC, hb4⟩
  clear hcn
  replace Ra := Aside0.mk (Kd.C_below Ra.out hb4)
  replace Rb := Aside0.mk (Kd.C_below Rb.out hb4)
  replace Rr1 := Aside0.mk (Kd.C_below Rr1.out hb4)
  replace HX := Aside0.mk (blk_below HX.out hb4)
  replace HB := Aside0.mk (below_step HB.out hb4)
  clear hb4
  have Rr2 := Aside0.mk hC
  clear hC
  go_wp2_with (first | ((try (refine gate_guard (by rfl) ?_; dsimp only)); refine wpl_load w.heap.size 0 x (range_of_blk (t := 23) HX.out) hx (by rfl) _ (by rfl) (by rfl) ?_; go_frame))
  obtain ⟨r3, hr3⟩ : ∃ r : List Id, r = someI a b false := ⟨_, rfl⟩
  have Lr3 : Aside0 (r3.length ≤ 30) := ⟨by rw [hr3]; exact Nat.le_trans (len_someI _ _ _) La.out⟩
  have hcn := without_calls Aa ca a Ab cb b _ Ra.out Rb.out (by have := La.out; omega) (by have := Lb.out; omega)
  rw [← hr3] at hcn
  have Er3 := Aside0.mk hr3
  clear hr3
  refine hcn.mono ?_
  rintro e V5 ⟨Ar3, cr3, rfl, hC, hb5⟩
  clear hcn
  replace Ra := Aside0.mk (Kd.C_below Ra.out hb5)
  replace Rb := Aside0.mk (Kd.C_below Rb.out hb5)
  replace Rr1 := Aside0.mk (Kd.C_below Rr1.out hb5)
  replace Rr2 := Aside0.mk (Kd.C_below Rr2.out hb5)
  replace HX := Aside0.mk (blk_below HX.out hb5)
  replace HB := Aside0.mk (below_step HB.out hb5)
  clear hb5
  have Rr3 := Aside0.mk hC
  clear hC
  go_wp2_with (first | ((try (refine gate_guard (by rfl) ?_; dsimp only)); refine wpl_load w.heap.size 0 x (range_of_blk (t := 23) HX.out) hx (by rfl) _ (by rfl) (by rfl) ?_; go_frame))
  have q1 : decide (x ∈ r1) = false := by rw [Er1.out, sets_both, hp.out, hq.out]; rfl
  have hcn := has_calls Ar1 cr1 r1 hx _ Rr1.out
  rw [q1] at hcn
  refine hcn.mono ?_
  rintro e V6 ⟨rfl, hb6⟩
  clear hcn
  replace Ra := Aside0.mk (Kd.C_below Ra.out hb6)
  replace Rb := Aside0.mk (Kd.C_below Rb.out hb6)
  replace Rr1 := Aside0.mk (Kd.C_below Rr1.out hb6)
  replace Rr2 := Aside0.mk (Kd.C_below Rr2.out hb6)
  replace Rr3 := Aside0.mk (Kd.C_below Rr3.out hb6)
  replace HX := Aside0.mk (blk_below HX.out hb6)
  replace HB := Aside0.mk (below_step HB.out hb6)
  clear hb6
  go_wp2_with (first | ((try (refine gate_guard (by rfl) ?_; dsimp only)); refine wpl_load w.heap.size 0 x (range_of_blk (t := 23) HX.out) hx (by rfl) _ (by rfl) (by rfl) ?_; go_frame))
  clear q1
  have q1 : decide (x ∈ r2) = false := by rw [Er2.out, sets_common, hp.out, hq.out]; rfl
  have hcn := has_calls Ar2 cr2 r2 hx _ Rr2.out
  rw [q1] at hcn
  refine hcn.mono ?_
  rintro e V7 ⟨rfl, hb7⟩
  clear hcn
  replace Ra := Aside0.mk (Kd.C_below Ra.out hb7)
  replace Rb := Aside0.mk (Kd.C_below Rb.out hb7)
  replace Rr1 := Aside0.mk (Kd.C_below Rr1.out hb7)
  replace Rr2 := Aside0.mk (Kd.C_below Rr2.out hb7)
  replace Rr3 := Aside0.mk (Kd.C_below Rr3.out hb7)
  replace HX := Aside0.mk (blk_below HX.out hb7)
  replace HB := Aside0.mk (below_step HB.out hb7)
  clear hb7
  go_wp2_with (first | ((try (refine gate_guard (by rfl) ?_; dsimp only)); refine wpl_load w.heap.size 0 x (range_of_blk (t := 23) HX.out) hx (by rfl) _ (by rfl) (by rfl) ?_; go_frame))
  clear q1
  have q1 : decide (x ∈ r3) = false := by rw [Er3.out, sets_without, hp.out, hq.out]; rfl
  have hcn := has_calls Ar3 cr3 r3 hx _ Rr3.out
  rw [q1] at hcn
  refine hcn.mono ?_
  rintro e V8 ⟨rfl, hb8⟩
  clear hcn
  replace Ra := Aside0.mk (Kd.C_below Ra.out hb8)
  replace Rb := Aside0.mk (Kd.C_below Rb.out hb8)
  replace Rr1 := Aside0.mk (Kd.C_below Rr1.out hb8)
  replace Rr2 := Aside0.mk (Kd.C_below Rr2.out hb8)
  replace Rr3 := Aside0.mk (Kd.C_below Rr3.out hb8)
  replace HX := Aside0.mk (blk_below HX.out hb8)
  replace HB := Aside0.mk (below_step HB.out hb8)
  clear hb8
  go_wp2_with (first | ((try (refine gate_guard (by rfl) ?_; dsimp only)); refine wpl_load w.heap.size 0 x (range_of_blk (t := 23) HX.out) hx (by rfl) _ (by rfl) (by rfl) ?_; go_frame))
  clear q1
  have q1 : risesI r1 = true := by rw [Er1.out]; exact rises_up (up_sortI _)
  have hcn := rises_calls Ar1 cr1 r1 _ Rr1.out
  rw [q1] at hcn
  refine hcn.mono ?_
  rintro e V9 ⟨rfl, hb9⟩
  clear hcn
  replace Ra := Aside0.mk (Kd.C_below Ra.out hb9)
  replace Rb := Aside0.mk (Kd.C_below Rb.out hb9)
  replace Rr1 := Aside0.mk (Kd.C_below Rr1.out hb9)
  replace Rr2 := Aside0.mk (Kd.C_below Rr2.out hb9)
  replace Rr3 := Aside0.mk (Kd.C_below Rr3.out hb9)
  replace HX := Aside0.mk (blk_below HX.out hb9)
  replace HB := Aside0.mk (below_step HB.out hb9)
  clear hb9
  go_wp2_with (first | ((try (refine gate_guard (by rfl) ?_; dsimp only)); refine wpl_load w.heap.size 0 x (range_of_blk (t := 23) HX.out) hx (by rfl) _ (by rfl) (by rfl) ?_; go_frame))
  clear q1
  have q1 : risesI r2 = true := by rw [Er2.out]; exact rises_up (up_sortI _)
  have hcn := rises_calls Ar2 cr2 r2 _ Rr2.out
  rw [q1] at hcn
  refine hcn.mono ?_
  rintro e V10 ⟨rfl, hb10⟩
  clear hcn
  replace Ra := Aside0.mk (Kd.C_below Ra.out hb10)
  replace Rb := Aside0.mk (Kd.C_below Rb.out hb10)
  replace Rr1 := Aside0.mk (Kd.C_below Rr1.out hb10)
  replace Rr2 := Aside0.mk (Kd.C_below Rr2.out hb10)
  replace Rr3 := Aside0.mk (Kd.C_below Rr3.out hb10)
  replace HX := Aside0.mk (blk_below HX.out hb10)
  replace HB := Aside0.mk (below_step HB.out hb10)
  clear hb10
  go_wp2_with (first | ((try (refine gate_guard (by rfl) ?_; dsimp only)); refine wpl_load w.heap.size 0 x (range_of_blk (t := 23) HX.out) hx (by rfl) _ (by rfl) (by rfl) ?_; go_frame))
  clear q1
  have q1 : risesI r3 = true := by rw [Er3.out]; exact rises_up (up_sortI _)
  have hcn := rises_calls Ar3 cr3 r3 _ Rr3.out
  rw [q1] at hcn
  refine hcn.mono ?_
  rintro e V11 ⟨rfl, hb11⟩
  clear hcn
  replace Ra := Aside0.mk (Kd.C_below Ra.out hb11)
  replace Rb := Aside0.mk (Kd.C_below Rb.out hb11)
  replace Rr1 := Aside0.mk (Kd.C_below Rr1.out hb11)
  replace Rr2 := Aside0.mk (Kd.C_below Rr2.out hb11)
  replace Rr3 := Aside0.mk (Kd.C_below Rr3.out hb11)
  replace HX := Aside0.mk (blk_below HX.out hb11)
  replace HB := Aside0.mk (below_step HB.out hb11)
  clear hb11
  go_wp2_with (first | ((try (refine gate_guard (by rfl) ?_; dsimp only)); refine wpl_load w.heap.size 0 x (range_of_blk (t := 23) HX.out) hx (by rfl) _ (by rfl) (by rfl) ?_; go_frame))
  clear q1
  have hs0 : Aside0 (r1.length = (sortI b).length + r3.length) := ⟨by rw [Er1.out, Er3.out]; exact sets_len1 a b⟩
  have hs9 : Aside0 ((sortI a).length = r2.length + r3.length) := ⟨by rw [Er2.out, Er3.out]; exact sets_len2 a b⟩
  obtain ⟨s1, hs1⟩ : ∃ r : List Id, r = sortI b := ⟨_, rfl⟩
  have Ls1 : Aside0 (s1.length ≤ 30) := ⟨by rw [hs1]; exact Nat.le_trans (len_sortI _) Lb.out⟩
  have hcn := sort_calls Ab cb b _ Rb.out (by have := Lb.out; omega)
  rw [← hs1] at hcn
  have Es1 := Aside0.mk hs1
  clear hs1
  have m1 : (r1.length : Int) = (s1.length : Int) + (r3.length : Int) := by have := hs0.out; rw [← Es1.out] at this; omega
  have m2 : (s1.length : Int) ≤ 30 := by have := Ls1.out; omega
  have m3 : (r3.length : Int) ≤ 30 := by have := Lr3.out; omega
  have m4 : wrap64 ((s1.length : Int) + (r3.length : Int)) = (s1.length : Int) + (r3.length : Int) := by unfold wrap64; omega
  refine hcn.mono ?_
  rintro e V12 ⟨As1, cs1, rfl, hC, hb12⟩
  clear hcn
  replace Ra := Aside0.mk (Kd.C_below Ra.out hb12)
  replace Rb := Aside0.mk (Kd.C_below Rb.out hb12)
  replace Rr1 := Aside0.mk (Kd.C_below Rr1.out hb12)
  replace Rr2 := Aside0.mk (Kd.C_below Rr2.out hb12)
  replace Rr3 := Aside0.mk (Kd.C_below Rr3.out hb12)
  replace HX := Aside0.mk (blk_below HX.out hb12)
  replace HB := Aside0.mk (below_step HB.out hb12)
  clear hb12
  have Rs1 := Aside0.mk hC
  clear hC
  go_wp2_with (first | ((try (refine gate_guard (by rfl) ?_; dsimp only)); refine wpl_load w.heap.size 0 x (range_of_blk (t := 23) HX.out) hx (by rfl) _ (by rfl) (by rfl) ?_; go_frame))
  obtain ⟨s2, hs2⟩ : ∃ r : List Id, r = sortI a := ⟨_, rfl⟩
  have Ls2 : Aside0 (s2.length ≤ 30) := ⟨by rw [hs2]; exact Nat.le_trans (len_sortI _) La.out⟩
  have hcn := sort_calls Aa ca a _ Ra.out (by have := La.out; omega)
  rw [← hs2] at hcn
  have Es2 := Aside0.mk hs2
  clear hs2
  have m5 : (s2.length : Int) = (r2.length : Int) + (r3.length : Int) := by have := hs9.out; rw [← Es2.out] at this; omega
  have m6 : (r2.length : Int) ≤ 30 := by have := Lr2.out; omega
  have m7 : wrap64 ((r2.length : Int) + (r3.length : Int)) = (r2.length : Int) + (r3.length : Int) := by unfold wrap64; omega
  refine hcn.mono ?_
  rintro e V13 ⟨As2, cs2, rfl, hC, hb13⟩
  clear hcn
  replace Ra := Aside0.mk (Kd.C_below Ra.out hb13)
  replace Rb := Aside0.mk (Kd.C_below Rb.out hb13)
  replace Rr1 := Aside0.mk (Kd.C_below Rr1.out hb13)
  replace Rr2 := Aside0.mk (Kd.C_below Rr2.out hb13)
  replace Rr3 := Aside0.mk (Kd.C_below Rr3.out hb13)
  replace Rs1 := Aside0.mk (Kd.C_below Rs1.out hb13)
  replace HX := Aside0.mk (blk_below HX.out hb13)
  replace HB := Aside0.mk (below_step HB.out hb13)
  clear hb13
  have Rs2 := Aside0.mk hC
  clear hC
  go_wp2_with (first | ((try (refine gate_guard (by rfl) ?_; dsimp only)); refine wpl_load w.heap.size 0 x (range_of_blk (t := 23) HX.out) hx (by rfl) _ (by rfl) (by rfl) ?_; go_frame))
  go_wp2
  go_ret
  exact ⟨rfl, HB.out⟩
theorem idsSets_calls (Aa : Option Addr) (ca : Nat) (a : List Id) (Ab : Option Addr) (cb : Nat) (b : List Id) {x : Id} (hx : okId x) (w : World) (hra : Kd.C kI w Aa a.length a) (hrb : Kd.C kI w Ab b.length b) :
    Calls Try.prog 8 #[.slice Aa a.length ca, .slice Ab b.length cb, valI x] w fun e w' => e = .returned (.bool true) ∧ Below w.heap.size w w' := by
  cases hp : decide (x ∈ a) <;> cases hq : decide (x ∈ b)
  · exact idsSets_ff Aa ca a Ab cb b hx hp hq w hra hrb
  · exact idsSets_ft Aa ca a Ab cb b hx hp hq w hra hrb
  · exact idsSets_tf Aa ca a Ab cb b hx hp hq w hra hrb
  · exact idsSets_tt Aa ca a Ab cb b hx hp hq w hra hrb
end Go.Proofs.Ytkgjdeicjkibiaa.D
