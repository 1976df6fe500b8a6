/- IdsParts: it answers true. By hand: one call behind the other. -/
import Derived.Test.YtkgjdeicjkibiaaDIAwake
import Derived.Test.YtkgjdeicjkibiaaDISame
namespace Go.Proofs.Ytkgjdeicjkibiaa.D
open Go.RowKit Go.Maps Go.Proofs.YtkgjdeicjkibiaaW.PrintWords Go.Proofs.YtkgjdeicjkibiaaW.PrintLast Go.Proofs.YtkgjdeicjkibiaaW.PrintMore Go.Proofs.YtkgjdeicjkibiaaW
set_option linter.unusedVariables false
set_option linter.unusedSimpArgs false
theorem parts_one (a b : List Id) : bothI (bothI (someI a b false) (someI a b true)) (someI b a false) = bothI a b := by
  refine up_ext (up_sortI _) (up_sortI _) fun x => ?_
  simp only [mem_bothI, mem_someI, decide_eq_true_eq, decide_eq_false_iff_not]
  by_cases h1 : x ∈ a <;> by_cases h2 : x ∈ b <;> simp [h1, h2]
theorem parts_two (a b c : List Id) : bothI (bothI a b) c = bothI a (bothI b c) := by
  refine up_ext (up_sortI _) (up_sortI _) fun x => ?_
  simp only [mem_bothI]
  by_cases h1 : x ∈ a <;> by_cases h2 : x ∈ b <;> by_cases h3 : x ∈ c <;> simp [h1, h2, h3]
theorem parts_three (a b c : List Id) : someI (someI a b true) c true = someI a (someI b c true) true := by
  refine up_ext (up_sortI _) (up_sortI _) fun x => ?_
  simp only [mem_someI, decide_eq_true_eq]
  by_cases h1 : x ∈ a <;> by_cases h2 : x ∈ b <;> by_cases h3 : x ∈ c <;> simp [h1, h2, h3]
theorem parts_four (a b c : List Id) : someI (someI a b false) c false = someI a (bothI b c) false := by
  refine up_ext (up_sortI _) (up_sortI _) fun x => ?_
  simp only [mem_someI, mem_bothI, decide_eq_false_iff_not]
  by_cases h1 : x ∈ a <;> by_cases h2 : x ∈ b <;> by_cases h3 : x ∈ c <;> simp [h1, h2, h3]
theorem parts_none (a : List Id) : someI a a false = [] := by
  refine up_ext (up_sortI _) List.Pairwise.nil fun x => ?_
  simp only [mem_someI, decide_eq_false_iff_not]
  by_cases h1 : x ∈ a <;> simp [h1]
set_option maxHeartbeats 8000000 in
set_option maxRecDepth 100000 in
theorem idsParts_calls (Aa : Option Addr) (ca : Nat) (a : List Id) (Ab : Option Addr) (cb : Nat) (b : List Id) (Ac : Option Addr) (cc : Nat) (c : List Id) (w : World) (hra : Kd.C kI w Aa a.length a) (hrb : Kd.C kI w Ab b.length b) (hrc : Kd.C kI w Ac c.length c) :
    Calls Try.prog 6 #[.slice Aa a.length ca, .slice Ab b.length cb, .slice Ac c.length cc] w fun e w' => e = .returned (.bool true) ∧ Below w.heap.size w w' := by
  have Ra := Aside0.mk hra
  have Rb := Aside0.mk hrb
  have Rc := Aside0.mk hrc
  have HB := Aside0.mk (Below.refl w.heap.size w)
  clear hra hrb hrc
  go_enter Try.func6, Try.ntmps6
  by_cases h1 : (a.length : Int) ≤ 20
  rotate_left
  · go_wp2_with fail
    refine (awake_calls _).mono ?_
    rintro e V0 ⟨rfl, hb0⟩
    replace HB := Aside0.mk (below_step HB.out hb0)
    clear hb0
    have h1' : (20 : Int) < a.length := by omega
    go_wp2
    go_ret
    exact ⟨rfl, HB.out⟩
  by_cases h2 : (b.length : Int) ≤ 20
  rotate_left
  · go_wp2_with fail
    refine (awake_calls _).mono ?_
    rintro e V0 ⟨rfl, hb0⟩
    replace HB := Aside0.mk (below_step HB.out hb0)
    clear hb0
    have h1' : ¬ (20 : Int) < a.length := by omega
    have h2' : (20 : Int) < b.length := by omega
    go_wp2
    go_ret
    exact ⟨rfl, HB.out⟩
  by_cases h3 : (c.length : Int) ≤ 20
  rotate_left
  · go_wp2_with fail
    refine (awake_calls _).mono ?_
    rintro e V0 ⟨rfl, hb0⟩
    replace HB := Aside0.mk (below_step HB.out hb0)
    clear hb0
    have h1' : ¬ (20 : Int) < a.length := by omega
    have h2' : ¬ (20 : Int) < b.length := by omega
    have h3' : (20 : Int) < c.length := by omega
    go_wp2
    go_ret
    exact ⟨rfl, HB.out⟩
  have La : Aside0 (a.length ≤ 20) := ⟨by omega⟩
  have Lb : Aside0 (b.length ≤ 20) := ⟨by omega⟩
  have Lc : Aside0 (c.length ≤ 20) := ⟨by omega⟩
  have h1' : ¬ (20 : Int) < a.length := by omega
  have h2' : ¬ (20 : Int) < b.length := by omega
  have h3' : ¬ (20 : Int) < c.length := by omega
  go_wp2_with fail
  refine (awake_calls _).mono ?_
  rintro e V0 ⟨rfl, hb0⟩
  replace Ra := Aside0.mk (Kd.C_below Ra.out hb0)
  replace Rb := Aside0.mk (Kd.C_below Rb.out hb0)
  replace Rc := Aside0.mk (Kd.C_below Rc.out hb0)
  replace HB := Aside0.mk (below_step HB.out hb0)
  clear hb0
  go_wp2_with fail
  obtain ⟨r1, hr1⟩ : ∃ r : List Id, r = someI a b false := ⟨_, rfl⟩
  have Lr1 : Aside0 (r1.length ≤ 20) := ⟨by rw [hr1]; exact Nat.le_trans (len_someI _ _ _) La.out⟩
  have hcn := without_calls Aa ca a Ab cb b _ Ra.out Rb.out (by have := La.out; omega) (by have := Lb.out; omega)
  rw [← hr1] at hcn
  have Er1 := Aside0.mk hr1
  clear hr1
  refine hcn.mono ?_
  rintro e V1 ⟨Ar1, cr1, rfl, hC, hb1⟩
  clear hcn
  replace Ra := Aside0.mk (Kd.C_below Ra.out hb1)
  replace Rb := Aside0.mk (Kd.C_below Rb.out hb1)
  replace Rc := Aside0.mk (Kd.C_below Rc.out hb1)
  replace HB := Aside0.mk (below_step HB.out hb1)
  clear hb1
  have Rr1 := Aside0.mk hC
  clear hC
  go_wp2_with fail
  obtain ⟨r2, hr2⟩ : ∃ r : List Id, r = someI a b true := ⟨_, rfl⟩
  have Lr2 : Aside0 (r2.length ≤ 20) := ⟨by rw [hr2]; exact Nat.le_trans (len_someI _ _ _) La.out⟩
  have hcn := common_calls Aa ca a Ab cb b _ Ra.out Rb.out (by have := La.out; omega) (by have := Lb.out; omega)
  rw [← hr2] at hcn
  have Er2 := Aside0.mk hr2
  clear hr2
  refine hcn.mono ?_
  rintro e V2 ⟨Ar2, cr2, rfl, hC, hb2⟩
  clear hcn
  replace Ra := Aside0.mk (Kd.C_below Ra.out hb2)
  replace Rb := Aside0.mk (Kd.C_below Rb.out hb2)
  replace Rc := Aside0.mk (Kd.C_below Rc.out hb2)
  replace Rr1 := Aside0.mk (Kd.C_below Rr1.out hb2)
  replace HB := Aside0.mk (below_step HB.out hb2)
  clear hb2
  have Rr2 := Aside0.mk hC
  clear hC
  go_wp2_with fail
  obtain ⟨r3, hr3⟩ : ∃ r : List Id, r = bothI r1 r2 := ⟨_, rfl⟩
  have Lr3 : Aside0 (r3.length ≤ 40) := ⟨by rw [hr3]; have := Lr1.out; have := Lr2.out; exact Nat.le_trans (len_sortI _) (by rw [List.length_append]; omega)⟩
  have hcn := both_calls Ar1 cr1 r1 Ar2 cr2 r2 _ Rr1.out Rr2.out (by have := Lr1.out; have := Lr2.out; omega)
  rw [← hr3] at hcn
  have Er3 := Aside0.mk hr3
  clear hr3
  refine hcn.mono ?_
  rintro e V3 ⟨Ar3, cr3, rfl, hC, hb3⟩
  clear hcn
  replace Ra := Aside0.mk (Kd.C_below Ra.out hb3)
  replace Rb := Aside0.mk (Kd.C_below Rb.out hb3)
  replace Rc := Aside0.mk (Kd.C_below Rc.out hb3)
  replace Rr1 := Aside0.mk (Kd.C_below Rr1.out hb3)
  replace Rr2 := Aside0.mk (Kd.C_below Rr2.out hb3)
  replace HB := Aside0.mk (below_step HB.out hb3)
  clear hb3
  have Rr3 := Aside0.mk hC
  clear hC
  go_wp2_with fail
  obtain ⟨r4, hr4⟩ : ∃ r : List Id, r = someI b a false := ⟨_, rfl⟩
  have Lr4 : Aside0 (r4.length ≤ 20) := ⟨by rw [hr4]; exact Nat.le_trans (len_someI _ _ _) Lb.out⟩
  have hcn := without_calls Ab cb b Aa ca a _ Rb.out Ra.out (by have := Lb.out; omega) (by have := La.out; omega)
  rw [← hr4] at hcn
  have Er4 := Aside0.mk hr4
  clear hr4
  refine hcn.mono ?_
  rintro e V4 ⟨Ar4, cr4, rfl, hC, hb4⟩
  clear hcn
  replace Ra := Aside0.mk (Kd.C_below Ra.out hb4)
  replace Rb := Aside0.mk (Kd.C_below Rb.out hb4)
  replace Rc := Aside0.mk (Kd.C_below Rc.out hb4)
  replace Rr1 := Aside0.mk (Kd.C_below Rr1.out hb4)
  replace Rr2 := Aside0.mk (Kd.C_below Rr2.out hb4)
  replace Rr3 := Aside0.mk (Kd.C_below Rr3.out hb4)
  replace HB := Aside0.mk (below_step HB.out hb4)
  clear hb4
  have Rr4 := Aside0.mk hC
  clear hC
  go_wp2_with fail
  obtain ⟨r5, hr5⟩ : ∃ r : List Id, r = bothI r3 r4 := ⟨_, rfl⟩
  have Lr5 : Aside0 (r5.length ≤ 60) := ⟨by rw [hr5]; have := Lr3.out; have := Lr4.out; exact Nat.le_trans (len_sortI _) (by rw [List.length_append]; omega)⟩
  have hcn := both_calls Ar3 cr3 r3 Ar4 cr4 r4 _ Rr3.out Rr4.out (by have := Lr3.out; have := Lr4.out; omega)
  rw [← hr5] at hcn
  have Er5 := Aside0.mk hr5
  clear hr5
  refine hcn.mono ?_
  rintro e V5 ⟨Ar5, cr5, rfl, hC, hb5⟩
  clear hcn
  replace Ra := Aside0.mk (Kd.C_below Ra.out hb5)
  replace Rb := Aside0.mk (Kd.C_below Rb.out hb5)
  replace Rc := Aside0.mk (Kd.C_below Rc.out hb5)
  replace Rr1 := Aside0.mk (Kd.C_below Rr1.out hb5)
  replace Rr2 := Aside0.mk (Kd.C_below Rr2.out hb5)
  replace Rr3 := Aside0.mk (Kd.C_below Rr3.out hb5)
  replace Rr4 := Aside0.mk (Kd.C_below Rr4.out hb5)
  replace HB := Aside0.mk (below_step HB.out hb5)
  clear hb5
  have Rr5 := Aside0.mk hC
  clear hC
  go_wp2_with fail
  clear Rr1
  clear Rr2
  clear Rr3
  clear Rr4
  obtain ⟨s1, hs1⟩ : ∃ r : List Id, r = bothI a b := ⟨_, rfl⟩
  have Ls1 : Aside0 (s1.length ≤ 40) := ⟨by rw [hs1]; have := La.out; have := Lb.out; exact Nat.le_trans (len_sortI _) (by rw [List.length_append]; omega)⟩
  have hcn := both_calls Aa ca a Ab cb b _ Ra.out Rb.out (by have := La.out; have := Lb.out; omega)
  rw [← hs1] at hcn
  have Es1 := Aside0.mk hs1
  clear hs1
  refine hcn.mono ?_
  rintro e V6 ⟨As1, cs1, rfl, hC, hb6⟩
  clear hcn
  replace Ra := Aside0.mk (Kd.C_below Ra.out hb6)
  replace Rb := Aside0.mk (Kd.C_below Rb.out hb6)
  replace Rc := Aside0.mk (Kd.C_below Rc.out hb6)
  replace Rr5 := Aside0.mk (Kd.C_below Rr5.out hb6)
  replace HB := Aside0.mk (below_step HB.out hb6)
  clear hb6
  have Rs1 := Aside0.mk hC
  clear hC
  go_wp2_with fail
  have q1 : decide (r5 = s1) = true := by rw [Er5.out, Es1.out, Er3.out, Er4.out, Er1.out, Er2.out]; exact decide_eq_true (parts_one a b)
  have hcn := same_calls Ar5 cr5 r5 As1 cs1 s1 _ Rr5.out Rs1.out
  rw [q1] at hcn
  refine hcn.mono ?_
  rintro e V7 ⟨rfl, hb7⟩
  clear hcn
  replace Ra := Aside0.mk (Kd.C_below Ra.out hb7)
  replace Rb := Aside0.mk (Kd.C_below Rb.out hb7)
  replace Rc := Aside0.mk (Kd.C_below Rc.out hb7)
  replace Rr5 := Aside0.mk (Kd.C_below Rr5.out hb7)
  replace Rs1 := Aside0.mk (Kd.C_below Rs1.out hb7)
  replace HB := Aside0.mk (below_step HB.out hb7)
  clear hb7
  go_wp2_with fail
  clear q1
  clear Rr5
  clear Rs1
  obtain ⟨t1, ht1⟩ : ∃ r : List Id, r = bothI a b := ⟨_, rfl⟩
  have Lt1 : Aside0 (t1.length ≤ 40) := ⟨by rw [ht1]; have := La.out; have := Lb.out; exact Nat.le_trans (len_sortI _) (by rw [List.length_append]; omega)⟩
  have hcn := both_calls Aa ca a Ab cb b _ Ra.out Rb.out (by have := La.out; have := Lb.out; omega)
  rw [← ht1] at hcn
  have Et1 := Aside0.mk ht1
  clear ht1
  refine hcn.mono ?_
  rintro e V8 ⟨At1, ct1, rfl, hC, hb8⟩
  clear hcn
  replace Ra := Aside0.mk (Kd.C_below Ra.out hb8)
  replace Rb := Aside0.mk (Kd.C_below Rb.out hb8)
  replace Rc := Aside0.mk (Kd.C_below Rc.out hb8)
  replace HB := Aside0.mk (below_step HB.out hb8)
  clear hb8
  have Rt1 := Aside0.mk hC
  clear hC
  go_wp2_with fail
  obtain ⟨t2, ht2⟩ : ∃ r : List Id, r = bothI t1 c := ⟨_, rfl⟩
  have Lt2 : Aside0 (t2.length ≤ 60) := ⟨by rw [ht2]; have := Lt1.out; have := Lc.out; exact Nat.le_trans (len_sortI _) (by rw [List.length_append]; omega)⟩
  have hcn := both_calls At1 ct1 t1 Ac cc c _ Rt1.out Rc.out (by have := Lt1.out; have := Lc.out; omega)
  rw [← ht2] at hcn
  have Et2 := Aside0.mk ht2
  clear ht2
  refine hcn.mono ?_
  rintro e V9 ⟨At2, ct2, rfl, hC, hb9⟩
  clear hcn
  replace Ra := Aside0.mk (Kd.C_below Ra.out hb9)
  replace Rb := Aside0.mk (Kd.C_below Rb.out hb9)
  replace Rc := Aside0.mk (Kd.C_below Rc.out hb9)
  replace Rt1 := Aside0.mk (Kd.C_below Rt1.out hb9)
  replace HB := Aside0.mk (below_step HB.out hb9)
  clear hb9
  have Rt2 := Aside0.mk hC
  clear hC
  go_wp2_with fail
  obtain ⟨t3, ht3⟩ : ∃ r : List Id, r = bothI b c := ⟨_, rfl⟩
  have Lt3 : Aside0 (t3.length ≤ 40) := ⟨by rw [ht3]; have := Lb.out; have := Lc.out; exact Nat.le_trans (len_sortI _) (by rw [List.length_append]; omega)⟩
  have hcn := both_calls Ab cb b Ac cc c _ Rb.out Rc.out (by have := Lb.out; have := Lc.out; omega)
  rw [← ht3] at hcn
  have Et3 := Aside0.mk ht3
  clear ht3
  refine hcn.mono ?_
  rintro e V10 ⟨At3, ct3, rfl, hC, hb10⟩
  clear hcn
  replace Ra := Aside0.mk (Kd.C_below Ra.out hb10)
  replace Rb := Aside0.mk (Kd.C_below Rb.out hb10)
  replace Rc := Aside0.mk (Kd.C_below Rc.out hb10)
  replace Rt1 := Aside0.mk (Kd.C_below Rt1.out hb10)
  replace Rt2 := Aside0.mk (Kd.C_below Rt2.out hb10)
  replace HB := Aside0.mk (below_step HB.out hb10)
  clear hb10
  have Rt3 := Aside0.mk hC
  clear hC
  go_wp2_with fail
  obtain ⟨t4, ht4⟩ : ∃ r : List Id, r = bothI a t3 := ⟨_, rfl⟩
  have Lt4 : Aside0 (t4.length ≤ 60) := ⟨by rw [ht4]; have := La.out; have := Lt3.out; exact Nat.le_trans (len_sortI _) (by rw [List.length_append]; omega)⟩
  have hcn := both_calls Aa ca a At3 ct3 t3 _ Ra.out Rt3.out (by have := La.out; have := Lt3.out; omega)
  rw [← ht4] at hcn
  have Et4 := Aside0.mk ht4
  clear ht4
  refine hcn.mono ?_
  rintro e V11 ⟨At4, ct4, rfl, hC, hb11⟩
  clear hcn
  replace Ra := Aside0.mk (Kd.C_below Ra.out hb11)
  replace Rb := Aside0.mk (Kd.C_below Rb.out hb11)
  replace Rc := Aside0.mk (Kd.C_below Rc.out hb11)
  replace Rt1 := Aside0.mk (Kd.C_below Rt1.out hb11)
  replace Rt2 := Aside0.mk (Kd.C_below Rt2.out hb11)
  replace Rt3 := Aside0.mk (Kd.C_below Rt3.out hb11)
  replace HB := Aside0.mk (below_step HB.out hb11)
  clear hb11
  have Rt4 := Aside0.mk hC
  clear hC
  go_wp2_with fail
  have q1 : decide (t2 = t4) = true := by rw [Et2.out, Et4.out, Et1.out, Et3.out]; exact decide_eq_true (parts_two a b c)
  have hcn := same_calls At2 ct2 t2 At4 ct4 t4 _ Rt2.out Rt4.out
  rw [q1] at hcn
  refine hcn.mono ?_
  rintro e V12 ⟨rfl, hb12⟩
  clear hcn
  replace Ra := Aside0.mk (Kd.C_below Ra.out hb12)
  replace Rb := Aside0.mk (Kd.C_below Rb.out hb12)
  replace Rc := Aside0.mk (Kd.C_below Rc.out hb12)
  replace Rt1 := Aside0.mk (Kd.C_below Rt1.out hb12)
  replace Rt2 := Aside0.mk (Kd.C_below Rt2.out hb12)
  replace Rt3 := Aside0.mk (Kd.C_below Rt3.out hb12)
  replace Rt4 := Aside0.mk (Kd.C_below Rt4.out hb12)
  replace HB := Aside0.mk (below_step HB.out hb12)
  clear hb12
  go_wp2_with fail
  clear q1
  clear Rt1
  clear Rt2
  clear Rt3
  clear Rt4
  obtain ⟨u1, hu1⟩ : ∃ r : List Id, r = someI a b true := ⟨_, rfl⟩
  have Lu1 : Aside0 (u1.length ≤ 20) := ⟨by rw [hu1]; exact Nat.le_trans (len_someI _ _ _) La.out⟩
  have hcn := common_calls Aa ca a Ab cb b _ Ra.out Rb.out (by have := La.out; omega) (by have := Lb.out; omega)
  rw [← hu1] at hcn
  have Eu1 := Aside0.mk hu1
  clear hu1
  refine hcn.mono ?_
  rintro e V13 ⟨Au1, cu1, rfl, hC, hb13⟩
  clear hcn
  replace Ra := Aside0.mk (Kd.C_below Ra.out hb13)
  replace Rb := Aside0.mk (Kd.C_below Rb.out hb13)
  replace Rc := Aside0.mk (Kd.C_below Rc.out hb13)
  replace HB := Aside0.mk (below_step HB.out hb13)
  clear hb13
  have Ru1 := Aside0.mk hC
  clear hC
  go_wp2_with fail
  obtain ⟨u2, hu2⟩ : ∃ r : List Id, r = someI u1 c true := ⟨_, rfl⟩
  have Lu2 : Aside0 (u2.length ≤ 20) := ⟨by rw [hu2]; exact Nat.le_trans (len_someI _ _ _) Lu1.out⟩
  have hcn := common_calls Au1 cu1 u1 Ac cc c _ Ru1.out Rc.out (by have := Lu1.out; omega) (by have := Lc.out; omega)
  rw [← hu2] at hcn
  have Eu2 := Aside0.mk hu2
  clear hu2
  refine hcn.mono ?_
  rintro e V14 ⟨Au2, cu2, rfl, hC, hb14⟩
  clear hcn
  replace Ra := Aside0.mk (Kd.C_below Ra.out hb14)
  replace Rb := Aside0.mk (Kd.C_below Rb.out hb14)
  replace Rc := Aside0.mk (Kd.C_below Rc.out hb14)
  replace Ru1 := Aside0.mk (Kd.C_below Ru1.out hb14)
  replace HB := Aside0.mk (below_step HB.out hb14)
  clear hb14
  have Ru2 := Aside0.mk hC
  clear hC
  go_wp2_with fail
  obtain ⟨u3, hu3⟩ : ∃ r : List Id, r = someI b c true := ⟨_, rfl⟩
  have Lu3 : Aside0 (u3.length ≤ 20) := ⟨by rw [hu3]; exact Nat.le_trans (len_someI _ _ _) Lb.out⟩
  have hcn := common_calls Ab cb b Ac cc c _ Rb.out Rc.out (by have := Lb.out; omega) (by have := Lc.out; omega)
  rw [← hu3] at hcn
  have Eu3 := Aside0.mk hu3
  clear hu3
  refine hcn.mono ?_
  rintro e V15 ⟨Au3, cu3, rfl, hC, hb15⟩
  clear hcn
  replace Ra := Aside0.mk (Kd.C_below Ra.out hb15)
  replace Rb := Aside0.mk (Kd.C_below Rb.out hb15)
  replace Rc := Aside0.mk (Kd.C_below Rc.out hb15)
  replace Ru1 := Aside0.mk (Kd.C_below Ru1.out hb15)
  replace Ru2 := Aside0.mk (Kd.C_below Ru2.out hb15)
  replace HB := Aside0.mk (below_step HB.out hb15)
  clear hb15
  have Ru3 := Aside0.mk hC
  clear hC
  go_wp2_with fail
  obtain ⟨u4, hu4⟩ : ∃ r : List Id, r = someI a u3 true := ⟨_, rfl⟩
  have Lu4 : Aside0 (u4.length ≤ 20) := ⟨by rw [hu4]; exact Nat.le_trans (len_someI _ _ _) La.out⟩
  have hcn := common_calls Aa ca a Au3 cu3 u3 _ Ra.out Ru3.out (by have := La.out; omega) (by have := Lu3.out; omega)
  rw [← hu4] at hcn
  have Eu4 := Aside0.mk hu4
  clear hu4
  refine hcn.mono ?_
  rintro e V16 ⟨Au4, cu4, rfl, hC, hb16⟩
  clear hcn
  replace Ra := Aside0.mk (Kd.C_below Ra.out hb16)
  replace Rb := Aside0.mk (Kd.C_below Rb.out hb16)
  replace Rc := Aside0.mk (Kd.C_below Rc.out hb16)
  replace Ru1 := Aside0.mk (Kd.C_below Ru1.out hb16)
  replace Ru2 := Aside0.mk (Kd.C_below Ru2.out hb16)
  replace Ru3 := Aside0.mk (Kd.C_below Ru3.out hb16)
  replace HB := Aside0.mk (below_step HB.out hb16)
  clear hb16
  have Ru4 := Aside0.mk hC
  clear hC
  go_wp2_with fail
  have q1 : decide (u2 = u4) = true := by rw [Eu2.out, Eu4.out, Eu1.out, Eu3.out]; exact decide_eq_true (parts_three a b c)
  have hcn := same_calls Au2 cu2 u2 Au4 cu4 u4 _ Ru2.out Ru4.out
  rw [q1] at hcn
  refine hcn.mono ?_
  rintro e V17 ⟨rfl, hb17⟩
  clear hcn
  replace Ra := Aside0.mk (Kd.C_below Ra.out hb17)
  replace Rb := Aside0.mk (Kd.C_below Rb.out hb17)
  replace Rc := Aside0.mk (Kd.C_below Rc.out hb17)
  replace Ru1 := Aside0.mk (Kd.C_below Ru1.out hb17)
  replace Ru2 := Aside0.mk (Kd.C_below Ru2.out hb17)
  replace Ru3 := Aside0.mk (Kd.C_below Ru3.out hb17)
  replace Ru4 := Aside0.mk (Kd.C_below Ru4.out hb17)
  replace HB := Aside0.mk (below_step HB.out hb17)
  clear hb17
  go_wp2_with fail
  clear q1
  clear Ru1
  clear Ru2
  clear Ru3
  clear Ru4
  obtain ⟨v1, hv1⟩ : ∃ r : List Id, r = someI a b false := ⟨_, rfl⟩
  have Lv1 : Aside0 (v1.length ≤ 20) := ⟨by rw [hv1]; exact Nat.le_trans (len_someI _ _ _) La.out⟩
  have hcn := without_calls Aa ca a Ab cb b _ Ra.out Rb.out (by have := La.out; omega) (by have := Lb.out; omega)
  rw [← hv1] at hcn
  have Ev1 := Aside0.mk hv1
  clear hv1
  refine hcn.mono ?_
  rintro e V18 ⟨Av1, cv1, rfl, hC, hb18⟩
  clear hcn
  replace Ra := Aside0.mk (Kd.C_below Ra.out hb18)
  replace Rb := Aside0.mk (Kd.C_below Rb.out hb18)
  replace Rc := Aside0.mk (Kd.C_below Rc.out hb18)
  replace HB := Aside0.mk (below_step HB.out hb18)
  clear hb18
  have Rv1 := Aside0.mk hC
  clear hC
  go_wp2_with fail
  obtain ⟨v2, hv2⟩ : ∃ r : List Id, r = someI v1 c false := ⟨_, rfl⟩
  have Lv2 : Aside0 (v2.length ≤ 20) := ⟨by rw [hv2]; exact Nat.le_trans (len_someI _ _ _) Lv1.out⟩
  have hcn := without_calls Av1 cv1 v1 Ac cc c _ Rv1.out Rc.out (by have := Lv1.out; omega) (by have := Lc.out; omega)
  rw [← hv2] at hcn
  have Ev2 := Aside0.mk hv2
  clear hv2
  refine hcn.mono ?_
  rintro e V19 ⟨Av2, cv2, rfl, hC, hb19⟩
  clear hcn
  replace Ra := Aside0.mk (Kd.C_below Ra.out hb19)
  replace Rb := Aside0.mk (Kd.C_below Rb.out hb19)
  replace Rc := Aside0.mk (Kd.C_below Rc.out hb19)
  replace Rv1 := Aside0.mk (Kd.C_below Rv1.out hb19)
  replace HB := Aside0.mk (below_step HB.out hb19)
  clear hb19
  have Rv2 := Aside0.mk hC
  clear hC
  go_wp2_with fail
  obtain ⟨v3, hv3⟩ : ∃ r : List Id, r = bothI b c := ⟨_, rfl⟩
  have Lv3 : Aside0 (v3.length ≤ 40) := ⟨by rw [hv3]; have := Lb.out; have := Lc.out; exact Nat.le_trans (len_sortI _) (by rw [List.length_append]; omega)⟩
  have hcn := both_calls Ab cb b Ac cc c _ Rb.out Rc.out (by have := Lb.out; have := Lc.out; omega)
  rw [← hv3] at hcn
  have Ev3 := Aside0.mk hv3
  clear hv3
  refine hcn.mono ?_
  rintro e V20 ⟨Av3, cv3, rfl, hC, hb20⟩
  clear hcn
  replace Ra := Aside0.mk (Kd.C_below Ra.out hb20)
  replace Rb := Aside0.mk (Kd.C_below Rb.out hb20)
  replace Rc := Aside0.mk (Kd.C_below Rc.out hb20)
  replace Rv1 := Aside0.mk (Kd.C_below Rv1.out hb20)
  replace Rv2 := Aside0.mk (Kd.C_below Rv2.out hb20)
  replace HB := Aside0.mk (below_step HB.out hb20)
  clear hb20
  have Rv3 := Aside0.mk hC
  clear hC
  go_wp2_with fail
  obtain ⟨v4, hv4⟩ : ∃ r : List Id, r = someI a v3 false := ⟨_, rfl⟩
  have Lv4 : Aside0 (v4.length ≤ 20) := ⟨by rw [hv4]; exact Nat.le_trans (len_someI _ _ _) La.out⟩
  have hcn := without_calls Aa ca a Av3 cv3 v3 _ Ra.out Rv3.out (by have := La.out; omega) (by have := Lv3.out; omega)
  rw [← hv4] at hcn
  have Ev4 := Aside0.mk hv4
  clear hv4
  refine hcn.mono ?_
  rintro e V21 ⟨Av4, cv4, rfl, hC, hb21⟩
  clear hcn
  replace Ra := Aside0.mk (Kd.C_below Ra.out hb21)
  replace Rb := Aside0.mk (Kd.C_below Rb.out hb21)
  replace Rc := Aside0.mk (Kd.C_below Rc.out hb21)
  replace Rv1 := Aside0.mk (Kd.C_below Rv1.out hb21)
  replace Rv2 := Aside0.mk (Kd.C_below Rv2.out hb21)
  replace Rv3 := Aside0.mk (Kd.C_below Rv3.out hb21)
  replace HB := Aside0.mk (below_step HB.out hb21)
  clear hb21
  have Rv4 := Aside0.mk hC
  clear hC
  go_wp2_with fail
  have q1 : decide (v2 = v4) = true := by rw [Ev2.out, Ev4.out, Ev1.out, Ev3.out]; exact decide_eq_true (parts_four a b c)
  have hcn := same_calls Av2 cv2 v2 Av4 cv4 v4 _ Rv2.out Rv4.out
  rw [q1] at hcn
  refine hcn.mono ?_
  rintro e V22 ⟨rfl, hb22⟩
  clear hcn
  replace Ra := Aside0.mk (Kd.C_below Ra.out hb22)
  replace Rb := Aside0.mk (Kd.C_below Rb.out hb22)
  replace Rc := Aside0.mk (Kd.C_below Rc.out hb22)
  replace Rv1 := Aside0.mk (Kd.C_below Rv1.out hb22)
  replace Rv2 := Aside0.mk (Kd.C_below Rv2.out hb22)
  replace Rv3 := Aside0.mk (Kd.C_below Rv3.out hb22)
  replace Rv4 := Aside0.mk (Kd.C_below Rv4.out hb22)
  replace HB := Aside0.mk (below_step HB.out hb22)
  clear hb22
  go_wp2_with fail
  clear q1
  clear Rv1
  clear Rv2
  clear Rv3
  clear Rv4
  have hcn := without_calls Aa ca a Aa ca a _ Ra.out Ra.out (by have := La.out; omega) (by have := La.out; omega)
  rw [parts_none a] at hcn
  refine hcn.mono ?_
  rintro e Vz ⟨Az, cz, rfl, _, hbz⟩
  clear hcn
  replace Ra := Aside0.mk (Kd.C_below Ra.out hbz)
  replace Rb := Aside0.mk (Kd.C_below Rb.out hbz)
  replace Rc := Aside0.mk (Kd.C_below Rc.out hbz)
  replace HB := Aside0.mk (below_step HB.out hbz)
  clear hbz
  go_wp2
  go_ret
  exact ⟨rfl, HB.out⟩
end Go.Proofs.Ytkgjdeicjkibiaa.D
