/- IdsOrder: it answers true. By hand: one call behind the other. -/
import Derived.Test.YtkgjdeicjkibiaaDIAwake
import Derived.Test.YtkgjdeicjkibiaaDISame
import Derived.Test.YtkgjdeicjkibiaaDIRSort
namespace Go.Proofs.Ytkgjdeicjkibiaa.D
open Go.RowKit Go.Maps Go.Proofs.YtkgjdeicjkibiaaW.PrintWords Go.Proofs.YtkgjdeicjkibiaaW.PrintLast Go.Proofs.YtkgjdeicjkibiaaW.PrintMore Go.Proofs.YtkgjdeicjkibiaaW
set_option linter.unusedVariables false
set_option linter.unusedSimpArgs false
theorem order_one {a z : List Id} (h : ∀ x, x ∈ z ↔ x ∈ a) : sortI z = sortI a := sortI_ext h
theorem order_two {a b z : List Id} (h : ∀ x, x ∈ z ↔ x ∈ a) : bothI b z = bothI a b := up_ext (up_sortI _) (up_sortI _) fun x => by rw [mem_bothI, mem_bothI, h x]; exact Or.comm
theorem order_three {a b z : List Id} (h : ∀ x, x ∈ z ↔ x ∈ a) : someI b z true = someI a b true := up_ext (up_sortI _) (up_sortI _) fun x => by
  rw [mem_someI, mem_someI, decide_eq_true_eq, decide_eq_true_eq, h x]; exact And.comm
theorem order_four {a b z : List Id} (h : ∀ x, x ∈ z ↔ x ∈ a) : someI z b false = someI a b false := up_ext (up_sortI _) (up_sortI _) fun x => by rw [mem_someI, mem_someI, h x]
theorem back_mem {a out : List Id} {j : Nat} (hj : 0 < j) (hl : j ≤ a.length) (h : ∀ x, x ∈ out ↔ x ∈ a.drop j) : ∀ x, x ∈ out ++ [rdI a (j - 1)] ++ [rdI a (j - 1)] ↔ x ∈ a.drop (j - 1) := by
  intro x
  have h1 : j - 1 < a.length := by omega
  rw [List.drop_eq_getElem_cons h1, show j - 1 + 1 = j by omega, rdI_at a (j - 1) h1]
  simp only [List.mem_append, h x, List.mem_cons, List.mem_singleton, List.not_mem_nil, or_false]
  constructor
  · rintro ((h | h) | h)
    · exact .inr h
    · exact .inl h
    · exact .inl h
  · rintro (h | h)
    · exact .inr h
    · exact .inl (.inl h)
set_option maxHeartbeats 8000000 in
set_option maxRecDepth 100000 in
theorem idsOrder_calls (Aa : Option Addr) (ca : Nat) (a : List Id) (Ab : Option Addr) (cb : Nat) (b : List Id) (w : World) (hra : Kd.C kI w Aa a.length a) (hrb : Kd.C kI w Ab b.length b) :
    Calls Try.prog 4 #[.slice Aa a.length ca, .slice Ab b.length cb] w fun e w' => e = .returned (.bool true) ∧ Below w.heap.size w w' := by
  have Ra := Aside0.mk hra
  have Rb := Aside0.mk hrb
  have HK := Aside0.mk (C_ok hra)
  have HB := Aside0.mk (Below.refl w.heap.size w)
  clear hra hrb
  go_enter Try.func4, Try.ntmps4
  by_cases h1 : (a.length : Int) ≤ 30
  rotate_left
  · go_wp2_with fail
    refine (awake_calls _).mono ?_
    rintro e V0 ⟨rfl, hb0⟩
    replace HB := Aside0.mk (below_step HB.out hb0)
    clear hb0
    have h1' : (30 : Int) < a.length := by omega
    go_wp2
    go_ret
    exact ⟨rfl, HB.out⟩
  by_cases h2 : (b.length : Int) ≤ 30
  rotate_left
  · go_wp2_with fail
    refine (awake_calls _).mono ?_
    rintro e V0 ⟨rfl, hb0⟩
    replace HB := Aside0.mk (below_step HB.out hb0)
    clear hb0
    have h1' : ¬ (30 : Int) < a.length := by omega
    have h2' : (30 : Int) < b.length := by omega
    go_wp2
    go_ret
    exact ⟨rfl, HB.out⟩
  have La : Aside0 (a.length ≤ 30) := ⟨by omega⟩
  have Lb : Aside0 (b.length ≤ 30) := ⟨by omega⟩
  have h1' : ¬ (30 : Int) < a.length := by omega
  have h2' : ¬ (30 : Int) < b.length := by omega
  go_wp2_with fail
  refine (awake_calls _).mono ?_
  rintro e V0 ⟨rfl, hb0⟩
  replace Ra := Aside0.mk (Kd.C_below Ra.out hb0)
  replace Rb := Aside0.mk (Kd.C_below Rb.out hb0)
  replace HB := Aside0.mk (below_step HB.out hb0)
  clear hb0
  have hw0 : wrap64 ((a.length : Int) - 1) = (a.length : Int) - 1 := by unfold wrap64; omega
  go_wp2_with fail
  clear hw0
  go_loopw [6, 7] (fun v i wr => ∃ (j : Nat) (out : List Id), j ≤ a.length ∧ i = .int .i64 ((j : Int) - 1) ∧ Aside0 (out.length + 2 * j = 2 * a.length) ∧ Aside0 (∀ x, x ∈ out ↔ x ∈ a.drop j) ∧ Aside0 (wr.ownsRow V0.heap.size 23 32 v out.length (rowI out)) ∧ Aside0 (Below V0.heap.size V0 wr)) (fun _ i _ => (intOf i + 1).toNat)
  case atStart => exact ⟨a.length, [], Nat.le_refl _, rfl, ⟨by simp⟩, ⟨fun x => by simp⟩, ⟨own_nil _ _ _ _⟩, ⟨Below.refl _ _⟩⟩
  case round =>
    obtain ⟨j, out, hj, rfl, hN, hM, hO, HBr⟩ := hrel
    obtain ⟨Az, cz, rfl⟩ := own_slice hO.out
    by_cases hjp : 0 < j
    · have hj1 : j - 1 < a.length := by omega
      obtain ⟨bb, o, rfl, hx, hok⟩ := at_I Ra.out (j - 1) hj1
      have HX := Aside0.mk (range_below hx HBr.out)
      have HMB := Aside0.mk (back_mem hjp hj hM.out)
      generalize rdI a (j - 1) = x at hx hok HX HMB
      clear hM
      have hi0 : (0 : Int) ≤ (j : Int) - 1 := by omega
      have hi1 : (j : Int) - 1 < (a.length : Int) := by omega
      have hi2 : (1 : Int) ≤ (j : Int) := by omega
      have hi5 : ((j : Int) - 1).toNat = j - 1 := by omega
      have hi6 : wrap64 ((j : Int) - 1 - 1) = (j : Int) - 1 - 1 := by unfold wrap64; omega
      have hol : out.length ≤ 60 := by have := hN.out; omega
      have hbs := HBr.out.size
      obtain ⟨v1, V1, hr1, ho1, hg1, A1, c1, rfl⟩ := app_ids (wr.alloc (.cells (rowI [x]).toArray 23)) 29 (hO.out.alloc _) (some ⟨wr.heap.size, 0, none⟩) 1 [x] (C_of_blk1 (blk_new wr (.cells (rowI [x]).toArray 23)) hok) (by simp <;> omega) (by simp; omega)
      have HB1 := Aside0.mk ((below_alloc HBr.out (.cells (rowI [x]).toArray 23)).grown hg1 (by simp; omega) (own_base hO.out))
      have hbs1 := HB1.out.size
      obtain ⟨p, hp⟩ : ∃ p, p = out ++ [x] := ⟨_, rfl⟩
      rw [← hp] at hr1 ho1
      rw [show [x].length = 1 from rfl] at hr1
      have HX1 := Aside0.mk (range_below hx HB1.out)
      have HP := Aside0.mk hp
      have hpl : p.length ≤ 61 := by rw [hp]; simp; omega
      have HO1 := Aside0.mk ho1
      obtain ⟨v2, V2, hr2, ho2, hg2, A2, c2, rfl⟩ := app_ids (V1.alloc (.cells (rowI [x]).toArray 23)) 29 (HO1.out.alloc _) (some ⟨V1.heap.size, 0, none⟩) 1 [x] (C_of_blk1 (blk_new V1 (.cells (rowI [x]).toArray 23)) hok) (by simp <;> omega) (by simp; omega)
      have HB2 := Aside0.mk ((below_alloc HB1.out (.cells (rowI [x]).toArray 23)).grown hg2 (by simp; omega) (own_base HO1.out))
      obtain ⟨r, hr⟩ : ∃ r, r = p ++ [x] := ⟨_, rfl⟩
      rw [← hr] at hr2 ho2
      rw [show [x].length = 1 from rfl] at hr2
      have HRN : Aside0 (r.length + 2 * (j - 1) = 2 * a.length) := ⟨by have := hN.out; rw [hr, HP.out]; simp; omega⟩
      have HRM : Aside0 (∀ y, y ∈ r ↔ y ∈ a.drop (j - 1)) := ⟨by rw [hr, HP.out]; exact HMB.out⟩
      have HO2 := Aside0.mk ho2
      have hcast : ((j : Int) - 1 - 1) = ((j - 1 : Nat) : Int) - 1 := by omega
      have HCAST := Aside0.mk hcast
      clear hcast hx hp hr ho1 ho2 hg1 hg2 HO1 HB1 hO HP HMB hN
      go_wp2_with (first
        | (refine wpl_load _ _ x HX.out hok (by rfl) _ (by rfl) (by rfl) ?_; go_frame)
        | (refine wpl_load _ _ x HX1.out hok (by rfl) _ (by rfl) (by rfl) ?_; go_frame)
        | (refine wpl_build [x] (fun y hy => by rw [List.mem_singleton.1 hy]; exact hok) (by simp) (by simp) 1 rfl (by rfl) _ (by rfl) (by rfl) ?_; go_frame)
        | (at_builtin; refine Lib.wpList_append_run _ rfl _ _ _ _ rfl _ _ rfl rfl _ _ hr1 ?_; clear hr1; go_frame)
        | (at_builtin; refine Lib.wpList_append_run _ rfl _ _ _ _ rfl _ _ rfl rfl _ _ hr2 ?_; clear hr2; go_frame))
      go_roundw
      case rel => exact ⟨j - 1, r, by omega, by rw [HCAST.out], HRN, HRM, HO2, HB2⟩
      case measure => simp [intOf]; omega
    · have hj0 : ¬ (0 : Int) ≤ (j : Int) - 1 := by omega
      have HZ : Aside0 (∀ x, x ∈ out ↔ x ∈ a) := ⟨fun x => by have := hM.out x; rwa [show j = 0 by omega, List.drop_zero] at this⟩
      have Lz : Aside0 (out.length ≤ 60) := ⟨by have := hN.out; have := La.out; omega⟩
      have HOK : Aside0 (∀ x ∈ out, okId x) := ⟨fun x hx => HK.out x ((HZ.out x).1 hx)⟩
      have Rz := Aside0.mk (own_C hO.out HOK.out)
      replace Ra := Aside0.mk (Kd.C_below Ra.out HBr.out)
      replace Rb := Aside0.mk (Kd.C_below Rb.out HBr.out)
      replace HB := Aside0.mk (below_step HB.out HBr.out)
      clear hO HBr hM hN
      generalize out = z at *
      go_wp2_with fail
      obtain ⟨r1, hr1⟩ : ∃ r : List Id, r = sortI z := ⟨_, rfl⟩
      have Lr1 : Aside0 (r1.length ≤ 60) := ⟨by rw [hr1]; exact Nat.le_trans (len_sortI _) Lz.out⟩
      have hcn := sort_calls Az cz z _ Rz.out (by have := Lz.out; omega)
      rw [← hr1] at hcn
      have Er1 := Aside0.mk hr1
      clear hr1
      refine hcn.mono ?_
      rintro e V1 ⟨Ar1, cr1, rfl, hC, hb1⟩
      clear hcn
      replace Ra := Aside0.mk (Kd.C_below Ra.out hb1)
      replace Rb := Aside0.mk (Kd.C_below Rb.out hb1)
      replace Rz := Aside0.mk (Kd.C_below Rz.out hb1)
      replace HB := Aside0.mk (below_step HB.out hb1)
      clear hb1
      have Rr1 := Aside0.mk hC
      clear hC
      go_wp2_with fail
      obtain ⟨r2, hr2⟩ : ∃ r : List Id, r = sortI a := ⟨_, rfl⟩
      have Lr2 : Aside0 (r2.length ≤ 30) := ⟨by rw [hr2]; exact Nat.le_trans (len_sortI _) La.out⟩
      have hcn := sort_calls Aa ca a _ Ra.out (by have := La.out; omega)
      rw [← hr2] at hcn
      have Er2 := Aside0.mk hr2
      clear hr2
      refine hcn.mono ?_
      rintro e V2 ⟨Ar2, cr2, rfl, hC, hb2⟩
      clear hcn
      replace Ra := Aside0.mk (Kd.C_below Ra.out hb2)
      replace Rb := Aside0.mk (Kd.C_below Rb.out hb2)
      replace Rz := Aside0.mk (Kd.C_below Rz.out hb2)
      replace Rr1 := Aside0.mk (Kd.C_below Rr1.out hb2)
      replace HB := Aside0.mk (below_step HB.out hb2)
      clear hb2
      have Rr2 := Aside0.mk hC
      clear hC
      go_wp2_with fail
      have q1 : decide (r1 = r2) = true := by rw [Er1.out, Er2.out]; exact decide_eq_true (order_one HZ.out)
      have hcn := same_calls Ar1 cr1 r1 Ar2 cr2 r2 _ Rr1.out Rr2.out
      rw [q1] at hcn
      refine hcn.mono ?_
      rintro e V3 ⟨rfl, hb3⟩
      clear hcn
      replace Ra := Aside0.mk (Kd.C_below Ra.out hb3)
      replace Rb := Aside0.mk (Kd.C_below Rb.out hb3)
      replace Rz := Aside0.mk (Kd.C_below Rz.out hb3)
      replace Rr1 := Aside0.mk (Kd.C_below Rr1.out hb3)
      replace Rr2 := Aside0.mk (Kd.C_below Rr2.out hb3)
      replace HB := Aside0.mk (below_step HB.out hb3)
      clear hb3
      go_wp2_with fail
      clear q1
      clear Rr1
      clear Rr2
      obtain ⟨s1, hs1⟩ : ∃ r : List Id, r = bothI b z := ⟨_, rfl⟩
      have Ls1 : Aside0 (s1.length ≤ 90) := ⟨by rw [hs1]; have := Lb.out; have := Lz.out; exact Nat.le_trans (len_sortI _) (by rw [List.length_append]; omega)⟩
      have hcn := both_calls Ab cb b Az cz z _ Rb.out Rz.out (by have := Lb.out; have := Lz.out; omega)
      rw [← hs1] at hcn
      have Es1 := Aside0.mk hs1
      clear hs1
      refine hcn.mono ?_
      rintro e V4 ⟨As1, cs1, rfl, hC, hb4⟩
      clear hcn
      replace Ra := Aside0.mk (Kd.C_below Ra.out hb4)
      replace Rb := Aside0.mk (Kd.C_below Rb.out hb4)
      replace Rz := Aside0.mk (Kd.C_below Rz.out hb4)
      replace HB := Aside0.mk (below_step HB.out hb4)
      clear hb4
      have Rs1 := Aside0.mk hC
      clear hC
      go_wp2_with fail
      obtain ⟨s2, hs2⟩ : ∃ r : List Id, r = bothI a b := ⟨_, rfl⟩
      have Ls2 : Aside0 (s2.length ≤ 60) := ⟨by rw [hs2]; have := La.out; have := Lb.out; exact Nat.le_trans (len_sortI _) (by rw [List.length_append]; omega)⟩
      have hcn := both_calls Aa ca a Ab cb b _ Ra.out Rb.out (by have := La.out; have := Lb.out; omega)
      rw [← hs2] at hcn
      have Es2 := Aside0.mk hs2
      clear hs2
      refine hcn.mono ?_
      rintro e V5 ⟨As2, cs2, rfl, hC, hb5⟩
      clear hcn
      replace Ra := Aside0.mk (Kd.C_below Ra.out hb5)
      replace Rb := Aside0.mk (Kd.C_below Rb.out hb5)
      replace Rz := Aside0.mk (Kd.C_below Rz.out hb5)
      replace Rs1 := Aside0.mk (Kd.C_below Rs1.out hb5)
      replace HB := Aside0.mk (below_step HB.out hb5)
      clear hb5
      have Rs2 := Aside0.mk hC
      clear hC
      go_wp2_with fail
      have q1 : decide (s1 = s2) = true := by rw [Es1.out, Es2.out]; exact decide_eq_true (order_two HZ.out)
      have hcn := same_calls As1 cs1 s1 As2 cs2 s2 _ Rs1.out Rs2.out
      rw [q1] at hcn
      refine hcn.mono ?_
      rintro e V6 ⟨rfl, hb6⟩
      clear hcn
      replace Ra := Aside0.mk (Kd.C_below Ra.out hb6)
      replace Rb := Aside0.mk (Kd.C_below Rb.out hb6)
      replace Rz := Aside0.mk (Kd.C_below Rz.out hb6)
      replace Rs1 := Aside0.mk (Kd.C_below Rs1.out hb6)
      replace Rs2 := Aside0.mk (Kd.C_below Rs2.out hb6)
      replace HB := Aside0.mk (below_step HB.out hb6)
      clear hb6
      go_wp2_with fail
      clear q1
      clear Rs1
      clear Rs2
      obtain ⟨t1, ht1⟩ : ∃ r : List Id, r = someI b z true := ⟨_, rfl⟩
      have Lt1 : Aside0 (t1.length ≤ 30) := ⟨by rw [ht1]; exact Nat.le_trans (len_someI _ _ _) Lb.out⟩
      have hcn := common_calls Ab cb b Az cz z _ Rb.out Rz.out (by have := Lb.out; omega) (by have := Lz.out; omega)
      rw [← ht1] at hcn
      have Et1 := Aside0.mk ht1
      clear ht1
      refine hcn.mono ?_
      rintro e V7 ⟨At1, ct1, rfl, hC, hb7⟩
      clear hcn
      replace Ra := Aside0.mk (Kd.C_below Ra.out hb7)
      replace Rb := Aside0.mk (Kd.C_below Rb.out hb7)
      replace Rz := Aside0.mk (Kd.C_below Rz.out hb7)
      replace HB := Aside0.mk (below_step HB.out hb7)
      clear hb7
      have Rt1 := Aside0.mk hC
      clear hC
      go_wp2_with fail
      obtain ⟨t2, ht2⟩ : ∃ r : List Id, r = someI a b true := ⟨_, rfl⟩
      have Lt2 : Aside0 (t2.length ≤ 30) := ⟨by rw [ht2]; exact Nat.le_trans (len_someI _ _ _) La.out⟩
      have hcn := common_calls Aa ca a Ab cb b _ Ra.out Rb.out (by have := La.out; omega) (by have := Lb.out; omega)
      rw [← ht2] at hcn
      have Et2 := Aside0.mk ht2
      clear ht2
      refine hcn.mono ?_
      rintro e V8 ⟨At2, ct2, rfl, hC, hb8⟩
      clear hcn
      replace Ra := Aside0.mk (Kd.C_below Ra.out hb8)
      replace Rb := Aside0.mk (Kd.C_below Rb.out hb8)
      replace Rz := Aside0.mk (Kd.C_below Rz.out hb8)
      replace Rt1 := Aside0.mk (Kd.C_below Rt1.out hb8)
      replace HB := Aside0.mk (below_step HB.out hb8)
      clear hb8
      have Rt2 := Aside0.mk hC
      clear hC
      go_wp2_with fail
      have q1 : decide (t1 = t2) = true := by rw [Et1.out, Et2.out]; exact decide_eq_true (order_three HZ.out)
      have hcn := same_calls At1 ct1 t1 At2 ct2 t2 _ Rt1.out Rt2.out
      rw [q1] at hcn
      refine hcn.mono ?_
      rintro e V9 ⟨rfl, hb9⟩
      clear hcn
      replace Ra := Aside0.mk (Kd.C_below Ra.out hb9)
      replace Rb := Aside0.mk (Kd.C_below Rb.out hb9)
      replace Rz := Aside0.mk (Kd.C_below Rz.out hb9)
      replace Rt1 := Aside0.mk (Kd.C_below Rt1.out hb9)
      replace Rt2 := Aside0.mk (Kd.C_below Rt2.out hb9)
      replace HB := Aside0.mk (below_step HB.out hb9)
      clear hb9
      go_wp2_with fail
      clear q1
      clear Rt1
      clear Rt2
      obtain ⟨u1, hu1⟩ : ∃ r : List Id, r = someI z b false := ⟨_, rfl⟩
      have Lu1 : Aside0 (u1.length ≤ 60) := ⟨by rw [hu1]; exact Nat.le_trans (len_someI _ _ _) Lz.out⟩
      have hcn := without_calls Az cz z Ab cb b _ Rz.out Rb.out (by have := Lz.out; omega) (by have := Lb.out; omega)
      rw [← hu1] at hcn
      have Eu1 := Aside0.mk hu1
      clear hu1
      refine hcn.mono ?_
      rintro e V10 ⟨Au1, cu1, rfl, hC, hb10⟩
      clear hcn
      replace Ra := Aside0.mk (Kd.C_below Ra.out hb10)
      replace Rb := Aside0.mk (Kd.C_below Rb.out hb10)
      replace Rz := Aside0.mk (Kd.C_below Rz.out hb10)
      replace HB := Aside0.mk (below_step HB.out hb10)
      clear hb10
      have Ru1 := Aside0.mk hC
      clear hC
      go_wp2_with fail
      obtain ⟨u2, hu2⟩ : ∃ r : List Id, r = someI a b false := ⟨_, rfl⟩
      have Lu2 : Aside0 (u2.length ≤ 30) := ⟨by rw [hu2]; exact Nat.le_trans (len_someI _ _ _) La.out⟩
      have hcn := without_calls Aa ca a Ab cb b _ Ra.out Rb.out (by have := La.out; omega) (by have := Lb.out; omega)
      rw [← hu2] at hcn
      have Eu2 := Aside0.mk hu2
      clear hu2
      refine hcn.mono ?_
      rintro e V11 ⟨Au2, cu2, rfl, hC, hb11⟩
      clear hcn
      replace Ra := Aside0.mk (Kd.C_below Ra.out hb11)
      replace Rb := Aside0.mk (Kd.C_below Rb.out hb11)
      replace Rz := Aside0.mk (Kd.C_below Rz.out hb11)
      replace Ru1 := Aside0.mk (Kd.C_below Ru1.out hb11)
      replace HB := Aside0.mk (below_step HB.out hb11)
      clear hb11
      have Ru2 := Aside0.mk hC
      clear hC
      go_wp2_with fail
      have q1 : decide (u1 = u2) = true := by rw [Eu1.out, Eu2.out]; exact decide_eq_true (order_four HZ.out)
      have hcn := same_calls Au1 cu1 u1 Au2 cu2 u2 _ Ru1.out Ru2.out
      rw [q1] at hcn
      refine hcn.mono ?_
      rintro e V12 ⟨rfl, hb12⟩
      clear hcn
      replace Ra := Aside0.mk (Kd.C_below Ra.out hb12)
      replace Rb := Aside0.mk (Kd.C_below Rb.out hb12)
      replace Rz := Aside0.mk (Kd.C_below Rz.out hb12)
      replace Ru1 := Aside0.mk (Kd.C_below Ru1.out hb12)
      replace Ru2 := Aside0.mk (Kd.C_below Ru2.out hb12)
      replace HB := Aside0.mk (below_step HB.out hb12)
      clear hb12
      go_wp2_with fail
      clear q1
      clear Ru1
      clear Ru2
      obtain ⟨v0, hv0⟩ : ∃ r : List Id, r = sortI a := ⟨_, rfl⟩
      have Lv0 : Aside0 (v0.length ≤ 30) := ⟨by rw [hv0]; exact Nat.le_trans (len_sortI _) La.out⟩
      have hcn := sort_calls Aa ca a _ Ra.out (by have := La.out; omega)
      rw [← hv0] at hcn
      have Ev0 := Aside0.mk hv0
      clear hv0
      refine hcn.mono ?_
      rintro e V13 ⟨Av0, cv0, rfl, hC, hb13⟩
      clear hcn
      replace Ra := Aside0.mk (Kd.C_below Ra.out hb13)
      replace Rb := Aside0.mk (Kd.C_below Rb.out hb13)
      replace Rz := Aside0.mk (Kd.C_below Rz.out hb13)
      replace HB := Aside0.mk (below_step HB.out hb13)
      clear hb13
      have Rv0 := Aside0.mk hC
      clear hC
      go_wp2_with fail
      obtain ⟨v1, hv1⟩ : ∃ r : List Id, r = sortI v0 := ⟨_, rfl⟩
      have Lv1 : Aside0 (v1.length ≤ 30) := ⟨by rw [hv1]; exact Nat.le_trans (len_sortI _) Lv0.out⟩
      have hcn := sort_calls Av0 cv0 v0 _ Rv0.out (by have := Lv0.out; omega)
      rw [← hv1] at hcn
      have Ev1 := Aside0.mk hv1
      clear hv1
      refine hcn.mono ?_
      rintro e V14 ⟨Av1, cv1, rfl, hC, hb14⟩
      clear hcn
      replace Ra := Aside0.mk (Kd.C_below Ra.out hb14)
      replace Rb := Aside0.mk (Kd.C_below Rb.out hb14)
      replace Rz := Aside0.mk (Kd.C_below Rz.out hb14)
      replace Rv0 := Aside0.mk (Kd.C_below Rv0.out hb14)
      replace HB := Aside0.mk (below_step HB.out hb14)
      clear hb14
      have Rv1 := Aside0.mk hC
      clear hC
      go_wp2_with fail
      obtain ⟨v2, hv2⟩ : ∃ r : List Id, r = sortI a := ⟨_, rfl⟩
      have Lv2 : Aside0 (v2.length ≤ 30) := ⟨by rw [hv2]; exact Nat.le_trans (len_sortI _) La.out⟩
      have hcn := sort_calls Aa ca a _ Ra.out (by have := La.out; omega)
      rw [← hv2] at hcn
      have Ev2 := Aside0.mk hv2
      clear hv2
      refine hcn.mono ?_
      rintro e V15 ⟨Av2, cv2, rfl, hC, hb15⟩
      clear hcn
      replace Ra := Aside0.mk (Kd.C_below Ra.out hb15)
      replace Rb := Aside0.mk (Kd.C_below Rb.out hb15)
      replace Rz := Aside0.mk (Kd.C_below Rz.out hb15)
      replace Rv0 := Aside0.mk (Kd.C_below Rv0.out hb15)
      replace Rv1 := Aside0.mk (Kd.C_below Rv1.out hb15)
      replace HB := Aside0.mk (below_step HB.out hb15)
      clear hb15
      have Rv2 := Aside0.mk hC
      clear hC
      go_wp2_with fail
      have q1 : decide (v1 = v2) = true := by rw [Ev1.out, Ev2.out, Ev0.out]; exact decide_eq_true (sortI_up (up_sortI _))
      have hcn := same_calls Av1 cv1 v1 Av2 cv2 v2 _ Rv1.out Rv2.out
      rw [q1] at hcn
      refine hcn.mono ?_
      rintro e V16 ⟨rfl, hb16⟩
      clear hcn
      replace Ra := Aside0.mk (Kd.C_below Ra.out hb16)
      replace Rb := Aside0.mk (Kd.C_below Rb.out hb16)
      replace Rz := Aside0.mk (Kd.C_below Rz.out hb16)
      replace Rv0 := Aside0.mk (Kd.C_below Rv0.out hb16)
      replace Rv1 := Aside0.mk (Kd.C_below Rv1.out hb16)
      replace Rv2 := Aside0.mk (Kd.C_below Rv2.out hb16)
      replace HB := Aside0.mk (below_step HB.out hb16)
      clear hb16
      go_wp2_with fail
      go_ret
      exact ⟨rfl, HB.out⟩
end Go.Proofs.Ytkgjdeicjkibiaa.D
