/- Several of the walk's texts in one: SLawKeeps. -/
import Derived.RegionTactic
import Derived.Deep.RegionHeld3
import Derived.Deep.DeepCutAuto
import Derived.Test.YtmcddoolniaehaaGreatMK21
section
namespace Go.Proofs.YtmcddoolniaehaaGreat.S
open Go.RowKit Go.Proofs.YtmcddoolniaehaaGreatW.PrintWords Go.Proofs.YtmcddoolniaehaaGreatW.PrintLast Go.Proofs.YtmcddoolniaehaaGreatW.PrintMore Go.Proofs.YtmcddoolniaehaaGreatW
set_option linter.unusedVariables false
set_option linter.unusedSimpArgs false
set_option maxHeartbeats 4000000 in
set_option maxRecDepth 100000 in
theorem keeps_calls (cs : List Value) (s : St) (k : Int) (x y : ByteArray) (n node seq gen : Int) (key : ByteArray) (w : World) (hs : StV w cs s) (os : okL s.p) (is : inL s.c) (wx : okT x) (wy : okT y) (wk : okT key) :
    Calls Tryz.prog 8 #[.agg cs.toArray, .agg #[.int .i64 k, .string x, .string y, .int .i64 n], .agg #[.int .i64 node, .int .i64 seq], .int .i64 gen, .string key] w fun e w' => e = .returned (.bool true) ∧ Below w.heap.size w w' := by
  obtain ⟨hB, b0, b1, b2⟩ := box3 w (.cells cs.toArray 26) (.cells #[.int .i64 k, .string x, .string y, .int .i64 n] 28) (.cells #[.int .i64 node, .int .i64 seq] 30)
  have Ns := Aside0.mk (hs.below hB)
  have Hs := Aside0.mk b0
  have Ho := Aside0.mk b1
  have Hv := Aside0.mk b2
  have HB := Aside0.mk hB
  clear hB b0 b1 b2 hs
  go_enter Tryz.func8, Tryz.ntmps8
  go_wp2_with fail
  revert Ns Hs Ho Hv HB
  generalize (((w.alloc (.cells cs.toArray 26)).alloc (.cells #[.int .i64 k, .string x, .string y, .int .i64 n] 28)).alloc (.cells #[.int .i64 node, .int .i64 seq] 30)) = W
  intro Ns Hs Ho Hv HB
  generalize cs = Xs at *
  refine (awake_calls _).mono ?_
  rintro e V0 ⟨rfl, hb0⟩
  replace Hs := Aside0.mk (blk_below Hs.out hb0)
  replace Ns := Aside0.mk (Ns.out.below hb0)
  replace Ho := Aside0.mk (blk_below Ho.out hb0)
  replace Hv := Aside0.mk (blk_below Hv.out hb0)
  replace HB := Aside0.mk (below_step HB.out hb0)
  clear hb0
  go_wp2_with (first
    | (refine ld_st Hs Ns (by rfl) _ (by rfl) (by rfl) ?_; go_frame)
    | (refine ld_on Hs Ns (by rfl) _ (by rfl) (by rfl) ?_; go_frame)
    | (refine ld_op Ho (by rfl) _ (by rfl) (by rfl) ?_; go_frame)
    | (refine ld_ev Hv (by rfl) _ (by rfl) (by rfl) ?_; go_frame))
  have hcn := few_calls Ns.out
  obtain ⟨qs, hqs⟩ : ∃ q, q = fewS s := ⟨_, rfl⟩
  rw [← hqs] at hcn
  have Qs := Aside0.mk hqs
  clear hqs
  refine hcn.mono ?_
  rintro e V1 ⟨rfl, hb1⟩
  clear hcn
  replace Hs := Aside0.mk (blk_below Hs.out hb1)
  replace Ns := Aside0.mk (Ns.out.below hb1)
  replace Ho := Aside0.mk (blk_below Ho.out hb1)
  replace Hv := Aside0.mk (blk_below Hv.out hb1)
  replace HB := Aside0.mk (below_step HB.out hb1)
  clear hb1
  obtain ⟨o0, o1, o2, o3⟩ := cells4 Ho.out
  cases qs with
  | false =>
    go_wp2
    go_ret
    exact ⟨rfl, HB.out⟩
  | true =>
  have Fs := Aside0.mk (few_fit Qs.out.symm os)
  clear Qs
  by_cases hx : 100 < (x.size : Int)
  · go_wp2
    go_ret
    exact ⟨rfl, HB.out⟩
  by_cases hy : 100 < (y.size : Int)
  · go_wp2
    go_ret
    exact ⟨rfl, HB.out⟩
  by_cases hz : 100 < (key.size : Int)
  · go_wp2
    go_ret
    exact ⟨rfl, HB.out⟩
  by_cases hkx : key = x
  · subst hkx
    have ht : (key.toList == key.toList) = true := by simp
    go_wp2
    go_ret
    exact ⟨rfl, HB.out⟩
  have hkt : (key.toList == x.toList) = false := by rw [beq_eq_false_iff_ne]; exact fun q => hkx (toList_inj q)
  have HKX := Aside0.mk hkx
  clear hkx
  cases hc : canS s k x y n node seq gen with
  | false =>
    have E1 := Aside0.mk (doS_bad hc)
    clear hc
    go_wp2_with (first
      | (refine ld_st Hs Ns (by rfl) _ (by rfl) (by rfl) ?_; go_frame)
      | (refine ld_on Hs Ns (by rfl) _ (by rfl) (by rfl) ?_; go_frame)
      | (refine ld_op Ho (by rfl) _ (by rfl) (by rfl) ?_; go_frame)
      | (refine ld_ev Hv (by rfl) _ (by rfl) (by rfl) ?_; go_frame))
    have hcn := do_calls k n node seq gen Ns.out (Fs.out.up (show 30 ≤ 500 by decide)) wx wy
    rw [E1.out] at hcn
    try dsimp only at hcn
    refine hcn.mono ?_
    rintro e V2 ⟨cst, rfl, hN2, hb2⟩
    clear hcn
    replace Hs := Aside0.mk (blk_below Hs.out hb2)
    replace Ns := Aside0.mk (Ns.out.below hb2)
    replace Ho := Aside0.mk (blk_below Ho.out hb2)
    replace Hv := Aside0.mk (blk_below Hv.out hb2)
    replace HB := Aside0.mk (below_step HB.out hb2)
    have Nt := Aside0.mk hN2
    clear hN2 hb2
    obtain ⟨T0, t0, T1, t1, T2, t2, hct⟩ : ∃ T0 t0 T1 t1 T2 t2, cst = [.slice T0 0 t0, .slice T1 0 t1, .slice T2 0 t2] := by
      obtain ⟨T0, t0, T1, t1, T2, t2, e, _⟩ := Nt.out
      exact ⟨_, _, _, _, _, _, e⟩
    subst hct
    go_wp2_with (first
      | (refine ld_st Hs Ns (by rfl) _ (by rfl) (by rfl) ?_; go_frame)
      | (refine ld_on Hs Ns (by rfl) _ (by rfl) (by rfl) ?_; go_frame)
      | (refine ld_op Ho (by rfl) _ (by rfl) (by rfl) ?_; go_frame)
      | (refine ld_ev Hv (by rfl) _ (by rfl) (by rfl) ?_; go_frame)
      | (refine sv_st Nt (by rfl) (by rfl) _ _ (by rfl) (by rfl) (by rfl) ?_; intro U3 hbk3 hBk3 hsk3; replace Hs := Aside0.mk (blk_below Hs.out hBk3); replace Ns := Aside0.mk (Ns.out.below hBk3); replace Ho := Aside0.mk (blk_below Ho.out hBk3); replace Hv := Aside0.mk (blk_below Hv.out hBk3); replace Nt := Aside0.mk (Nt.out.below hBk3); replace HB := Aside0.mk (below_step HB.out hBk3); have Ht := Aside0.mk hbk3; clear hbk3 hBk3 hsk3; obtain ⟨tt0, tt1, tt2⟩ := cells3 Ht.out; go_frame)
      | (refine ld_st Ht Nt (by rfl) _ (by rfl) (by rfl) ?_; go_frame)
      | (refine ld_on Ht Nt (by rfl) _ (by rfl) (by rfl) ?_; go_frame))
    go_ret
    exact ⟨rfl, HB.out⟩
  | true =>
    have gS : Good s := ⟨(can_iff.1 hc).1, os, is, by have := Fs.out.1.2.2; omega⟩
    have hl := Fs.out.1.2.2
    obtain ⟨p1, p2, p3⟩ := keep_ok (key := key) gS (by omega) hc HKX.out
    have gT := op_good gS hc (by omega)
    have lT := do_fit k n node seq gen (key := x) (elem := y) Fs.out
    have e1 := doS_ok hc
    rw [e1] at lT
    dsimp only at lT
    have kp := keep_parts (s := s) (k := k) (x := x) (y := y) (n := n) (node := node) (seq := seq) (gen := gen)
    have hk4 := (opB_keys (can_iff.1 hc).2.1).2.1
    obtain ⟨T, hT⟩ : ∃ T, T = opS s k x y n node seq gen := ⟨_, rfl⟩
    rw [← hT] at p1 p2 p3 gT lT e1 kp
    obtain ⟨cv, hcv⟩ : ∃ z, z = getC s.c key := ⟨_, rfl⟩
    obtain ⟨el, hel⟩ : ∃ z, z = elemsP s.p key := ⟨_, rfl⟩
    obtain ⟨r1, r2, r3, r4, r5, r6, hr⟩ : ∃ r1 r2 r3 r4 r5 r6, getA (getR s.r key) = (r1, r2, r3, r4, r5, r6) := ⟨_, _, _, _, _, _, rfl⟩
    rw [← hcv] at p1
    rw [← hel] at p3
    have hr2 := hr
    rw [← p2] at hr2
    have C1 := Aside0.mk hcv.symm
    have C2 := Aside0.mk p1
    have R1 := Aside0.mk hr
    have R2 := Aside0.mk hr2
    have L1 := Aside0.mk hel.symm
    have L2 := Aside0.mk p3
    have E1 := Aside0.mk e1
    have FT := Aside0.mk (lT.up (show 31 ≤ 1000 by decide))
    have MT := Aside0.mk gT.1
    have OT := Aside0.mk gT.2.1
    have KP := Aside0.mk kp
    have K4 := Aside0.mk hk4
    have FS := Aside0.mk (Fs.out.up (show 30 ≤ 1000 by decide))
    have S1 : Aside0 (sameS s s = true) := ⟨sameS_iff.2 rfl⟩
    clear hc gS hl p1 p2 p3 gT lT e1 kp hk4 hT hcv hel hr hr2
    go_wp2_with (first
      | (refine ld_st Hs Ns (by rfl) _ (by rfl) (by rfl) ?_; go_frame)
      | (refine ld_on Hs Ns (by rfl) _ (by rfl) (by rfl) ?_; go_frame)
      | (refine ld_op Ho (by rfl) _ (by rfl) (by rfl) ?_; go_frame)
      | (refine ld_ev Hv (by rfl) _ (by rfl) (by rfl) ?_; go_frame))
    have hcn := do_calls k n node seq gen Ns.out (Fs.out.up (show 30 ≤ 500 by decide)) wx wy
    rw [E1.out] at hcn
    try dsimp only at hcn
    refine hcn.mono ?_
    rintro e V2 ⟨cst, rfl, hN2, hb2⟩
    clear hcn
    replace Hs := Aside0.mk (blk_below Hs.out hb2)
    replace Ns := Aside0.mk (Ns.out.below hb2)
    replace Ho := Aside0.mk (blk_below Ho.out hb2)
    replace Hv := Aside0.mk (blk_below Hv.out hb2)
    replace HB := Aside0.mk (below_step HB.out hb2)
    have Nt := Aside0.mk hN2
    clear hN2 hb2
    obtain ⟨T0, t0, T1, t1, T2, t2, hct, _⟩ := Nt.out
    subst hct
    obtain ⟨A0, c0, A1, c1, A2, c2, hcs, _⟩ := Ns.out
    subst hcs
    clear o0 o1 o2 o3
    go_wp2_with (first
      | (refine ld_st Hs Ns (by rfl) _ (by rfl) (by rfl) ?_; go_frame)
      | (refine ld_on Hs Ns (by rfl) _ (by rfl) (by rfl) ?_; go_frame)
      | (refine ld_op Ho (by rfl) _ (by rfl) (by rfl) ?_; go_frame)
      | (refine ld_ev Hv (by rfl) _ (by rfl) (by rfl) ?_; go_frame)
      | (refine sv_st Nt (by rfl) (by rfl) _ _ (by rfl) (by rfl) (by rfl) ?_; intro U3 hbk3 hBk3 hsk3; replace Hs := Aside0.mk (blk_below Hs.out hBk3); replace Ns := Aside0.mk (Ns.out.below hBk3); replace Ho := Aside0.mk (blk_below Ho.out hBk3); replace Hv := Aside0.mk (blk_below Hv.out hBk3); replace Nt := Aside0.mk (Nt.out.below hBk3); replace HB := Aside0.mk (below_step HB.out hBk3); have Ht := Aside0.mk hbk3; clear hbk3 hBk3 hsk3; obtain ⟨ss0, ss1, ss2⟩ := cells3 Hs.out; obtain ⟨tt0, tt1, tt2⟩ := cells3 Ht.out; go_frame)
      | (refine ld_st Ht Nt (by rfl) _ (by rfl) (by rfl) ?_; go_frame)
      | (refine ld_on Ht Nt (by rfl) _ (by rfl) (by rfl) ?_; go_frame))
    have hcn := regget_calls Ns.out R1.out
    refine hcn.mono ?_
    rintro e V4 ⟨rfl, hb4⟩
    clear hcn
    replace Hs := Aside0.mk (blk_below Hs.out hb4)
    replace Ns := Aside0.mk (Ns.out.below hb4)
    replace Ho := Aside0.mk (blk_below Ho.out hb4)
    replace Hv := Aside0.mk (blk_below Hv.out hb4)
    replace Ht := Aside0.mk (blk_below Ht.out hb4)
    replace Nt := Aside0.mk (Nt.out.below hb4)
    replace HB := Aside0.mk (below_step HB.out hb4)
    clear hb4 ss0 ss1 ss2 tt0 tt1 tt2
    obtain ⟨ss0, ss1, ss2⟩ := cells3 Hs.out
    obtain ⟨tt0, tt1, tt2⟩ := cells3 Ht.out
    obtain ⟨hb5, bx5⟩ := box1 V4 (.cells #[.string r1, .string r2, .int .i64 r3, .int .i64 r4, .int .i64 r5] 47)
    obtain ⟨sz0, sz1, sz2⟩ := cells3 (blk_below Hs.out hb5)
    obtain ⟨tz0, tz1, tz2⟩ := cells3 (blk_below Ht.out hb5)
    go_wp2_with fail
    clear ss0 ss1 ss2 tt0 tt1 tt2 sz0 sz1 sz2 tz0 tz1 tz2
    replace Hs := Aside0.mk (blk_below Hs.out hb5)
    replace Ns := Aside0.mk (Ns.out.below hb5)
    replace Ho := Aside0.mk (blk_below Ho.out hb5)
    replace Hv := Aside0.mk (blk_below Hv.out hb5)
    replace Ht := Aside0.mk (blk_below Ht.out hb5)
    replace Nt := Aside0.mk (Nt.out.below hb5)
    replace HB := Aside0.mk (below_step HB.out hb5)
    have Hx := Aside0.mk bx5
    clear hb5 bx5
    revert Hs Ns Ho Hv Ht Nt HB Hx
    generalize V4.alloc (.cells #[.string r1, .string r2, .int .i64 r3, .int .i64 r4, .int .i64 r5] 47) = U5
    intro Hs Ns Ho Hv Ht Nt HB Hx
    obtain ⟨ss0, ss1, ss2⟩ := cells3 Hs.out
    obtain ⟨tt0, tt1, tt2⟩ := cells3 Ht.out
    have hcn := regget_calls Nt.out R2.out
    refine hcn.mono ?_
    rintro e V6 ⟨rfl, hb6⟩
    clear hcn
    replace Hs := Aside0.mk (blk_below Hs.out hb6)
    replace Ns := Aside0.mk (Ns.out.below hb6)
    replace Ho := Aside0.mk (blk_below Ho.out hb6)
    replace Hv := Aside0.mk (blk_below Hv.out hb6)
    replace Ht := Aside0.mk (blk_below Ht.out hb6)
    replace Nt := Aside0.mk (Nt.out.below hb6)
    replace Hx := Aside0.mk (blk_below Hx.out hb6)
    replace HB := Aside0.mk (below_step HB.out hb6)
    clear hb6 ss0 ss1 ss2 tt0 tt1 tt2
    obtain ⟨ss0, ss1, ss2⟩ := cells3 Hs.out
    obtain ⟨tt0, tt1, tt2⟩ := cells3 Ht.out
    obtain ⟨hb7, bx7⟩ := box1 V6 (.cells #[.string r1, .string r2, .int .i64 r3, .int .i64 r4, .int .i64 r5] 47)
    obtain ⟨sz0, sz1, sz2⟩ := cells3 (blk_below Hs.out hb7)
    obtain ⟨tz0, tz1, tz2⟩ := cells3 (blk_below Ht.out hb7)
    go_wp2_with fail
    clear ss0 ss1 ss2 tt0 tt1 tt2 sz0 sz1 sz2 tz0 tz1 tz2
    replace Hs := Aside0.mk (blk_below Hs.out hb7)
    replace Ns := Aside0.mk (Ns.out.below hb7)
    replace Ho := Aside0.mk (blk_below Ho.out hb7)
    replace Hv := Aside0.mk (blk_below Hv.out hb7)
    replace Ht := Aside0.mk (blk_below Ht.out hb7)
    replace Nt := Aside0.mk (Nt.out.below hb7)
    replace Hx := Aside0.mk (blk_below Hx.out hb7)
    replace HB := Aside0.mk (below_step HB.out hb7)
    have Hy := Aside0.mk bx7
    clear hb7 bx7
    revert Hs Ns Ho Hv Ht Nt Hx HB Hy
    generalize V6.alloc (.cells #[.string r1, .string r2, .int .i64 r3, .int .i64 r4, .int .i64 r5] 47) = U7
    intro Hs Ns Ho Hv Ht Nt Hx HB Hy
    obtain ⟨ss0, ss1, ss2⟩ := cells3 Hs.out
    obtain ⟨tt0, tt1, tt2⟩ := cells3 Ht.out
    have hcn := elems_calls Ns.out os (by have := FS.out.1.2.2; omega) L1.out
    refine hcn.mono ?_
    rintro e V8 ⟨B1, b1, rfl, hb8⟩
    clear hcn
    replace Hs := Aside0.mk (blk_below Hs.out hb8)
    replace Ns := Aside0.mk (Ns.out.below hb8)
    replace Ho := Aside0.mk (blk_below Ho.out hb8)
    replace Hv := Aside0.mk (blk_below Hv.out hb8)
    replace Ht := Aside0.mk (blk_below Ht.out hb8)
    replace Nt := Aside0.mk (Nt.out.below hb8)
    replace Hx := Aside0.mk (blk_below Hx.out hb8)
    replace Hy := Aside0.mk (blk_below Hy.out hb8)
    replace HB := Aside0.mk (below_step HB.out hb8)
    clear hb8 ss0 ss1 ss2 tt0 tt1 tt2
    obtain ⟨ss0, ss1, ss2⟩ := cells3 Hs.out
    obtain ⟨tt0, tt1, tt2⟩ := cells3 Ht.out
    go_wp2_with fail
    have hcn := elems_calls Nt.out OT.out (by have := FT.out.1.2.2; omega) L2.out
    refine hcn.mono ?_
    rintro e V9 ⟨B2, b2, rfl, hb9⟩
    clear hcn
    replace Hs := Aside0.mk (blk_below Hs.out hb9)
    replace Ns := Aside0.mk (Ns.out.below hb9)
    replace Ho := Aside0.mk (blk_below Ho.out hb9)
    replace Hv := Aside0.mk (blk_below Hv.out hb9)
    replace Ht := Aside0.mk (blk_below Ht.out hb9)
    replace Nt := Aside0.mk (Nt.out.below hb9)
    replace Hx := Aside0.mk (blk_below Hx.out hb9)
    replace Hy := Aside0.mk (blk_below Hy.out hb9)
    replace HB := Aside0.mk (below_step HB.out hb9)
    clear hb9 ss0 ss1 ss2 tt0 tt1 tt2
    obtain ⟨ss0, ss1, ss2⟩ := cells3 Hs.out
    obtain ⟨tt0, tt1, tt2⟩ := cells3 Ht.out
    go_wp2_with fail
    have HCS : Aside0 (∀ W, Below V9.heap.size V9 W → Calls Tryz.prog 23 #[.slice A0 s.c.length c0, .string key] W fun e w1 => e = .returned (.int .i64 cv) ∧ Below W.heap.size W w1) := ⟨fun W hb => ctrget_calls (Ns.out.below hb) C1.out⟩
    have HCT : Aside0 (∀ W, Below V9.heap.size V9 W → Calls Tryz.prog 23 #[.slice T0 T.c.length t0, .string key] W fun e w1 => e = .returned (.int .i64 cv) ∧ Below W.heap.size W w1) := ⟨fun W hb => ctrget_calls (Nt.out.below hb) C2.out⟩
    have HMT : Aside0 (∀ W, Below V9.heap.size V9 W → Calls Tryz.prog 15 #[.agg (List.toArray [.slice T0 T.c.length t0, .slice T1 T.r.length t1, .slice T2 T.p.length t2])] W fun e w1 => e = .returned (.bool true) ∧ Below W.heap.size W w1) := ⟨fun W hb => by have h := may_calls (Nt.out.below hb) FT.out; rw [MT.out] at h; exact h⟩
    clear ss0 ss1 ss2 tt0 tt1 tt2 C1 C2 R1 R2 L1 L2
    have s_0 := Hs
    have t_0 := Ht
    have x_0 := Hx
    have y_0 := Hy
    have Z_0 := Aside0.mk (Below.refl V9.heap.size V9)
    obtain ⟨as0, as1, as2⟩ := cells3 s_0.out
    obtain ⟨at0, at1, at2⟩ := cells3 t_0.out
    obtain ⟨ax0, ax1, ax2, ax3, ax4⟩ := cells5 x_0.out
    obtain ⟨ay0, ay1, ay2, ay3, ay4⟩ := cells5 y_0.out
    clear as1 as2
    go_region_held3 (fun w' => w'.cell? ⟨w.heap.size, 0, none⟩ = some (.slice A0 s.c.length c0) ∧ w'.cell? ⟨V2.heap.size, 0, none⟩ = some (.slice T0 T.c.length t0) ∧ w'.cell? ⟨V2.heap.size, 1, none⟩ = some (.slice T1 T.r.length t1) ∧ w'.cell? ⟨V2.heap.size, 2, none⟩ = some (.slice T2 T.p.length t2) ∧ w'.cell? ⟨V4.heap.size, 0, none⟩ = some (.string r1) ∧ w'.cell? ⟨V4.heap.size, 1, none⟩ = some (.string r2) ∧ w'.cell? ⟨V4.heap.size, 2, none⟩ = some (.int .i64 r3) ∧ w'.cell? ⟨V4.heap.size, 3, none⟩ = some (.int .i64 r4) ∧ w'.cell? ⟨V4.heap.size, 4, none⟩ = some (.int .i64 r5) ∧ w'.cell? ⟨V6.heap.size, 0, none⟩ = some (.string r1) ∧ w'.cell? ⟨V6.heap.size, 1, none⟩ = some (.string r2) ∧ w'.cell? ⟨V6.heap.size, 2, none⟩ = some (.int .i64 r3) ∧ w'.cell? ⟨V6.heap.size, 3, none⟩ = some (.int .i64 r4) ∧ w'.cell? ⟨V6.heap.size, 4, none⟩ = some (.int .i64 r5))
      (first | (with_reducible exact ⟨as0, at0, at1, at2, ax0, ax1, ax2, ax3, ax4, ay0, ay1, ay2, ay3, ay4⟩) | (with_reducible exact ⟨bs0, bt0, bt1, bt2, bx0, bx1, bx2, bx3, bx4, by0, by1, by2, by3, by4⟩) | (with_reducible exact ⟨ds0, dt0, dt1, dt2, dx0, dx1, dx2, dx3, dx4, dy0, dy1, dy2, dy3, dy4⟩) | (with_reducible exact ⟨es0, et0, et1, et2, ex0, ex1, ex2, ex3, ex4, ey0, ey1, ey2, ey3, ey4⟩) | go_keep)
      (first
      | (go_at_call 23; (with_reducible refine (HCS.out _ ?hz).mono ?_); (case hz => exact below_drew Z_0.out); rintro e W1 ⟨rfl, hb⟩; have s_1 := Aside0.mk (blk_below (blk_drew s_0.out) hb); have t_1 := Aside0.mk (blk_below (blk_drew t_0.out) hb); have x_1 := Aside0.mk (blk_below (blk_drew x_0.out) hb); have y_1 := Aside0.mk (blk_below (blk_drew y_0.out) hb); have Z_1 := Aside0.mk (below_step (below_drew Z_0.out) hb); obtain ⟨bs0, bs1, bs2⟩ := cells3 s_1.out; obtain ⟨bt0, bt1, bt2⟩ := cells3 t_1.out; obtain ⟨bx0, bx1, bx2, bx3, bx4⟩ := cells5 x_1.out; obtain ⟨by0, by1, by2, by3, by4⟩ := cells5 y_1.out; clear bs1 bs2; clear hb)
      | (go_at_call 23; (with_reducible refine (HCT.out _ ?hz).mono ?_); (case hz => exact Z_1.out); rintro e W2 ⟨rfl, hb⟩; have s_2 := Aside0.mk (blk_below (s_1.out) hb); have t_2 := Aside0.mk (blk_below (t_1.out) hb); have x_2 := Aside0.mk (blk_below (x_1.out) hb); have y_2 := Aside0.mk (blk_below (y_1.out) hb); have Z_2 := Aside0.mk (below_step (Z_1.out) hb); obtain ⟨ds0, ds1, ds2⟩ := cells3 s_2.out; obtain ⟨dt0, dt1, dt2⟩ := cells3 t_2.out; obtain ⟨dx0, dx1, dx2, dx3, dx4⟩ := cells5 x_2.out; obtain ⟨dy0, dy1, dy2, dy3, dy4⟩ := cells5 y_2.out; clear ds1 ds2; clear hb)
      | (go_at_call 15; (with_reducible refine (HMT.out _ ?hz).mono ?_); (case hz => exact Z_2.out); rintro e W3 ⟨rfl, hb⟩; have s_3 := Aside0.mk (blk_below (s_2.out) hb); have t_3 := Aside0.mk (blk_below (t_2.out) hb); have x_3 := Aside0.mk (blk_below (x_2.out) hb); have y_3 := Aside0.mk (blk_below (y_2.out) hb); have Z_3 := Aside0.mk (below_step (Z_2.out) hb); obtain ⟨es0, es1, es2⟩ := cells3 s_3.out; obtain ⟨et0, et1, et2⟩ := cells3 t_3.out; obtain ⟨ex0, ex1, ex2, ex3, ex4⟩ := cells5 x_3.out; obtain ⟨ey0, ey1, ey2, ey3, ey4⟩ := cells5 y_3.out; clear es1 es2; clear hb))
    replace Hs := Aside0.mk (blk_below Hs.out Z_3.out)
    replace Ns := Aside0.mk (Ns.out.below Z_3.out)
    replace Ho := Aside0.mk (blk_below Ho.out Z_3.out)
    replace Hv := Aside0.mk (blk_below Hv.out Z_3.out)
    replace Ht := Aside0.mk (blk_below Ht.out Z_3.out)
    replace Nt := Aside0.mk (Nt.out.below Z_3.out)
    replace Hx := Aside0.mk (blk_below Hx.out Z_3.out)
    replace Hy := Aside0.mk (blk_below Hy.out Z_3.out)
    replace HB := Aside0.mk (below_step HB.out Z_3.out)
    clear s_0 t_0 x_0 y_0 s_1 t_1 x_1 y_1 s_2 t_2 x_2 y_2 s_3 t_3 x_3 y_3 Z_0 Z_1 Z_2 Z_3 HCS HCT HMT Hx Hy as0 at0 at1 at2 ax0 ax1 ax2 ax3 ax4 ay0 ay1 ay2 ay3 ay4 bs0 bt0 bt1 bt2 bx0 bx1 bx2 bx3 bx4 by0 by1 by2 by3 by4 ds0 dt0 dt1 dt2 dx0 dx1 dx2 dx3 dx4 dy0 dy1 dy2 dy3 dy4 es0 et0 et1 et2 ex0 ex1 ex2 ex3 ex4 ey0 ey1 ey2 ey3 ey4
    rcases K4.out with rfl | rfl | rfl | rfl
    · have TC := Aside0.mk (mix0 Ns.out Nt.out (KP.out.1 rfl))
      clear KP K4
      have Nu := Nt
      have HsV := Hs
      have HoV := Ho
      have HvV := Hv
      have HtV := Ht
      have NsV := Ns
      have NtV := Nt
      have HBV := HB
      go_wp2_with (first
        | (refine ld_st Hs Ns (by rfl) _ (by rfl) (by rfl) ?_; go_frame)
        | (refine ld_on Hs Ns (by rfl) _ (by rfl) (by rfl) ?_; go_frame)
        | (refine ld_st Ht Nt (by rfl) _ (by rfl) (by rfl) ?_; go_frame)
        | (refine ld_on Ht Nt (by rfl) _ (by rfl) (by rfl) ?_; go_frame)
        | (refine ld_op Ho (by rfl) _ (by rfl) (by rfl) ?_; go_frame)
        | (refine ld_ev Hv (by rfl) _ (by rfl) (by rfl) ?_; go_frame)
        | (refine sv_st Nu (by rfl) (by rfl) _ _ (by rfl) (by rfl) (by rfl) ?_; intro U10 hbk10 hBk10 hsk10; have hBV := Aside0.mk hBk10; replace Hs := Aside0.mk (blk_below Hs.out hBk10); replace Ns := Aside0.mk (Ns.out.below hBk10); replace Ho := Aside0.mk (blk_below Ho.out hBk10); replace Hv := Aside0.mk (blk_below Hv.out hBk10); replace Ht := Aside0.mk (blk_below Ht.out hBk10); replace Nt := Aside0.mk (Nt.out.below hBk10); replace HB := Aside0.mk (below_step HB.out hBk10); have Hu := Aside0.mk hbk10; clear hbk10 hBk10 hsk10; obtain ⟨oo0, oo1, oo2, oo3⟩ := cells4 Ho.out; obtain ⟨ss0, ss1, ss2⟩ := cells3 Hs.out; obtain ⟨uu0, uu1, uu2⟩ := cells3 Hu.out; obtain ⟨uf0, uf1, uf2⟩ := frozen3 Hu.out; go_frame)
        | (generalize hgU : World.setCell U10 ⟨W3.heap.size, 0, none⟩ (.slice A0 s.c.length c0) = U9; have h9 : Below W3.heap.size W3 U9 := (by rw [← hgU]; exact Below.setCell hBV.out (Nat.le_refl _) _); replace Hs := Aside0.mk (blk_below HsV.out h9); replace Ns := Aside0.mk (NsV.out.below h9); replace Ho := Aside0.mk (blk_below HoV.out h9); replace Hv := Aside0.mk (blk_below HvV.out h9); replace Ht := Aside0.mk (blk_below HtV.out h9); replace Nt := Aside0.mk (NtV.out.below h9); replace HB := Aside0.mk (below_step HBV.out h9); clear Nu; have Nu := Aside0.mk (TC.out.below h9); have Hz : Aside0 (U9.heap[W3.heap.size]? = some (.cells (List.toArray [.slice A0 s.c.length c0, .slice T1 T.r.length t1, .slice T2 T.p.length t2]) 26 (0, 0))) := ⟨by rw [← hgU]; exact blk_set Hu.out 0 _⟩; clear Hu; have Hu := Hz; clear hgU h9 Hz oo0 oo1 oo2 oo3 ss0 ss1 ss2 uu0 uu1 uu2 uf0 uf1 uf2 hBV TC HsV HoV HvV HtV NsV NtV; first | (refine ld_st Hs Ns (by rfl) _ (by rfl) (by rfl) ?_; go_frame) | (refine ld_on Hs Ns (by rfl) _ (by rfl) (by rfl) ?_; go_frame) | (refine ld_st Ht Nt (by rfl) _ (by rfl) (by rfl) ?_; go_frame) | (refine ld_on Ht Nt (by rfl) _ (by rfl) (by rfl) ?_; go_frame) | (refine ld_st Hu Nu (by rfl) _ (by rfl) (by rfl) ?_; go_frame) | (refine ld_on Hu Nu (by rfl) _ (by rfl) (by rfl) ?_; go_frame) | (refine ld_op Ho (by rfl) _ (by rfl) (by rfl) ?_; go_frame) | (refine ld_ev Hv (by rfl) _ (by rfl) (by rfl) ?_; go_frame))
        | (refine ld_st Hs Ns (by rfl) _ (by rfl) (by rfl) ?_; go_frame)
        | (refine ld_on Hs Ns (by rfl) _ (by rfl) (by rfl) ?_; go_frame)
        | (refine ld_st Ht Nt (by rfl) _ (by rfl) (by rfl) ?_; go_frame)
        | (refine ld_on Ht Nt (by rfl) _ (by rfl) (by rfl) ?_; go_frame)
        | (refine ld_st Hu Nu (by rfl) _ (by rfl) (by rfl) ?_; go_frame)
        | (refine ld_on Hu Nu (by rfl) _ (by rfl) (by rfl) ?_; go_frame)
        | (refine ld_op Ho (by rfl) _ (by rfl) (by rfl) ?_; go_frame)
        | (refine ld_ev Hv (by rfl) _ (by rfl) (by rfl) ?_; go_frame))
      have hcn := same_calls Nu.out Ns.out FS.out
      rw [S1.out] at hcn
      refine hcn.mono ?_
      rintro e Vz ⟨rfl, hbz⟩
      clear hcn
      replace HB := Aside0.mk (below_step HB.out hbz)
      go_wp2
      go_ret
      exact ⟨rfl, HB.out⟩
    · have TC := Aside0.mk (mix1 Ns.out Nt.out (KP.out.2.1 rfl))
      clear KP K4
      have Nu := Nt
      have HsV := Hs
      have HoV := Ho
      have HvV := Hv
      have HtV := Ht
      have NsV := Ns
      have NtV := Nt
      have HBV := HB
      go_wp2_with (first
        | (refine ld_st Hs Ns (by rfl) _ (by rfl) (by rfl) ?_; go_frame)
        | (refine ld_on Hs Ns (by rfl) _ (by rfl) (by rfl) ?_; go_frame)
        | (refine ld_st Ht Nt (by rfl) _ (by rfl) (by rfl) ?_; go_frame)
        | (refine ld_on Ht Nt (by rfl) _ (by rfl) (by rfl) ?_; go_frame)
        | (refine ld_op Ho (by rfl) _ (by rfl) (by rfl) ?_; go_frame)
        | (refine ld_ev Hv (by rfl) _ (by rfl) (by rfl) ?_; go_frame)
        | (refine sv_st Nu (by rfl) (by rfl) _ _ (by rfl) (by rfl) (by rfl) ?_; intro U10 hbk10 hBk10 hsk10; have hBV := Aside0.mk hBk10; replace Hs := Aside0.mk (blk_below Hs.out hBk10); replace Ns := Aside0.mk (Ns.out.below hBk10); replace Ho := Aside0.mk (blk_below Ho.out hBk10); replace Hv := Aside0.mk (blk_below Hv.out hBk10); replace Ht := Aside0.mk (blk_below Ht.out hBk10); replace Nt := Aside0.mk (Nt.out.below hBk10); replace HB := Aside0.mk (below_step HB.out hBk10); have Hu := Aside0.mk hbk10; clear hbk10 hBk10 hsk10; obtain ⟨oo0, oo1, oo2, oo3⟩ := cells4 Ho.out; obtain ⟨ss0, ss1, ss2⟩ := cells3 Hs.out; obtain ⟨uu0, uu1, uu2⟩ := cells3 Hu.out; obtain ⟨uf0, uf1, uf2⟩ := frozen3 Hu.out; go_frame)
        | (generalize hgU : World.setCell U10 ⟨W3.heap.size, 1, none⟩ (.slice A1 s.r.length c1) = U9; have h9 : Below W3.heap.size W3 U9 := (by rw [← hgU]; exact Below.setCell hBV.out (Nat.le_refl _) _); replace Hs := Aside0.mk (blk_below HsV.out h9); replace Ns := Aside0.mk (NsV.out.below h9); replace Ho := Aside0.mk (blk_below HoV.out h9); replace Hv := Aside0.mk (blk_below HvV.out h9); replace Ht := Aside0.mk (blk_below HtV.out h9); replace Nt := Aside0.mk (NtV.out.below h9); replace HB := Aside0.mk (below_step HBV.out h9); clear Nu; have Nu := Aside0.mk (TC.out.below h9); have Hz : Aside0 (U9.heap[W3.heap.size]? = some (.cells (List.toArray [.slice T0 T.c.length t0, .slice A1 s.r.length c1, .slice T2 T.p.length t2]) 26 (0, 0))) := ⟨by rw [← hgU]; exact blk_set Hu.out 1 _⟩; clear Hu; have Hu := Hz; clear hgU h9 Hz oo0 oo1 oo2 oo3 ss0 ss1 ss2 uu0 uu1 uu2 uf0 uf1 uf2 hBV TC HsV HoV HvV HtV NsV NtV; first | (refine ld_st Hs Ns (by rfl) _ (by rfl) (by rfl) ?_; go_frame) | (refine ld_on Hs Ns (by rfl) _ (by rfl) (by rfl) ?_; go_frame) | (refine ld_st Ht Nt (by rfl) _ (by rfl) (by rfl) ?_; go_frame) | (refine ld_on Ht Nt (by rfl) _ (by rfl) (by rfl) ?_; go_frame) | (refine ld_st Hu Nu (by rfl) _ (by rfl) (by rfl) ?_; go_frame) | (refine ld_on Hu Nu (by rfl) _ (by rfl) (by rfl) ?_; go_frame) | (refine ld_op Ho (by rfl) _ (by rfl) (by rfl) ?_; go_frame) | (refine ld_ev Hv (by rfl) _ (by rfl) (by rfl) ?_; go_frame))
        | (refine ld_st Hs Ns (by rfl) _ (by rfl) (by rfl) ?_; go_frame)
        | (refine ld_on Hs Ns (by rfl) _ (by rfl) (by rfl) ?_; go_frame)
        | (refine ld_st Ht Nt (by rfl) _ (by rfl) (by rfl) ?_; go_frame)
        | (refine ld_on Ht Nt (by rfl) _ (by rfl) (by rfl) ?_; go_frame)
        | (refine ld_st Hu Nu (by rfl) _ (by rfl) (by rfl) ?_; go_frame)
        | (refine ld_on Hu Nu (by rfl) _ (by rfl) (by rfl) ?_; go_frame)
        | (refine ld_op Ho (by rfl) _ (by rfl) (by rfl) ?_; go_frame)
        | (refine ld_ev Hv (by rfl) _ (by rfl) (by rfl) ?_; go_frame))
      have hcn := same_calls Nu.out Ns.out FS.out
      rw [S1.out] at hcn
      refine hcn.mono ?_
      rintro e Vz ⟨rfl, hbz⟩
      clear hcn
      replace HB := Aside0.mk (below_step HB.out hbz)
      go_wp2
      go_ret
      exact ⟨rfl, HB.out⟩
    · have TC := Aside0.mk (mix2 Ns.out Nt.out (KP.out.2.2 (by decide) (by decide)))
      clear KP K4
      have Nu := Nt
      have HsV := Hs
      have HoV := Ho
      have HvV := Hv
      have HtV := Ht
      have NsV := Ns
      have NtV := Nt
      have HBV := HB
      go_wp2_with (first
        | (refine ld_st Hs Ns (by rfl) _ (by rfl) (by rfl) ?_; go_frame)
        | (refine ld_on Hs Ns (by rfl) _ (by rfl) (by rfl) ?_; go_frame)
        | (refine ld_st Ht Nt (by rfl) _ (by rfl) (by rfl) ?_; go_frame)
        | (refine ld_on Ht Nt (by rfl) _ (by rfl) (by rfl) ?_; go_frame)
        | (refine ld_op Ho (by rfl) _ (by rfl) (by rfl) ?_; go_frame)
        | (refine ld_ev Hv (by rfl) _ (by rfl) (by rfl) ?_; go_frame)
        | (refine sv_st Nu (by rfl) (by rfl) _ _ (by rfl) (by rfl) (by rfl) ?_; intro U10 hbk10 hBk10 hsk10; have hBV := Aside0.mk hBk10; replace Hs := Aside0.mk (blk_below Hs.out hBk10); replace Ns := Aside0.mk (Ns.out.below hBk10); replace Ho := Aside0.mk (blk_below Ho.out hBk10); replace Hv := Aside0.mk (blk_below Hv.out hBk10); replace Ht := Aside0.mk (blk_below Ht.out hBk10); replace Nt := Aside0.mk (Nt.out.below hBk10); replace HB := Aside0.mk (below_step HB.out hBk10); have Hu := Aside0.mk hbk10; clear hbk10 hBk10 hsk10; obtain ⟨oo0, oo1, oo2, oo3⟩ := cells4 Ho.out; obtain ⟨ss0, ss1, ss2⟩ := cells3 Hs.out; obtain ⟨uu0, uu1, uu2⟩ := cells3 Hu.out; obtain ⟨uf0, uf1, uf2⟩ := frozen3 Hu.out; go_frame)
        | (generalize hgU : World.setCell U10 ⟨W3.heap.size, 2, none⟩ (.slice A2 s.p.length c2) = U9; have h9 : Below W3.heap.size W3 U9 := (by rw [← hgU]; exact Below.setCell hBV.out (Nat.le_refl _) _); replace Hs := Aside0.mk (blk_below HsV.out h9); replace Ns := Aside0.mk (NsV.out.below h9); replace Ho := Aside0.mk (blk_below HoV.out h9); replace Hv := Aside0.mk (blk_below HvV.out h9); replace Ht := Aside0.mk (blk_below HtV.out h9); replace Nt := Aside0.mk (NtV.out.below h9); replace HB := Aside0.mk (below_step HBV.out h9); clear Nu; have Nu := Aside0.mk (TC.out.below h9); have Hz : Aside0 (U9.heap[W3.heap.size]? = some (.cells (List.toArray [.slice T0 T.c.length t0, .slice T1 T.r.length t1, .slice A2 s.p.length c2]) 26 (0, 0))) := ⟨by rw [← hgU]; exact blk_set Hu.out 2 _⟩; clear Hu; have Hu := Hz; clear hgU h9 Hz oo0 oo1 oo2 oo3 ss0 ss1 ss2 uu0 uu1 uu2 uf0 uf1 uf2 hBV TC HsV HoV HvV HtV NsV NtV; first | (refine ld_st Hs Ns (by rfl) _ (by rfl) (by rfl) ?_; go_frame) | (refine ld_on Hs Ns (by rfl) _ (by rfl) (by rfl) ?_; go_frame) | (refine ld_st Ht Nt (by rfl) _ (by rfl) (by rfl) ?_; go_frame) | (refine ld_on Ht Nt (by rfl) _ (by rfl) (by rfl) ?_; go_frame) | (refine ld_st Hu Nu (by rfl) _ (by rfl) (by rfl) ?_; go_frame) | (refine ld_on Hu Nu (by rfl) _ (by rfl) (by rfl) ?_; go_frame) | (refine ld_op Ho (by rfl) _ (by rfl) (by rfl) ?_; go_frame) | (refine ld_ev Hv (by rfl) _ (by rfl) (by rfl) ?_; go_frame))
        | (refine ld_st Hs Ns (by rfl) _ (by rfl) (by rfl) ?_; go_frame)
        | (refine ld_on Hs Ns (by rfl) _ (by rfl) (by rfl) ?_; go_frame)
        | (refine ld_st Ht Nt (by rfl) _ (by rfl) (by rfl) ?_; go_frame)
        | (refine ld_on Ht Nt (by rfl) _ (by rfl) (by rfl) ?_; go_frame)
        | (refine ld_st Hu Nu (by rfl) _ (by rfl) (by rfl) ?_; go_frame)
        | (refine ld_on Hu Nu (by rfl) _ (by rfl) (by rfl) ?_; go_frame)
        | (refine ld_op Ho (by rfl) _ (by rfl) (by rfl) ?_; go_frame)
        | (refine ld_ev Hv (by rfl) _ (by rfl) (by rfl) ?_; go_frame))
      have hcn := same_calls Nu.out Ns.out FS.out
      rw [S1.out] at hcn
      refine hcn.mono ?_
      rintro e Vz ⟨rfl, hbz⟩
      clear hcn
      replace HB := Aside0.mk (below_step HB.out hbz)
      go_wp2
      go_ret
      exact ⟨rfl, HB.out⟩
    · have TC := Aside0.mk (mix2 Ns.out Nt.out (KP.out.2.2 (by decide) (by decide)))
      clear KP K4
      have Nu := Nt
      have HsV := Hs
      have HoV := Ho
      have HvV := Hv
      have HtV := Ht
      have NsV := Ns
      have NtV := Nt
      have HBV := HB
      go_wp2_with (first
        | (refine ld_st Hs Ns (by rfl) _ (by rfl) (by rfl) ?_; go_frame)
        | (refine ld_on Hs Ns (by rfl) _ (by rfl) (by rfl) ?_; go_frame)
        | (refine ld_st Ht Nt (by rfl) _ (by rfl) (by rfl) ?_; go_frame)
        | (refine ld_on Ht Nt (by rfl) _ (by rfl) (by rfl) ?_; go_frame)
        | (refine ld_op Ho (by rfl) _ (by rfl) (by rfl) ?_; go_frame)
        | (refine ld_ev Hv (by rfl) _ (by rfl) (by rfl) ?_; go_frame)
        | (refine sv_st Nu (by rfl) (by rfl) _ _ (by rfl) (by rfl) (by rfl) ?_; intro U10 hbk10 hBk10 hsk10; have hBV := Aside0.mk hBk10; replace Hs := Aside0.mk (blk_below Hs.out hBk10); replace Ns := Aside0.mk (Ns.out.below hBk10); replace Ho := Aside0.mk (blk_below Ho.out hBk10); replace Hv := Aside0.mk (blk_below Hv.out hBk10); replace Ht := Aside0.mk (blk_below Ht.out hBk10); replace Nt := Aside0.mk (Nt.out.below hBk10); replace HB := Aside0.mk (below_step HB.out hBk10); have Hu := Aside0.mk hbk10; clear hbk10 hBk10 hsk10; obtain ⟨oo0, oo1, oo2, oo3⟩ := cells4 Ho.out; obtain ⟨ss0, ss1, ss2⟩ := cells3 Hs.out; obtain ⟨uu0, uu1, uu2⟩ := cells3 Hu.out; obtain ⟨uf0, uf1, uf2⟩ := frozen3 Hu.out; go_frame)
        | (generalize hgU : World.setCell U10 ⟨W3.heap.size, 2, none⟩ (.slice A2 s.p.length c2) = U9; have h9 : Below W3.heap.size W3 U9 := (by rw [← hgU]; exact Below.setCell hBV.out (Nat.le_refl _) _); replace Hs := Aside0.mk (blk_below HsV.out h9); replace Ns := Aside0.mk (NsV.out.below h9); replace Ho := Aside0.mk (blk_below HoV.out h9); replace Hv := Aside0.mk (blk_below HvV.out h9); replace Ht := Aside0.mk (blk_below HtV.out h9); replace Nt := Aside0.mk (NtV.out.below h9); replace HB := Aside0.mk (below_step HBV.out h9); clear Nu; have Nu := Aside0.mk (TC.out.below h9); have Hz : Aside0 (U9.heap[W3.heap.size]? = some (.cells (List.toArray [.slice T0 T.c.length t0, .slice T1 T.r.length t1, .slice A2 s.p.length c2]) 26 (0, 0))) := ⟨by rw [← hgU]; exact blk_set Hu.out 2 _⟩; clear Hu; have Hu := Hz; clear hgU h9 Hz oo0 oo1 oo2 oo3 ss0 ss1 ss2 uu0 uu1 uu2 uf0 uf1 uf2 hBV TC HsV HoV HvV HtV NsV NtV; first | (refine ld_st Hs Ns (by rfl) _ (by rfl) (by rfl) ?_; go_frame) | (refine ld_on Hs Ns (by rfl) _ (by rfl) (by rfl) ?_; go_frame) | (refine ld_st Ht Nt (by rfl) _ (by rfl) (by rfl) ?_; go_frame) | (refine ld_on Ht Nt (by rfl) _ (by rfl) (by rfl) ?_; go_frame) | (refine ld_st Hu Nu (by rfl) _ (by rfl) (by rfl) ?_; go_frame) | (refine ld_on Hu Nu (by rfl) _ (by rfl) (by rfl) ?_; go_frame) | (refine ld_op Ho (by rfl) _ (by rfl) (by rfl) ?_; go_frame) | (refine ld_ev Hv (by rfl) _ (by rfl) (by rfl) ?_; go_frame))
        | (refine ld_st Hs Ns (by rfl) _ (by rfl) (by rfl) ?_; go_frame)
        | (refine ld_on Hs Ns (by rfl) _ (by rfl) (by rfl) ?_; go_frame)
        | (refine ld_st Ht Nt (by rfl) _ (by rfl) (by rfl) ?_; go_frame)
        | (refine ld_on Ht Nt (by rfl) _ (by rfl) (by rfl) ?_; go_frame)
        | (refine ld_st Hu Nu (by rfl) _ (by rfl) (by rfl) ?_; go_frame)
        | (refine ld_on Hu Nu (by rfl) _ (by rfl) (by rfl) ?_; go_frame)
        | (refine ld_op Ho (by rfl) _ (by rfl) (by rfl) ?_; go_frame)
        | (refine ld_ev Hv (by rfl) _ (by rfl) (by rfl) ?_; go_frame))
      have hcn := same_calls Nu.out Ns.out FS.out
      rw [S1.out] at hcn
      refine hcn.mono ?_
      rintro e Vz ⟨rfl, hbz⟩
      clear hcn
      replace HB := Aside0.mk (below_step HB.out hbz)
      go_wp2
      go_ret
      exact ⟨rfl, HB.out⟩
end Go.Proofs.YtmcddoolniaehaaGreat.S
end
