/- Several of the walk's texts in one: SLawThree. -/
import Derived.Test.YtmcddoolniaehaaGreatMT24
section
namespace Go.Proofs.YtmcddoolniaehaaGreat.S
open Go.RowKit Go.Proofs.YtmcddoolniaehaaGreatW.PrintWords Go.Proofs.YtmcddoolniaehaaGreatW.PrintLast Go.Proofs.YtmcddoolniaehaaGreatW.PrintMore Go.Proofs.YtmcddoolniaehaaGreatW
set_option linter.unusedVariables false
set_option linter.unusedSimpArgs false
set_option maxHeartbeats 4000000 in
set_option maxRecDepth 100000 in
theorem three_calls (cl ca cb cc : List Value) (l a b c : St) (w : World) (hl : StV w cl l) (ol : okL l.p) (il : inL l.c) (ha : StV w ca a) (oa : okL a.p) (ia : inL a.c) (hb : StV w cb b) (ob : okL b.p) (ib : inL b.c) (hc : StV w cc c) (oc : okL c.p) (ic : inL c.c) :
    Calls Tryz.prog 7 #[.agg cl.toArray, .agg ca.toArray, .agg cb.toArray, .agg cc.toArray] w fun e w' => e = .returned (.bool true) ∧ Below w.heap.size w w' := by
  obtain ⟨hB, bl, ba, bb, bc⟩ := box4 w (.cells cl.toArray 26) (.cells ca.toArray 26) (.cells cb.toArray 26) (.cells cc.toArray 26)
  have Nl := Aside0.mk (hl.below hB)
  have Hl := Aside0.mk bl
  have Na := Aside0.mk (ha.below hB)
  have Ha := Aside0.mk ba
  have Nb := Aside0.mk (hb.below hB)
  have Hb := Aside0.mk bb
  have Nc := Aside0.mk (hc.below hB)
  have Hc := Aside0.mk bc
  have HB := Aside0.mk hB
  clear hB bl hl ba ha bb hb bc hc
  go_enter Tryz.func7, Tryz.ntmps7
  go_wp2_with fail
  revert Nl Hl Na Ha Nb Hb Nc Hc HB
  generalize ((((w.alloc (.cells cl.toArray 26)).alloc (.cells ca.toArray 26)).alloc (.cells cb.toArray 26)).alloc (.cells cc.toArray 26)) = W
  intro Nl Hl Na Ha Nb Hb Nc Hc HB
  generalize cl = Xl at *; generalize ca = Xa at *; generalize cb = Xb at *; generalize cc = Xc at *
  refine (awake_calls _).mono ?_
  rintro e V0 ⟨rfl, hb0⟩
  replace Hl := Aside0.mk (blk_below Hl.out hb0)
  replace Nl := Aside0.mk (Nl.out.below hb0)
  replace Ha := Aside0.mk (blk_below Ha.out hb0)
  replace Na := Aside0.mk (Na.out.below hb0)
  replace Hb := Aside0.mk (blk_below Hb.out hb0)
  replace Nb := Aside0.mk (Nb.out.below hb0)
  replace Hc := Aside0.mk (blk_below Hc.out hb0)
  replace Nc := Aside0.mk (Nc.out.below hb0)
  replace HB := Aside0.mk (below_step HB.out hb0)
  clear hb0
  go_wp2_with (first
    | (refine ld_st Hl Nl (by rfl) _ (by rfl) (by rfl) ?_; go_frame)
    | (refine ld_on Hl Nl (by rfl) _ (by rfl) (by rfl) ?_; go_frame)
    | (refine ld_st Ha Na (by rfl) _ (by rfl) (by rfl) ?_; go_frame)
    | (refine ld_on Ha Na (by rfl) _ (by rfl) (by rfl) ?_; go_frame)
    | (refine ld_st Hb Nb (by rfl) _ (by rfl) (by rfl) ?_; go_frame)
    | (refine ld_on Hb Nb (by rfl) _ (by rfl) (by rfl) ?_; go_frame)
    | (refine ld_st Hc Nc (by rfl) _ (by rfl) (by rfl) ?_; go_frame)
    | (refine ld_on Hc Nc (by rfl) _ (by rfl) (by rfl) ?_; go_frame))
  have hcn := few_calls Nl.out
  obtain ⟨ql, hql⟩ : ∃ q, q = fewS l := ⟨_, rfl⟩
  rw [← hql] at hcn
  have Ql := Aside0.mk hql
  clear hql
  refine hcn.mono ?_
  rintro e V1 ⟨rfl, hb1⟩
  clear hcn
  replace Hl := Aside0.mk (blk_below Hl.out hb1)
  replace Nl := Aside0.mk (Nl.out.below hb1)
  replace Ha := Aside0.mk (blk_below Ha.out hb1)
  replace Na := Aside0.mk (Na.out.below hb1)
  replace Hb := Aside0.mk (blk_below Hb.out hb1)
  replace Nb := Aside0.mk (Nb.out.below hb1)
  replace Hc := Aside0.mk (blk_below Hc.out hb1)
  replace Nc := Aside0.mk (Nc.out.below hb1)
  replace HB := Aside0.mk (below_step HB.out hb1)
  clear hb1
  go_wp2_with (first
    | (refine ld_st Hl Nl (by rfl) _ (by rfl) (by rfl) ?_; go_frame)
    | (refine ld_on Hl Nl (by rfl) _ (by rfl) (by rfl) ?_; go_frame)
    | (refine ld_st Ha Na (by rfl) _ (by rfl) (by rfl) ?_; go_frame)
    | (refine ld_on Ha Na (by rfl) _ (by rfl) (by rfl) ?_; go_frame)
    | (refine ld_st Hb Nb (by rfl) _ (by rfl) (by rfl) ?_; go_frame)
    | (refine ld_on Hb Nb (by rfl) _ (by rfl) (by rfl) ?_; go_frame)
    | (refine ld_st Hc Nc (by rfl) _ (by rfl) (by rfl) ?_; go_frame)
    | (refine ld_on Hc Nc (by rfl) _ (by rfl) (by rfl) ?_; go_frame))
  have hcn := few_calls Na.out
  obtain ⟨qa, hqa⟩ : ∃ q, q = fewS a := ⟨_, rfl⟩
  rw [← hqa] at hcn
  have Qa := Aside0.mk hqa
  clear hqa
  refine hcn.mono ?_
  rintro e V2 ⟨rfl, hb2⟩
  clear hcn
  replace Hl := Aside0.mk (blk_below Hl.out hb2)
  replace Nl := Aside0.mk (Nl.out.below hb2)
  replace Ha := Aside0.mk (blk_below Ha.out hb2)
  replace Na := Aside0.mk (Na.out.below hb2)
  replace Hb := Aside0.mk (blk_below Hb.out hb2)
  replace Nb := Aside0.mk (Nb.out.below hb2)
  replace Hc := Aside0.mk (blk_below Hc.out hb2)
  replace Nc := Aside0.mk (Nc.out.below hb2)
  replace HB := Aside0.mk (below_step HB.out hb2)
  clear hb2
  go_wp2_with (first
    | (refine ld_st Hl Nl (by rfl) _ (by rfl) (by rfl) ?_; go_frame)
    | (refine ld_on Hl Nl (by rfl) _ (by rfl) (by rfl) ?_; go_frame)
    | (refine ld_st Ha Na (by rfl) _ (by rfl) (by rfl) ?_; go_frame)
    | (refine ld_on Ha Na (by rfl) _ (by rfl) (by rfl) ?_; go_frame)
    | (refine ld_st Hb Nb (by rfl) _ (by rfl) (by rfl) ?_; go_frame)
    | (refine ld_on Hb Nb (by rfl) _ (by rfl) (by rfl) ?_; go_frame)
    | (refine ld_st Hc Nc (by rfl) _ (by rfl) (by rfl) ?_; go_frame)
    | (refine ld_on Hc Nc (by rfl) _ (by rfl) (by rfl) ?_; go_frame))
  have hcn := few_calls Nb.out
  obtain ⟨qb, hqb⟩ : ∃ q, q = fewS b := ⟨_, rfl⟩
  rw [← hqb] at hcn
  have Qb := Aside0.mk hqb
  clear hqb
  refine hcn.mono ?_
  rintro e V3 ⟨rfl, hb3⟩
  clear hcn
  replace Hl := Aside0.mk (blk_below Hl.out hb3)
  replace Nl := Aside0.mk (Nl.out.below hb3)
  replace Ha := Aside0.mk (blk_below Ha.out hb3)
  replace Na := Aside0.mk (Na.out.below hb3)
  replace Hb := Aside0.mk (blk_below Hb.out hb3)
  replace Nb := Aside0.mk (Nb.out.below hb3)
  replace Hc := Aside0.mk (blk_below Hc.out hb3)
  replace Nc := Aside0.mk (Nc.out.below hb3)
  replace HB := Aside0.mk (below_step HB.out hb3)
  clear hb3
  go_wp2_with (first
    | (refine ld_st Hl Nl (by rfl) _ (by rfl) (by rfl) ?_; go_frame)
    | (refine ld_on Hl Nl (by rfl) _ (by rfl) (by rfl) ?_; go_frame)
    | (refine ld_st Ha Na (by rfl) _ (by rfl) (by rfl) ?_; go_frame)
    | (refine ld_on Ha Na (by rfl) _ (by rfl) (by rfl) ?_; go_frame)
    | (refine ld_st Hb Nb (by rfl) _ (by rfl) (by rfl) ?_; go_frame)
    | (refine ld_on Hb Nb (by rfl) _ (by rfl) (by rfl) ?_; go_frame)
    | (refine ld_st Hc Nc (by rfl) _ (by rfl) (by rfl) ?_; go_frame)
    | (refine ld_on Hc Nc (by rfl) _ (by rfl) (by rfl) ?_; go_frame))
  have hcn := few_calls Nc.out
  obtain ⟨qc, hqc⟩ : ∃ q, q = fewS c := ⟨_, rfl⟩
  rw [← hqc] at hcn
  have Qc := Aside0.mk hqc
  clear hqc
  refine hcn.mono ?_
  rintro e V4 ⟨rfl, hb4⟩
  clear hcn
  replace Hl := Aside0.mk (blk_below Hl.out hb4)
  replace Nl := Aside0.mk (Nl.out.below hb4)
  replace Ha := Aside0.mk (blk_below Ha.out hb4)
  replace Na := Aside0.mk (Na.out.below hb4)
  replace Hb := Aside0.mk (blk_below Hb.out hb4)
  replace Nb := Aside0.mk (Nb.out.below hb4)
  replace Hc := Aside0.mk (blk_below Hc.out hb4)
  replace Nc := Aside0.mk (Nc.out.below hb4)
  replace HB := Aside0.mk (below_step HB.out hb4)
  clear hb4
  cases ql with
  | false =>
    go_wp2_with (first
      | (refine ld_st Hl Nl (by rfl) _ (by rfl) (by rfl) ?_; go_frame)
      | (refine ld_on Hl Nl (by rfl) _ (by rfl) (by rfl) ?_; go_frame)
      | (refine ld_st Ha Na (by rfl) _ (by rfl) (by rfl) ?_; go_frame)
      | (refine ld_on Ha Na (by rfl) _ (by rfl) (by rfl) ?_; go_frame)
      | (refine ld_st Hb Nb (by rfl) _ (by rfl) (by rfl) ?_; go_frame)
      | (refine ld_on Hb Nb (by rfl) _ (by rfl) (by rfl) ?_; go_frame)
      | (refine ld_st Hc Nc (by rfl) _ (by rfl) (by rfl) ?_; go_frame)
      | (refine ld_on Hc Nc (by rfl) _ (by rfl) (by rfl) ?_; go_frame))
    go_ret
    exact ⟨rfl, HB.out⟩
  | true =>
  cases qa with
  | false =>
    go_wp2_with (first
      | (refine ld_st Hl Nl (by rfl) _ (by rfl) (by rfl) ?_; go_frame)
      | (refine ld_on Hl Nl (by rfl) _ (by rfl) (by rfl) ?_; go_frame)
      | (refine ld_st Ha Na (by rfl) _ (by rfl) (by rfl) ?_; go_frame)
      | (refine ld_on Ha Na (by rfl) _ (by rfl) (by rfl) ?_; go_frame)
      | (refine ld_st Hb Nb (by rfl) _ (by rfl) (by rfl) ?_; go_frame)
      | (refine ld_on Hb Nb (by rfl) _ (by rfl) (by rfl) ?_; go_frame)
      | (refine ld_st Hc Nc (by rfl) _ (by rfl) (by rfl) ?_; go_frame)
      | (refine ld_on Hc Nc (by rfl) _ (by rfl) (by rfl) ?_; go_frame))
    go_ret
    exact ⟨rfl, HB.out⟩
  | true =>
  cases qb with
  | false =>
    go_wp2_with (first
      | (refine ld_st Hl Nl (by rfl) _ (by rfl) (by rfl) ?_; go_frame)
      | (refine ld_on Hl Nl (by rfl) _ (by rfl) (by rfl) ?_; go_frame)
      | (refine ld_st Ha Na (by rfl) _ (by rfl) (by rfl) ?_; go_frame)
      | (refine ld_on Ha Na (by rfl) _ (by rfl) (by rfl) ?_; go_frame)
      | (refine ld_st Hb Nb (by rfl) _ (by rfl) (by rfl) ?_; go_frame)
      | (refine ld_on Hb Nb (by rfl) _ (by rfl) (by rfl) ?_; go_frame)
      | (refine ld_st Hc Nc (by rfl) _ (by rfl) (by rfl) ?_; go_frame)
      | (refine ld_on Hc Nc (by rfl) _ (by rfl) (by rfl) ?_; go_frame))
    go_ret
    exact ⟨rfl, HB.out⟩
  | true =>
  cases qc with
  | false =>
    go_wp2_with (first
      | (refine ld_st Hl Nl (by rfl) _ (by rfl) (by rfl) ?_; go_frame)
      | (refine ld_on Hl Nl (by rfl) _ (by rfl) (by rfl) ?_; go_frame)
      | (refine ld_st Ha Na (by rfl) _ (by rfl) (by rfl) ?_; go_frame)
      | (refine ld_on Ha Na (by rfl) _ (by rfl) (by rfl) ?_; go_frame)
      | (refine ld_st Hb Nb (by rfl) _ (by rfl) (by rfl) ?_; go_frame)
      | (refine ld_on Hb Nb (by rfl) _ (by rfl) (by rfl) ?_; go_frame)
      | (refine ld_st Hc Nc (by rfl) _ (by rfl) (by rfl) ?_; go_frame)
      | (refine ld_on Hc Nc (by rfl) _ (by rfl) (by rfl) ?_; go_frame))
    go_ret
    exact ⟨rfl, HB.out⟩
  | true =>
  have Fl := Aside0.mk (few_fit Ql.out.symm ol)
  have Fa := Aside0.mk (few_fit Qa.out.symm oa)
  have Fb := Aside0.mk (few_fit Qb.out.symm ob)
  have Fc := Aside0.mk (few_fit Qc.out.symm oc)
  clear Ql Qa Qb Qc
  go_wp2_with (first
    | (refine ld_st Hl Nl (by rfl) _ (by rfl) (by rfl) ?_; go_frame)
    | (refine ld_on Hl Nl (by rfl) _ (by rfl) (by rfl) ?_; go_frame)
    | (refine ld_st Ha Na (by rfl) _ (by rfl) (by rfl) ?_; go_frame)
    | (refine ld_on Ha Na (by rfl) _ (by rfl) (by rfl) ?_; go_frame)
    | (refine ld_st Hb Nb (by rfl) _ (by rfl) (by rfl) ?_; go_frame)
    | (refine ld_on Hb Nb (by rfl) _ (by rfl) (by rfl) ?_; go_frame)
    | (refine ld_st Hc Nc (by rfl) _ (by rfl) (by rfl) ?_; go_frame)
    | (refine ld_on Hc Nc (by rfl) _ (by rfl) (by rfl) ?_; go_frame))
  have hcn := may_calls Nl.out (Fl.out.up (by decide))
  obtain ⟨ml, hml⟩ : ∃ q, q = mayS l := ⟨_, rfl⟩
  rw [← hml] at hcn
  have Ml := Aside0.mk hml.symm
  clear hml
  refine hcn.mono ?_
  rintro e V5 ⟨rfl, hb5⟩
  clear hcn
  replace Hl := Aside0.mk (blk_below Hl.out hb5)
  replace Nl := Aside0.mk (Nl.out.below hb5)
  replace Ha := Aside0.mk (blk_below Ha.out hb5)
  replace Na := Aside0.mk (Na.out.below hb5)
  replace Hb := Aside0.mk (blk_below Hb.out hb5)
  replace Nb := Aside0.mk (Nb.out.below hb5)
  replace Hc := Aside0.mk (blk_below Hc.out hb5)
  replace Nc := Aside0.mk (Nc.out.below hb5)
  replace HB := Aside0.mk (below_step HB.out hb5)
  clear hb5
  cases ml with
  | false =>
    go_wp2_with (first
      | (refine ld_st Hl Nl (by rfl) _ (by rfl) (by rfl) ?_; go_frame)
      | (refine ld_on Hl Nl (by rfl) _ (by rfl) (by rfl) ?_; go_frame)
      | (refine ld_st Ha Na (by rfl) _ (by rfl) (by rfl) ?_; go_frame)
      | (refine ld_on Ha Na (by rfl) _ (by rfl) (by rfl) ?_; go_frame)
      | (refine ld_st Hb Nb (by rfl) _ (by rfl) (by rfl) ?_; go_frame)
      | (refine ld_on Hb Nb (by rfl) _ (by rfl) (by rfl) ?_; go_frame)
      | (refine ld_st Hc Nc (by rfl) _ (by rfl) (by rfl) ?_; go_frame)
      | (refine ld_on Hc Nc (by rfl) _ (by rfl) (by rfl) ?_; go_frame))
    go_ret
    exact ⟨rfl, HB.out⟩
  | true =>
  go_wp2_with (first
    | (refine ld_st Hl Nl (by rfl) _ (by rfl) (by rfl) ?_; go_frame)
    | (refine ld_on Hl Nl (by rfl) _ (by rfl) (by rfl) ?_; go_frame)
    | (refine ld_st Ha Na (by rfl) _ (by rfl) (by rfl) ?_; go_frame)
    | (refine ld_on Ha Na (by rfl) _ (by rfl) (by rfl) ?_; go_frame)
    | (refine ld_st Hb Nb (by rfl) _ (by rfl) (by rfl) ?_; go_frame)
    | (refine ld_on Hb Nb (by rfl) _ (by rfl) (by rfl) ?_; go_frame)
    | (refine ld_st Hc Nc (by rfl) _ (by rfl) (by rfl) ?_; go_frame)
    | (refine ld_on Hc Nc (by rfl) _ (by rfl) (by rfl) ?_; go_frame))
  have hcn := may_calls Na.out (Fa.out.up (by decide))
  obtain ⟨ma, hma⟩ : ∃ q, q = mayS a := ⟨_, rfl⟩
  rw [← hma] at hcn
  have Ma := Aside0.mk hma.symm
  clear hma
  refine hcn.mono ?_
  rintro e V6 ⟨rfl, hb6⟩
  clear hcn
  replace Hl := Aside0.mk (blk_below Hl.out hb6)
  replace Nl := Aside0.mk (Nl.out.below hb6)
  replace Ha := Aside0.mk (blk_below Ha.out hb6)
  replace Na := Aside0.mk (Na.out.below hb6)
  replace Hb := Aside0.mk (blk_below Hb.out hb6)
  replace Nb := Aside0.mk (Nb.out.below hb6)
  replace Hc := Aside0.mk (blk_below Hc.out hb6)
  replace Nc := Aside0.mk (Nc.out.below hb6)
  replace HB := Aside0.mk (below_step HB.out hb6)
  clear hb6
  cases ma with
  | false =>
    go_wp2_with (first
      | (refine ld_st Hl Nl (by rfl) _ (by rfl) (by rfl) ?_; go_frame)
      | (refine ld_on Hl Nl (by rfl) _ (by rfl) (by rfl) ?_; go_frame)
      | (refine ld_st Ha Na (by rfl) _ (by rfl) (by rfl) ?_; go_frame)
      | (refine ld_on Ha Na (by rfl) _ (by rfl) (by rfl) ?_; go_frame)
      | (refine ld_st Hb Nb (by rfl) _ (by rfl) (by rfl) ?_; go_frame)
      | (refine ld_on Hb Nb (by rfl) _ (by rfl) (by rfl) ?_; go_frame)
      | (refine ld_st Hc Nc (by rfl) _ (by rfl) (by rfl) ?_; go_frame)
      | (refine ld_on Hc Nc (by rfl) _ (by rfl) (by rfl) ?_; go_frame))
    go_ret
    exact ⟨rfl, HB.out⟩
  | true =>
  go_wp2_with (first
    | (refine ld_st Hl Nl (by rfl) _ (by rfl) (by rfl) ?_; go_frame)
    | (refine ld_on Hl Nl (by rfl) _ (by rfl) (by rfl) ?_; go_frame)
    | (refine ld_st Ha Na (by rfl) _ (by rfl) (by rfl) ?_; go_frame)
    | (refine ld_on Ha Na (by rfl) _ (by rfl) (by rfl) ?_; go_frame)
    | (refine ld_st Hb Nb (by rfl) _ (by rfl) (by rfl) ?_; go_frame)
    | (refine ld_on Hb Nb (by rfl) _ (by rfl) (by rfl) ?_; go_frame)
    | (refine ld_st Hc Nc (by rfl) _ (by rfl) (by rfl) ?_; go_frame)
    | (refine ld_on Hc Nc (by rfl) _ (by rfl) (by rfl) ?_; go_frame))
  have hcn := may_calls Nb.out (Fb.out.up (by decide))
  obtain ⟨mb, hmb⟩ : ∃ q, q = mayS b := ⟨_, rfl⟩
  rw [← hmb] at hcn
  have Mb := Aside0.mk hmb.symm
  clear hmb
  refine hcn.mono ?_
  rintro e V7 ⟨rfl, hb7⟩
  clear hcn
  replace Hl := Aside0.mk (blk_below Hl.out hb7)
  replace Nl := Aside0.mk (Nl.out.below hb7)
  replace Ha := Aside0.mk (blk_below Ha.out hb7)
  replace Na := Aside0.mk (Na.out.below hb7)
  replace Hb := Aside0.mk (blk_below Hb.out hb7)
  replace Nb := Aside0.mk (Nb.out.below hb7)
  replace Hc := Aside0.mk (blk_below Hc.out hb7)
  replace Nc := Aside0.mk (Nc.out.below hb7)
  replace HB := Aside0.mk (below_step HB.out hb7)
  clear hb7
  cases mb with
  | false =>
    go_wp2_with (first
      | (refine ld_st Hl Nl (by rfl) _ (by rfl) (by rfl) ?_; go_frame)
      | (refine ld_on Hl Nl (by rfl) _ (by rfl) (by rfl) ?_; go_frame)
      | (refine ld_st Ha Na (by rfl) _ (by rfl) (by rfl) ?_; go_frame)
      | (refine ld_on Ha Na (by rfl) _ (by rfl) (by rfl) ?_; go_frame)
      | (refine ld_st Hb Nb (by rfl) _ (by rfl) (by rfl) ?_; go_frame)
      | (refine ld_on Hb Nb (by rfl) _ (by rfl) (by rfl) ?_; go_frame)
      | (refine ld_st Hc Nc (by rfl) _ (by rfl) (by rfl) ?_; go_frame)
      | (refine ld_on Hc Nc (by rfl) _ (by rfl) (by rfl) ?_; go_frame))
    go_ret
    exact ⟨rfl, HB.out⟩
  | true =>
  go_wp2_with (first
    | (refine ld_st Hl Nl (by rfl) _ (by rfl) (by rfl) ?_; go_frame)
    | (refine ld_on Hl Nl (by rfl) _ (by rfl) (by rfl) ?_; go_frame)
    | (refine ld_st Ha Na (by rfl) _ (by rfl) (by rfl) ?_; go_frame)
    | (refine ld_on Ha Na (by rfl) _ (by rfl) (by rfl) ?_; go_frame)
    | (refine ld_st Hb Nb (by rfl) _ (by rfl) (by rfl) ?_; go_frame)
    | (refine ld_on Hb Nb (by rfl) _ (by rfl) (by rfl) ?_; go_frame)
    | (refine ld_st Hc Nc (by rfl) _ (by rfl) (by rfl) ?_; go_frame)
    | (refine ld_on Hc Nc (by rfl) _ (by rfl) (by rfl) ?_; go_frame))
  have hcn := may_calls Nc.out (Fc.out.up (by decide))
  obtain ⟨mc, hmc⟩ : ∃ q, q = mayS c := ⟨_, rfl⟩
  rw [← hmc] at hcn
  have Mc := Aside0.mk hmc.symm
  clear hmc
  refine hcn.mono ?_
  rintro e V8 ⟨rfl, hb8⟩
  clear hcn
  replace Hl := Aside0.mk (blk_below Hl.out hb8)
  replace Nl := Aside0.mk (Nl.out.below hb8)
  replace Ha := Aside0.mk (blk_below Ha.out hb8)
  replace Na := Aside0.mk (Na.out.below hb8)
  replace Hb := Aside0.mk (blk_below Hb.out hb8)
  replace Nb := Aside0.mk (Nb.out.below hb8)
  replace Hc := Aside0.mk (blk_below Hc.out hb8)
  replace Nc := Aside0.mk (Nc.out.below hb8)
  replace HB := Aside0.mk (below_step HB.out hb8)
  clear hb8
  cases mc with
  | false =>
    go_wp2_with (first
      | (refine ld_st Hl Nl (by rfl) _ (by rfl) (by rfl) ?_; go_frame)
      | (refine ld_on Hl Nl (by rfl) _ (by rfl) (by rfl) ?_; go_frame)
      | (refine ld_st Ha Na (by rfl) _ (by rfl) (by rfl) ?_; go_frame)
      | (refine ld_on Ha Na (by rfl) _ (by rfl) (by rfl) ?_; go_frame)
      | (refine ld_st Hb Nb (by rfl) _ (by rfl) (by rfl) ?_; go_frame)
      | (refine ld_on Hb Nb (by rfl) _ (by rfl) (by rfl) ?_; go_frame)
      | (refine ld_st Hc Nc (by rfl) _ (by rfl) (by rfl) ?_; go_frame)
      | (refine ld_on Hc Nc (by rfl) _ (by rfl) (by rfl) ?_; go_frame))
    go_ret
    exact ⟨rfl, HB.out⟩
  | true =>
  have Gl : Good l := ⟨Ml.out, ol, il, by have := Fl.out.1; omega⟩
  have Ga : Good a := ⟨Ma.out, oa, ia, by have := Fa.out.1; omega⟩
  have Gb : Good b := ⟨Mb.out, ob, ib, by have := Fb.out.1; omega⟩
  have Gc : Good c := ⟨Mc.out, oc, ic, by have := Fc.out.1; omega⟩
  have hl1 := Fl.out.1
  have hl2 := Fa.out.1
  have hl3 := Fb.out.1
  have hl4 := Fc.out.1
  obtain ⟨X, hX⟩ : ∃ X, X = mrg l a b := ⟨_, rfl⟩
  obtain ⟨Y, hY⟩ : ∃ Y, Y = mrg l b c := ⟨_, rfl⟩
  have gX : Good X := by rw [hX]; exact mrg_good Gl Ga Gb (by omega)
  have gY : Good Y := by rw [hY]; exact mrg_good Gl Gb Gc (by omega)
  obtain ⟨O, hO⟩ : ∃ O, O = mrg l X c := ⟨_, rfl⟩
  have e1 := mergeS_ok Gl.1 Ga.1 Gb.1
  have e2 := mergeS_ok Gl.1 Gb.1 Gc.1
  have e3 := mergeS_ok Gl.1 gX.1 Gc.1
  have e4 := mergeS_ok Gl.1 Ga.1 gY.1
  have e5 := mergeS_ok Ga.1 Ga.1 Ga.1
  have f1 := merge_fit Fl.out Fa.out Fb.out
  have f2 := merge_fit Fl.out Fb.out Fc.out
  rw [e1] at f1
  rw [e2] at f2
  dsimp only at f1 f2
  rw [← hX] at f1 e1
  rw [← hY] at f2 e2
  have f3 := merge_fit (Fl.out.up (show 30 ≤ 90 by decide)) f1 (Fc.out.up (show 30 ≤ 90 by decide))
  rw [e3] at f3
  dsimp only at f3
  rw [← hO] at f3 e3
  rw [show mrg l a Y = O by rw [hO, hX, hY, mrg_assoc Gl Ga Gb Gc (by omega) (by omega)]] at e4
  rw [mrg_self Ga] at e5
  have E1 := Aside0.mk e1
  have E2 := Aside0.mk e2
  have E3 := Aside0.mk e3
  have E4 := Aside0.mk e4
  have E5 := Aside0.mk e5
  have FX := Aside0.mk (f1.up (show 90 ≤ 1000 by decide))
  have FY := Aside0.mk (f2.up (show 90 ≤ 1000 by decide))
  have FO := Aside0.mk (f3.up (show 270 ≤ 1000 by decide))
  have S1 : Aside0 (sameS O O = true) := ⟨sameS_iff.2 rfl⟩
  have S2 : Aside0 (sameS a a = true) := ⟨sameS_iff.2 rfl⟩
  replace Fl := Aside0.mk (Fl.out.up (show 30 ≤ 1000 by decide))
  replace Fa := Aside0.mk (Fa.out.up (show 30 ≤ 1000 by decide))
  replace Fb := Aside0.mk (Fb.out.up (show 30 ≤ 1000 by decide))
  replace Fc := Aside0.mk (Fc.out.up (show 30 ≤ 1000 by decide))
  clear hl1 hl2 hl3 hl4 hX hY hO e1 e2 e3 e4 e5 f1 f2 f3 gX gY Gl Ga Gb Gc
  go_wp2_with (first
    | (refine ld_st Hl Nl (by rfl) _ (by rfl) (by rfl) ?_; go_frame)
    | (refine ld_on Hl Nl (by rfl) _ (by rfl) (by rfl) ?_; go_frame)
    | (refine ld_st Ha Na (by rfl) _ (by rfl) (by rfl) ?_; go_frame)
    | (refine ld_on Ha Na (by rfl) _ (by rfl) (by rfl) ?_; go_frame)
    | (refine ld_st Hb Nb (by rfl) _ (by rfl) (by rfl) ?_; go_frame)
    | (refine ld_on Hb Nb (by rfl) _ (by rfl) (by rfl) ?_; go_frame)
    | (refine ld_st Hc Nc (by rfl) _ (by rfl) (by rfl) ?_; go_frame)
    | (refine ld_on Hc Nc (by rfl) _ (by rfl) (by rfl) ?_; go_frame))
  have hcn := merge_calls Nl.out Na.out Nb.out Fl.out Fa.out Fb.out
  rw [E1.out] at hcn
  dsimp only at hcn
  refine hcn.mono ?_
  rintro e V9 ⟨csx, rfl, hN9, hb9⟩
  clear hcn
  replace Hl := Aside0.mk (blk_below Hl.out hb9)
  replace Nl := Aside0.mk (Nl.out.below hb9)
  replace Ha := Aside0.mk (blk_below Ha.out hb9)
  replace Na := Aside0.mk (Na.out.below hb9)
  replace Hb := Aside0.mk (blk_below Hb.out hb9)
  replace Nb := Aside0.mk (Nb.out.below hb9)
  replace Hc := Aside0.mk (blk_below Hc.out hb9)
  replace Nc := Aside0.mk (Nc.out.below hb9)
  replace HB := Aside0.mk (below_step HB.out hb9)
  have Nx := Aside0.mk hN9
  clear hN9 hb9
  go_wp2_with (first
    | (refine ld_st Hl Nl (by rfl) _ (by rfl) (by rfl) ?_; go_frame)
    | (refine ld_on Hl Nl (by rfl) _ (by rfl) (by rfl) ?_; go_frame)
    | (refine ld_st Ha Na (by rfl) _ (by rfl) (by rfl) ?_; go_frame)
    | (refine ld_on Ha Na (by rfl) _ (by rfl) (by rfl) ?_; go_frame)
    | (refine ld_st Hb Nb (by rfl) _ (by rfl) (by rfl) ?_; go_frame)
    | (refine ld_on Hb Nb (by rfl) _ (by rfl) (by rfl) ?_; go_frame)
    | (refine ld_st Hc Nc (by rfl) _ (by rfl) (by rfl) ?_; go_frame)
    | (refine ld_on Hc Nc (by rfl) _ (by rfl) (by rfl) ?_; go_frame)
    | (refine sv_st Nx (by rfl) (by rfl) _ _ (by rfl) (by rfl) (by rfl) ?_; intro U10 hbk10 hBk10 hsk10; replace Hl := Aside0.mk (blk_below Hl.out hBk10); replace Nl := Aside0.mk (Nl.out.below hBk10); replace Ha := Aside0.mk (blk_below Ha.out hBk10); replace Na := Aside0.mk (Na.out.below hBk10); replace Hb := Aside0.mk (blk_below Hb.out hBk10); replace Nb := Aside0.mk (Nb.out.below hBk10); replace Hc := Aside0.mk (blk_below Hc.out hBk10); replace Nc := Aside0.mk (Nc.out.below hBk10); replace Nx := Aside0.mk (Nx.out.below hBk10); replace HB := Aside0.mk (below_step HB.out hBk10); have Hx := Aside0.mk hbk10; clear hbk10 hBk10 hsk10; go_frame)
    | (refine ld_st Hx Nx (by rfl) _ (by rfl) (by rfl) ?_; go_frame)
    | (refine ld_on Hx Nx (by rfl) _ (by rfl) (by rfl) ?_; go_frame))
  have hcn := merge_calls Nl.out Nb.out Nc.out Fl.out Fb.out Fc.out
  rw [E2.out] at hcn
  dsimp only at hcn
  refine hcn.mono ?_
  rintro e V11 ⟨csy, rfl, hN11, hb11⟩
  clear hcn
  replace Hl := Aside0.mk (blk_below Hl.out hb11)
  replace Nl := Aside0.mk (Nl.out.below hb11)
  replace Ha := Aside0.mk (blk_below Ha.out hb11)
  replace Na := Aside0.mk (Na.out.below hb11)
  replace Hb := Aside0.mk (blk_below Hb.out hb11)
  replace Nb := Aside0.mk (Nb.out.below hb11)
  replace Hc := Aside0.mk (blk_below Hc.out hb11)
  replace Nc := Aside0.mk (Nc.out.below hb11)
  replace Hx := Aside0.mk (blk_below Hx.out hb11)
  replace Nx := Aside0.mk (Nx.out.below hb11)
  replace HB := Aside0.mk (below_step HB.out hb11)
  have Ny := Aside0.mk hN11
  clear hN11 hb11
  go_wp2_with (first
    | (refine ld_st Hl Nl (by rfl) _ (by rfl) (by rfl) ?_; go_frame)
    | (refine ld_on Hl Nl (by rfl) _ (by rfl) (by rfl) ?_; go_frame)
    | (refine ld_st Ha Na (by rfl) _ (by rfl) (by rfl) ?_; go_frame)
    | (refine ld_on Ha Na (by rfl) _ (by rfl) (by rfl) ?_; go_frame)
    | (refine ld_st Hb Nb (by rfl) _ (by rfl) (by rfl) ?_; go_frame)
    | (refine ld_on Hb Nb (by rfl) _ (by rfl) (by rfl) ?_; go_frame)
    | (refine ld_st Hc Nc (by rfl) _ (by rfl) (by rfl) ?_; go_frame)
    | (refine ld_on Hc Nc (by rfl) _ (by rfl) (by rfl) ?_; go_frame)
    | (refine ld_st Hx Nx (by rfl) _ (by rfl) (by rfl) ?_; go_frame)
    | (refine ld_on Hx Nx (by rfl) _ (by rfl) (by rfl) ?_; go_frame)
    | (refine sv_st Ny (by rfl) (by rfl) _ _ (by rfl) (by rfl) (by rfl) ?_; intro U12 hbk12 hBk12 hsk12; replace Hl := Aside0.mk (blk_below Hl.out hBk12); replace Nl := Aside0.mk (Nl.out.below hBk12); replace Ha := Aside0.mk (blk_below Ha.out hBk12); replace Na := Aside0.mk (Na.out.below hBk12); replace Hb := Aside0.mk (blk_below Hb.out hBk12); replace Nb := Aside0.mk (Nb.out.below hBk12); replace Hc := Aside0.mk (blk_below Hc.out hBk12); replace Nc := Aside0.mk (Nc.out.below hBk12); replace Hx := Aside0.mk (blk_below Hx.out hBk12); replace Nx := Aside0.mk (Nx.out.below hBk12); replace Ny := Aside0.mk (Ny.out.below hBk12); replace HB := Aside0.mk (below_step HB.out hBk12); have Hy := Aside0.mk hbk12; clear hbk12 hBk12 hsk12; go_frame)
    | (refine ld_st Hy Ny (by rfl) _ (by rfl) (by rfl) ?_; go_frame)
    | (refine ld_on Hy Ny (by rfl) _ (by rfl) (by rfl) ?_; go_frame))
  have hcn := merge_calls Nl.out Nx.out Nc.out Fl.out FX.out Fc.out
  rw [E3.out] at hcn
  dsimp only at hcn
  refine hcn.mono ?_
  rintro e V13 ⟨cso, rfl, hN13, hb13⟩
  clear hcn
  replace Hl := Aside0.mk (blk_below Hl.out hb13)
  replace Nl := Aside0.mk (Nl.out.below hb13)
  replace Ha := Aside0.mk (blk_below Ha.out hb13)
  replace Na := Aside0.mk (Na.out.below hb13)
  replace Hb := Aside0.mk (blk_below Hb.out hb13)
  replace Nb := Aside0.mk (Nb.out.below hb13)
  replace Hc := Aside0.mk (blk_below Hc.out hb13)
  replace Nc := Aside0.mk (Nc.out.below hb13)
  replace Hx := Aside0.mk (blk_below Hx.out hb13)
  replace Nx := Aside0.mk (Nx.out.below hb13)
  replace Hy := Aside0.mk (blk_below Hy.out hb13)
  replace Ny := Aside0.mk (Ny.out.below hb13)
  replace HB := Aside0.mk (below_step HB.out hb13)
  have No := Aside0.mk hN13
  clear hN13 hb13
  go_wp2_with (first
    | (refine ld_st Hl Nl (by rfl) _ (by rfl) (by rfl) ?_; go_frame)
    | (refine ld_on Hl Nl (by rfl) _ (by rfl) (by rfl) ?_; go_frame)
    | (refine ld_st Ha Na (by rfl) _ (by rfl) (by rfl) ?_; go_frame)
    | (refine ld_on Ha Na (by rfl) _ (by rfl) (by rfl) ?_; go_frame)
    | (refine ld_st Hb Nb (by rfl) _ (by rfl) (by rfl) ?_; go_frame)
    | (refine ld_on Hb Nb (by rfl) _ (by rfl) (by rfl) ?_; go_frame)
    | (refine ld_st Hc Nc (by rfl) _ (by rfl) (by rfl) ?_; go_frame)
    | (refine ld_on Hc Nc (by rfl) _ (by rfl) (by rfl) ?_; go_frame)
    | (refine ld_st Hx Nx (by rfl) _ (by rfl) (by rfl) ?_; go_frame)
    | (refine ld_on Hx Nx (by rfl) _ (by rfl) (by rfl) ?_; go_frame)
    | (refine ld_st Hy Ny (by rfl) _ (by rfl) (by rfl) ?_; go_frame)
    | (refine ld_on Hy Ny (by rfl) _ (by rfl) (by rfl) ?_; go_frame)
    | (refine sv_st No (by rfl) (by rfl) _ _ (by rfl) (by rfl) (by rfl) ?_; intro U14 hbk14 hBk14 hsk14; replace Hl := Aside0.mk (blk_below Hl.out hBk14); replace Nl := Aside0.mk (Nl.out.below hBk14); replace Ha := Aside0.mk (blk_below Ha.out hBk14); replace Na := Aside0.mk (Na.out.below hBk14); replace Hb := Aside0.mk (blk_below Hb.out hBk14); replace Nb := Aside0.mk (Nb.out.below hBk14); replace Hc := Aside0.mk (blk_below Hc.out hBk14); replace Nc := Aside0.mk (Nc.out.below hBk14); replace Hx := Aside0.mk (blk_below Hx.out hBk14); replace Nx := Aside0.mk (Nx.out.below hBk14); replace Hy := Aside0.mk (blk_below Hy.out hBk14); replace Ny := Aside0.mk (Ny.out.below hBk14); replace No := Aside0.mk (No.out.below hBk14); replace HB := Aside0.mk (below_step HB.out hBk14); have Ho := Aside0.mk hbk14; clear hbk14 hBk14 hsk14; go_frame)
    | (refine ld_st Ho No (by rfl) _ (by rfl) (by rfl) ?_; go_frame)
    | (refine ld_on Ho No (by rfl) _ (by rfl) (by rfl) ?_; go_frame))
  have hcn := merge_calls Nl.out Na.out Ny.out Fl.out Fa.out FY.out
  rw [E4.out] at hcn
  dsimp only at hcn
  refine hcn.mono ?_
  rintro e V15 ⟨cst, rfl, hN15, hb15⟩
  clear hcn
  replace Hl := Aside0.mk (blk_below Hl.out hb15)
  replace Nl := Aside0.mk (Nl.out.below hb15)
  replace Ha := Aside0.mk (blk_below Ha.out hb15)
  replace Na := Aside0.mk (Na.out.below hb15)
  replace Hb := Aside0.mk (blk_below Hb.out hb15)
  replace Nb := Aside0.mk (Nb.out.below hb15)
  replace Hc := Aside0.mk (blk_below Hc.out hb15)
  replace Nc := Aside0.mk (Nc.out.below hb15)
  replace Hx := Aside0.mk (blk_below Hx.out hb15)
  replace Nx := Aside0.mk (Nx.out.below hb15)
  replace Hy := Aside0.mk (blk_below Hy.out hb15)
  replace Ny := Aside0.mk (Ny.out.below hb15)
  replace Ho := Aside0.mk (blk_below Ho.out hb15)
  replace No := Aside0.mk (No.out.below hb15)
  replace HB := Aside0.mk (below_step HB.out hb15)
  have Nt := Aside0.mk hN15
  clear hN15 hb15
  go_wp2_with (first
    | (refine ld_st Hl Nl (by rfl) _ (by rfl) (by rfl) ?_; go_frame)
    | (refine ld_on Hl Nl (by rfl) _ (by rfl) (by rfl) ?_; go_frame)
    | (refine ld_st Ha Na (by rfl) _ (by rfl) (by rfl) ?_; go_frame)
    | (refine ld_on Ha Na (by rfl) _ (by rfl) (by rfl) ?_; go_frame)
    | (refine ld_st Hb Nb (by rfl) _ (by rfl) (by rfl) ?_; go_frame)
    | (refine ld_on Hb Nb (by rfl) _ (by rfl) (by rfl) ?_; go_frame)
    | (refine ld_st Hc Nc (by rfl) _ (by rfl) (by rfl) ?_; go_frame)
    | (refine ld_on Hc Nc (by rfl) _ (by rfl) (by rfl) ?_; go_frame)
    | (refine ld_st Hx Nx (by rfl) _ (by rfl) (by rfl) ?_; go_frame)
    | (refine ld_on Hx Nx (by rfl) _ (by rfl) (by rfl) ?_; go_frame)
    | (refine ld_st Hy Ny (by rfl) _ (by rfl) (by rfl) ?_; go_frame)
    | (refine ld_on Hy Ny (by rfl) _ (by rfl) (by rfl) ?_; go_frame)
    | (refine ld_st Ho No (by rfl) _ (by rfl) (by rfl) ?_; go_frame)
    | (refine ld_on Ho No (by rfl) _ (by rfl) (by rfl) ?_; go_frame)
    | (refine sv_st Nt (by rfl) (by rfl) _ _ (by rfl) (by rfl) (by rfl) ?_; intro U16 hbk16 hBk16 hsk16; replace Hl := Aside0.mk (blk_below Hl.out hBk16); replace Nl := Aside0.mk (Nl.out.below hBk16); replace Ha := Aside0.mk (blk_below Ha.out hBk16); replace Na := Aside0.mk (Na.out.below hBk16); replace Hb := Aside0.mk (blk_below Hb.out hBk16); replace Nb := Aside0.mk (Nb.out.below hBk16); replace Hc := Aside0.mk (blk_below Hc.out hBk16); replace Nc := Aside0.mk (Nc.out.below hBk16); replace Hx := Aside0.mk (blk_below Hx.out hBk16); replace Nx := Aside0.mk (Nx.out.below hBk16); replace Hy := Aside0.mk (blk_below Hy.out hBk16); replace Ny := Aside0.mk (Ny.out.below hBk16); replace Ho := Aside0.mk (blk_below Ho.out hBk16); replace No := Aside0.mk (No.out.below hBk16); replace Nt := Aside0.mk (Nt.out.below hBk16); replace HB := Aside0.mk (below_step HB.out hBk16); have Ht := Aside0.mk hbk16; clear hbk16 hBk16 hsk16; go_frame)
    | (refine ld_st Ht Nt (by rfl) _ (by rfl) (by rfl) ?_; go_frame)
    | (refine ld_on Ht Nt (by rfl) _ (by rfl) (by rfl) ?_; go_frame))
  have hcn := merge_calls Na.out Na.out Na.out Fa.out Fa.out Fa.out
  rw [E5.out] at hcn
  dsimp only at hcn
  refine hcn.mono ?_
  rintro e V17 ⟨css, rfl, hN17, hb17⟩
  clear hcn
  replace Hl := Aside0.mk (blk_below Hl.out hb17)
  replace Nl := Aside0.mk (Nl.out.below hb17)
  replace Ha := Aside0.mk (blk_below Ha.out hb17)
  replace Na := Aside0.mk (Na.out.below hb17)
  replace Hb := Aside0.mk (blk_below Hb.out hb17)
  replace Nb := Aside0.mk (Nb.out.below hb17)
  replace Hc := Aside0.mk (blk_below Hc.out hb17)
  replace Nc := Aside0.mk (Nc.out.below hb17)
  replace Hx := Aside0.mk (blk_below Hx.out hb17)
  replace Nx := Aside0.mk (Nx.out.below hb17)
  replace Hy := Aside0.mk (blk_below Hy.out hb17)
  replace Ny := Aside0.mk (Ny.out.below hb17)
  replace Ho := Aside0.mk (blk_below Ho.out hb17)
  replace No := Aside0.mk (No.out.below hb17)
  replace Ht := Aside0.mk (blk_below Ht.out hb17)
  replace Nt := Aside0.mk (Nt.out.below hb17)
  replace HB := Aside0.mk (below_step HB.out hb17)
  have Ns := Aside0.mk hN17
  clear hN17 hb17
  go_wp2_with (first
    | (refine ld_st Hl Nl (by rfl) _ (by rfl) (by rfl) ?_; go_frame)
    | (refine ld_on Hl Nl (by rfl) _ (by rfl) (by rfl) ?_; go_frame)
    | (refine ld_st Ha Na (by rfl) _ (by rfl) (by rfl) ?_; go_frame)
    | (refine ld_on Ha Na (by rfl) _ (by rfl) (by rfl) ?_; go_frame)
    | (refine ld_st Hb Nb (by rfl) _ (by rfl) (by rfl) ?_; go_frame)
    | (refine ld_on Hb Nb (by rfl) _ (by rfl) (by rfl) ?_; go_frame)
    | (refine ld_st Hc Nc (by rfl) _ (by rfl) (by rfl) ?_; go_frame)
    | (refine ld_on Hc Nc (by rfl) _ (by rfl) (by rfl) ?_; go_frame)
    | (refine ld_st Hx Nx (by rfl) _ (by rfl) (by rfl) ?_; go_frame)
    | (refine ld_on Hx Nx (by rfl) _ (by rfl) (by rfl) ?_; go_frame)
    | (refine ld_st Hy Ny (by rfl) _ (by rfl) (by rfl) ?_; go_frame)
    | (refine ld_on Hy Ny (by rfl) _ (by rfl) (by rfl) ?_; go_frame)
    | (refine ld_st Ho No (by rfl) _ (by rfl) (by rfl) ?_; go_frame)
    | (refine ld_on Ho No (by rfl) _ (by rfl) (by rfl) ?_; go_frame)
    | (refine ld_st Ht Nt (by rfl) _ (by rfl) (by rfl) ?_; go_frame)
    | (refine ld_on Ht Nt (by rfl) _ (by rfl) (by rfl) ?_; go_frame)
    | (refine sv_st Ns (by rfl) (by rfl) _ _ (by rfl) (by rfl) (by rfl) ?_; intro U18 hbk18 hBk18 hsk18; replace Hl := Aside0.mk (blk_below Hl.out hBk18); replace Nl := Aside0.mk (Nl.out.below hBk18); replace Ha := Aside0.mk (blk_below Ha.out hBk18); replace Na := Aside0.mk (Na.out.below hBk18); replace Hb := Aside0.mk (blk_below Hb.out hBk18); replace Nb := Aside0.mk (Nb.out.below hBk18); replace Hc := Aside0.mk (blk_below Hc.out hBk18); replace Nc := Aside0.mk (Nc.out.below hBk18); replace Hx := Aside0.mk (blk_below Hx.out hBk18); replace Nx := Aside0.mk (Nx.out.below hBk18); replace Hy := Aside0.mk (blk_below Hy.out hBk18); replace Ny := Aside0.mk (Ny.out.below hBk18); replace Ho := Aside0.mk (blk_below Ho.out hBk18); replace No := Aside0.mk (No.out.below hBk18); replace Ht := Aside0.mk (blk_below Ht.out hBk18); replace Nt := Aside0.mk (Nt.out.below hBk18); replace Ns := Aside0.mk (Ns.out.below hBk18); replace HB := Aside0.mk (below_step HB.out hBk18); have Hs := Aside0.mk hbk18; clear hbk18 hBk18 hsk18; go_frame)
    | (refine ld_st Hs Ns (by rfl) _ (by rfl) (by rfl) ?_; go_frame)
    | (refine ld_on Hs Ns (by rfl) _ (by rfl) (by rfl) ?_; go_frame))
  have hcn := same_calls No.out Nt.out FO.out
  rw [S1.out] at hcn
  refine hcn.mono ?_
  rintro e V19 ⟨rfl, hb19⟩
  clear hcn
  replace Hl := Aside0.mk (blk_below Hl.out hb19)
  replace Nl := Aside0.mk (Nl.out.below hb19)
  replace Ha := Aside0.mk (blk_below Ha.out hb19)
  replace Na := Aside0.mk (Na.out.below hb19)
  replace Hb := Aside0.mk (blk_below Hb.out hb19)
  replace Nb := Aside0.mk (Nb.out.below hb19)
  replace Hc := Aside0.mk (blk_below Hc.out hb19)
  replace Nc := Aside0.mk (Nc.out.below hb19)
  replace Hx := Aside0.mk (blk_below Hx.out hb19)
  replace Nx := Aside0.mk (Nx.out.below hb19)
  replace Hy := Aside0.mk (blk_below Hy.out hb19)
  replace Ny := Aside0.mk (Ny.out.below hb19)
  replace Ho := Aside0.mk (blk_below Ho.out hb19)
  replace No := Aside0.mk (No.out.below hb19)
  replace Ht := Aside0.mk (blk_below Ht.out hb19)
  replace Nt := Aside0.mk (Nt.out.below hb19)
  replace Hs := Aside0.mk (blk_below Hs.out hb19)
  replace Ns := Aside0.mk (Ns.out.below hb19)
  replace HB := Aside0.mk (below_step HB.out hb19)
  clear hb19
  go_wp2_with (first
    | (refine ld_st Hl Nl (by rfl) _ (by rfl) (by rfl) ?_; go_frame)
    | (refine ld_on Hl Nl (by rfl) _ (by rfl) (by rfl) ?_; go_frame)
    | (refine ld_st Ha Na (by rfl) _ (by rfl) (by rfl) ?_; go_frame)
    | (refine ld_on Ha Na (by rfl) _ (by rfl) (by rfl) ?_; go_frame)
    | (refine ld_st Hb Nb (by rfl) _ (by rfl) (by rfl) ?_; go_frame)
    | (refine ld_on Hb Nb (by rfl) _ (by rfl) (by rfl) ?_; go_frame)
    | (refine ld_st Hc Nc (by rfl) _ (by rfl) (by rfl) ?_; go_frame)
    | (refine ld_on Hc Nc (by rfl) _ (by rfl) (by rfl) ?_; go_frame)
    | (refine ld_st Hx Nx (by rfl) _ (by rfl) (by rfl) ?_; go_frame)
    | (refine ld_on Hx Nx (by rfl) _ (by rfl) (by rfl) ?_; go_frame)
    | (refine ld_st Hy Ny (by rfl) _ (by rfl) (by rfl) ?_; go_frame)
    | (refine ld_on Hy Ny (by rfl) _ (by rfl) (by rfl) ?_; go_frame)
    | (refine ld_st Ho No (by rfl) _ (by rfl) (by rfl) ?_; go_frame)
    | (refine ld_on Ho No (by rfl) _ (by rfl) (by rfl) ?_; go_frame)
    | (refine ld_st Ht Nt (by rfl) _ (by rfl) (by rfl) ?_; go_frame)
    | (refine ld_on Ht Nt (by rfl) _ (by rfl) (by rfl) ?_; go_frame)
    | (refine ld_st Hs Ns (by rfl) _ (by rfl) (by rfl) ?_; go_frame)
    | (refine ld_on Hs Ns (by rfl) _ (by rfl) (by rfl) ?_; go_frame))
  have hcn := same_calls Ns.out Na.out Fa.out
  rw [S2.out] at hcn
  refine hcn.mono ?_
  rintro e V20 ⟨rfl, hb20⟩
  clear hcn
  replace Hl := Aside0.mk (blk_below Hl.out hb20)
  replace Nl := Aside0.mk (Nl.out.below hb20)
  replace Ha := Aside0.mk (blk_below Ha.out hb20)
  replace Na := Aside0.mk (Na.out.below hb20)
  replace Hb := Aside0.mk (blk_below Hb.out hb20)
  replace Nb := Aside0.mk (Nb.out.below hb20)
  replace Hc := Aside0.mk (blk_below Hc.out hb20)
  replace Nc := Aside0.mk (Nc.out.below hb20)
  replace Hx := Aside0.mk (blk_below Hx.out hb20)
  replace Nx := Aside0.mk (Nx.out.below hb20)
  replace Hy := Aside0.mk (blk_below Hy.out hb20)
  replace Ny := Aside0.mk (Ny.out.below hb20)
  replace Ho := Aside0.mk (blk_below Ho.out hb20)
  replace No := Aside0.mk (No.out.below hb20)
  replace Ht := Aside0.mk (blk_below Ht.out hb20)
  replace Nt := Aside0.mk (Nt.out.below hb20)
  replace Hs := Aside0.mk (blk_below Hs.out hb20)
  replace Ns := Aside0.mk (Ns.out.below hb20)
  replace HB := Aside0.mk (below_step HB.out hb20)
  clear hb20
  go_wp2
  go_ret
  exact ⟨rfl, HB.out⟩
end Go.Proofs.YtmcddoolniaehaaGreat.S
end
