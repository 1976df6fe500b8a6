/- Several of the walk's texts in one: SLawTurns. -/
import Derived.RegionTactic
import Derived.Deep.RegionHeld3
import Derived.Deep.DrawnRows
import Derived.Deep.DeepCutAuto
import Derived.Test.YtmcddoolniaehaaGreatMU21
section
namespace Go.Proofs.YtmcddoolniaehaaGreat.S
open Go.RowKit Go.Proofs.YtmcddoolniaehaaGreatW.PrintWords Go.Proofs.YtmcddoolniaehaaGreatW.PrintLast Go.Proofs.YtmcddoolniaehaaGreatW.PrintMore Go.Proofs.YtmcddoolniaehaaGreatW
set_option linter.unusedVariables false
set_option linter.unusedSimpArgs false
set_option maxHeartbeats 4000000 in
set_option maxRecDepth 100000 in
theorem turns_calls (cl ca cb : List Value) (l a b : St) (w : World) (hl : StV w cl l) (ol : okL l.p) (il : inL l.c) (ha : StV w ca a) (oa : okL a.p) (ia : inL a.c) (hb : StV w cb b) (ob : okL b.p) (ib : inL b.c) (ra : ∀ x ∈ a.r, okR x) (rb : ∀ x ∈ b.r, okR x) :
    Calls Tryz.prog 5 #[.agg cl.toArray, .agg ca.toArray, .agg cb.toArray] w fun e w' => e = .returned (.bool true) ∧ Below w.heap.size w w' := by
  obtain ⟨hB, bl, ba, bb⟩ := box3 w (.cells cl.toArray 26) (.cells ca.toArray 26) (.cells cb.toArray 26)
  have Nl := Aside0.mk (hl.below hB)
  have Hl := Aside0.mk bl
  have Na := Aside0.mk (ha.below hB)
  have Ha := Aside0.mk ba
  have Nb := Aside0.mk (hb.below hB)
  have Hb := Aside0.mk bb
  have HB := Aside0.mk hB
  clear hB bl hl ba ha bb hb
  go_enter Tryz.func5, Tryz.ntmps5
  go_wp2_with fail
  revert Nl Hl Na Ha Nb Hb HB
  generalize (((w.alloc (.cells cl.toArray 26)).alloc (.cells ca.toArray 26)).alloc (.cells cb.toArray 26)) = W
  intro Nl Hl Na Ha Nb Hb HB
  generalize cl = Xl at *; generalize ca = Xa at *; generalize cb = Xb at *
  refine (awake_calls _).mono ?_
  rintro e V0 ⟨rfl, hb0⟩
  replace Hl := Aside0.mk (blk_below Hl.out hb0)
  replace Nl := Aside0.mk (Nl.out.below hb0)
  replace Ha := Aside0.mk (blk_below Ha.out hb0)
  replace Na := Aside0.mk (Na.out.below hb0)
  replace Hb := Aside0.mk (blk_below Hb.out hb0)
  replace Nb := Aside0.mk (Nb.out.below hb0)
  replace HB := Aside0.mk (below_step HB.out hb0)
  clear hb0
  go_wp2_with (first
    | (refine ld_st Hl Nl (by rfl) _ (by rfl) (by rfl) ?_; go_frame)
    | (refine ld_on Hl Nl (by rfl) _ (by rfl) (by rfl) ?_; go_frame)
    | (refine ld_st Ha Na (by rfl) _ (by rfl) (by rfl) ?_; go_frame)
    | (refine ld_on Ha Na (by rfl) _ (by rfl) (by rfl) ?_; go_frame)
    | (refine ld_st Hb Nb (by rfl) _ (by rfl) (by rfl) ?_; go_frame)
    | (refine ld_on Hb Nb (by rfl) _ (by rfl) (by rfl) ?_; go_frame))
  have hcn := few_calls Nl.out
  obtain ⟨ql, hql⟩ : ∃ q, q = fewS l := ⟨_, rfl⟩
  rw [← hql] at hcn
  have Ql := Aside0.mk hql
  clear hql
  refine hcn.mono ?_
  rintro e V1 ⟨rfl, hb1⟩
  clear hcn
  replace Hl := Aside0.mk (blk_below Hl.out hb1)
  replace Nl := Aside0.mk (Nl.out.below hb1)
  replace Ha := Aside0.mk (blk_below Ha.out hb1)
  replace Na := Aside0.mk (Na.out.below hb1)
  replace Hb := Aside0.mk (blk_below Hb.out hb1)
  replace Nb := Aside0.mk (Nb.out.below hb1)
  replace HB := Aside0.mk (below_step HB.out hb1)
  clear hb1
  go_wp2_with (first
    | (refine ld_st Hl Nl (by rfl) _ (by rfl) (by rfl) ?_; go_frame)
    | (refine ld_on Hl Nl (by rfl) _ (by rfl) (by rfl) ?_; go_frame)
    | (refine ld_st Ha Na (by rfl) _ (by rfl) (by rfl) ?_; go_frame)
    | (refine ld_on Ha Na (by rfl) _ (by rfl) (by rfl) ?_; go_frame)
    | (refine ld_st Hb Nb (by rfl) _ (by rfl) (by rfl) ?_; go_frame)
    | (refine ld_on Hb Nb (by rfl) _ (by rfl) (by rfl) ?_; go_frame))
  have hcn := few_calls Na.out
  obtain ⟨qa, hqa⟩ : ∃ q, q = fewS a := ⟨_, rfl⟩
  rw [← hqa] at hcn
  have Qa := Aside0.mk hqa
  clear hqa
  refine hcn.mono ?_
  rintro e V2 ⟨rfl, hb2⟩
  clear hcn
  replace Hl := Aside0.mk (blk_below Hl.out hb2)
  replace Nl := Aside0.mk (Nl.out.below hb2)
  replace Ha := Aside0.mk (blk_below Ha.out hb2)
  replace Na := Aside0.mk (Na.out.below hb2)
  replace Hb := Aside0.mk (blk_below Hb.out hb2)
  replace Nb := Aside0.mk (Nb.out.below hb2)
  replace HB := Aside0.mk (below_step HB.out hb2)
  clear hb2
  go_wp2_with (first
    | (refine ld_st Hl Nl (by rfl) _ (by rfl) (by rfl) ?_; go_frame)
    | (refine ld_on Hl Nl (by rfl) _ (by rfl) (by rfl) ?_; go_frame)
    | (refine ld_st Ha Na (by rfl) _ (by rfl) (by rfl) ?_; go_frame)
    | (refine ld_on Ha Na (by rfl) _ (by rfl) (by rfl) ?_; go_frame)
    | (refine ld_st Hb Nb (by rfl) _ (by rfl) (by rfl) ?_; go_frame)
    | (refine ld_on Hb Nb (by rfl) _ (by rfl) (by rfl) ?_; go_frame))
  have hcn := few_calls Nb.out
  obtain ⟨qb, hqb⟩ : ∃ q, q = fewS b := ⟨_, rfl⟩
  rw [← hqb] at hcn
  have Qb := Aside0.mk hqb
  clear hqb
  refine hcn.mono ?_
  rintro e V3 ⟨rfl, hb3⟩
  clear hcn
  replace Hl := Aside0.mk (blk_below Hl.out hb3)
  replace Nl := Aside0.mk (Nl.out.below hb3)
  replace Ha := Aside0.mk (blk_below Ha.out hb3)
  replace Na := Aside0.mk (Na.out.below hb3)
  replace Hb := Aside0.mk (blk_below Hb.out hb3)
  replace Nb := Aside0.mk (Nb.out.below hb3)
  replace HB := Aside0.mk (below_step HB.out hb3)
  clear hb3
  cases ql with
  | false =>
    go_wp2_with (first
      | (refine ld_st Hl Nl (by rfl) _ (by rfl) (by rfl) ?_; go_frame)
      | (refine ld_on Hl Nl (by rfl) _ (by rfl) (by rfl) ?_; go_frame)
      | (refine ld_st Ha Na (by rfl) _ (by rfl) (by rfl) ?_; go_frame)
      | (refine ld_on Ha Na (by rfl) _ (by rfl) (by rfl) ?_; go_frame)
      | (refine ld_st Hb Nb (by rfl) _ (by rfl) (by rfl) ?_; go_frame)
      | (refine ld_on Hb Nb (by rfl) _ (by rfl) (by rfl) ?_; go_frame))
    go_ret
    exact ⟨rfl, HB.out⟩
  | true =>
  cases qa with
  | false =>
    go_wp2_with (first
      | (refine ld_st Hl Nl (by rfl) _ (by rfl) (by rfl) ?_; go_frame)
      | (refine ld_on Hl Nl (by rfl) _ (by rfl) (by rfl) ?_; go_frame)
      | (refine ld_st Ha Na (by rfl) _ (by rfl) (by rfl) ?_; go_frame)
      | (refine ld_on Ha Na (by rfl) _ (by rfl) (by rfl) ?_; go_frame)
      | (refine ld_st Hb Nb (by rfl) _ (by rfl) (by rfl) ?_; go_frame)
      | (refine ld_on Hb Nb (by rfl) _ (by rfl) (by rfl) ?_; go_frame))
    go_ret
    exact ⟨rfl, HB.out⟩
  | true =>
  cases qb with
  | false =>
    go_wp2_with (first
      | (refine ld_st Hl Nl (by rfl) _ (by rfl) (by rfl) ?_; go_frame)
      | (refine ld_on Hl Nl (by rfl) _ (by rfl) (by rfl) ?_; go_frame)
      | (refine ld_st Ha Na (by rfl) _ (by rfl) (by rfl) ?_; go_frame)
      | (refine ld_on Ha Na (by rfl) _ (by rfl) (by rfl) ?_; go_frame)
      | (refine ld_st Hb Nb (by rfl) _ (by rfl) (by rfl) ?_; go_frame)
      | (refine ld_on Hb Nb (by rfl) _ (by rfl) (by rfl) ?_; go_frame))
    go_ret
    exact ⟨rfl, HB.out⟩
  | true =>
  have Fl := Aside0.mk (few_fit Ql.out.symm ol)
  have Fa := Aside0.mk (few_fit Qa.out.symm oa)
  have Fb := Aside0.mk (few_fit Qb.out.symm ob)
  clear Ql Qa Qb
  go_wp2_with (first
    | (refine ld_st Hl Nl (by rfl) _ (by rfl) (by rfl) ?_; go_frame)
    | (refine ld_on Hl Nl (by rfl) _ (by rfl) (by rfl) ?_; go_frame)
    | (refine ld_st Ha Na (by rfl) _ (by rfl) (by rfl) ?_; go_frame)
    | (refine ld_on Ha Na (by rfl) _ (by rfl) (by rfl) ?_; go_frame)
    | (refine ld_st Hb Nb (by rfl) _ (by rfl) (by rfl) ?_; go_frame)
    | (refine ld_on Hb Nb (by rfl) _ (by rfl) (by rfl) ?_; go_frame))
  have hcn := may_calls Nl.out (Fl.out.up (by decide))
  obtain ⟨ml, hml⟩ : ∃ q, q = mayS l := ⟨_, rfl⟩
  rw [← hml] at hcn
  have Ml := Aside0.mk hml.symm
  clear hml
  refine hcn.mono ?_
  rintro e V4 ⟨rfl, hb4⟩
  clear hcn
  replace Hl := Aside0.mk (blk_below Hl.out hb4)
  replace Nl := Aside0.mk (Nl.out.below hb4)
  replace Ha := Aside0.mk (blk_below Ha.out hb4)
  replace Na := Aside0.mk (Na.out.below hb4)
  replace Hb := Aside0.mk (blk_below Hb.out hb4)
  replace Nb := Aside0.mk (Nb.out.below hb4)
  replace HB := Aside0.mk (below_step HB.out hb4)
  clear hb4
  cases ml with
  | false =>
    go_wp2_with (first
      | (refine ld_st Hl Nl (by rfl) _ (by rfl) (by rfl) ?_; go_frame)
      | (refine ld_on Hl Nl (by rfl) _ (by rfl) (by rfl) ?_; go_frame)
      | (refine ld_st Ha Na (by rfl) _ (by rfl) (by rfl) ?_; go_frame)
      | (refine ld_on Ha Na (by rfl) _ (by rfl) (by rfl) ?_; go_frame)
      | (refine ld_st Hb Nb (by rfl) _ (by rfl) (by rfl) ?_; go_frame)
      | (refine ld_on Hb Nb (by rfl) _ (by rfl) (by rfl) ?_; go_frame))
    go_ret
    exact ⟨rfl, HB.out⟩
  | true =>
  go_wp2_with (first
    | (refine ld_st Hl Nl (by rfl) _ (by rfl) (by rfl) ?_; go_frame)
    | (refine ld_on Hl Nl (by rfl) _ (by rfl) (by rfl) ?_; go_frame)
    | (refine ld_st Ha Na (by rfl) _ (by rfl) (by rfl) ?_; go_frame)
    | (refine ld_on Ha Na (by rfl) _ (by rfl) (by rfl) ?_; go_frame)
    | (refine ld_st Hb Nb (by rfl) _ (by rfl) (by rfl) ?_; go_frame)
    | (refine ld_on Hb Nb (by rfl) _ (by rfl) (by rfl) ?_; go_frame))
  have hcn := may_calls Na.out (Fa.out.up (by decide))
  obtain ⟨ma, hma⟩ : ∃ q, q = mayS a := ⟨_, rfl⟩
  rw [← hma] at hcn
  have Ma := Aside0.mk hma.symm
  clear hma
  refine hcn.mono ?_
  rintro e V5 ⟨rfl, hb5⟩
  clear hcn
  replace Hl := Aside0.mk (blk_below Hl.out hb5)
  replace Nl := Aside0.mk (Nl.out.below hb5)
  replace Ha := Aside0.mk (blk_below Ha.out hb5)
  replace Na := Aside0.mk (Na.out.below hb5)
  replace Hb := Aside0.mk (blk_below Hb.out hb5)
  replace Nb := Aside0.mk (Nb.out.below hb5)
  replace HB := Aside0.mk (below_step HB.out hb5)
  clear hb5
  cases ma with
  | false =>
    go_wp2_with (first
      | (refine ld_st Hl Nl (by rfl) _ (by rfl) (by rfl) ?_; go_frame)
      | (refine ld_on Hl Nl (by rfl) _ (by rfl) (by rfl) ?_; go_frame)
      | (refine ld_st Ha Na (by rfl) _ (by rfl) (by rfl) ?_; go_frame)
      | (refine ld_on Ha Na (by rfl) _ (by rfl) (by rfl) ?_; go_frame)
      | (refine ld_st Hb Nb (by rfl) _ (by rfl) (by rfl) ?_; go_frame)
      | (refine ld_on Hb Nb (by rfl) _ (by rfl) (by rfl) ?_; go_frame))
    go_ret
    exact ⟨rfl, HB.out⟩
  | true =>
  go_wp2_with (first
    | (refine ld_st Hl Nl (by rfl) _ (by rfl) (by rfl) ?_; go_frame)
    | (refine ld_on Hl Nl (by rfl) _ (by rfl) (by rfl) ?_; go_frame)
    | (refine ld_st Ha Na (by rfl) _ (by rfl) (by rfl) ?_; go_frame)
    | (refine ld_on Ha Na (by rfl) _ (by rfl) (by rfl) ?_; go_frame)
    | (refine ld_st Hb Nb (by rfl) _ (by rfl) (by rfl) ?_; go_frame)
    | (refine ld_on Hb Nb (by rfl) _ (by rfl) (by rfl) ?_; go_frame))
  have hcn := may_calls Nb.out (Fb.out.up (by decide))
  obtain ⟨mb, hmb⟩ : ∃ q, q = mayS b := ⟨_, rfl⟩
  rw [← hmb] at hcn
  have Mb := Aside0.mk hmb.symm
  clear hmb
  refine hcn.mono ?_
  rintro e V6 ⟨rfl, hb6⟩
  clear hcn
  replace Hl := Aside0.mk (blk_below Hl.out hb6)
  replace Nl := Aside0.mk (Nl.out.below hb6)
  replace Ha := Aside0.mk (blk_below Ha.out hb6)
  replace Na := Aside0.mk (Na.out.below hb6)
  replace Hb := Aside0.mk (blk_below Hb.out hb6)
  replace Nb := Aside0.mk (Nb.out.below hb6)
  replace HB := Aside0.mk (below_step HB.out hb6)
  clear hb6
  cases mb with
  | false =>
    go_wp2_with (first
      | (refine ld_st Hl Nl (by rfl) _ (by rfl) (by rfl) ?_; go_frame)
      | (refine ld_on Hl Nl (by rfl) _ (by rfl) (by rfl) ?_; go_frame)
      | (refine ld_st Ha Na (by rfl) _ (by rfl) (by rfl) ?_; go_frame)
      | (refine ld_on Ha Na (by rfl) _ (by rfl) (by rfl) ?_; go_frame)
      | (refine ld_st Hb Nb (by rfl) _ (by rfl) (by rfl) ?_; go_frame)
      | (refine ld_on Hb Nb (by rfl) _ (by rfl) (by rfl) ?_; go_frame))
    go_ret
    exact ⟨rfl, HB.out⟩
  | true =>
  have Gl : Good l := ⟨Ml.out, ol, il, by have := Fl.out.1; omega⟩
  have Ga : Good a := ⟨Ma.out, oa, ia, by have := Fa.out.1; omega⟩
  have Gb : Good b := ⟨Mb.out, ob, ib, by have := Fb.out.1; omega⟩
  have hl1 := Fl.out.1
  have hl2 := Fa.out.1
  have hl3 := Fb.out.1
  obtain ⟨X, hX⟩ : ∃ X, X = mrg l a b := ⟨_, rfl⟩
  obtain ⟨Z, hZ⟩ : ∃ Z, Z = mrg l l b := ⟨_, rfl⟩
  have gX : Good X := by rw [hX]; exact mrg_good Gl Ga Gb (by omega)
  have MX := Aside0.mk gX.1
  have e1 := mergeS_ok Gl.1 Ga.1 Gb.1
  have e2 := mergeS_ok Gl.1 Gb.1 Ga.1
  have e3 := mergeS_ok Gl.1 Gl.1 Gb.1
  have f1 := merge_fit Fl.out Fa.out Fb.out
  rw [e1] at f1
  dsimp only at f1
  rw [← hX] at f1 e1
  rw [← hZ] at e3
  rw [← mrg_comm Gl Ga Gb, ← hX] at e2
  have z1 := mrg_base Gl Gb
  rw [← hZ] at z1
  have ZC := Aside0.mk z1.1
  have ZP := Aside0.mk z1.2
  have E1 := Aside0.mk e1
  have E2 := Aside0.mk e2
  have E3 := Aside0.mk e3
  have FX := Aside0.mk (f1.up (show 90 ≤ 1000 by decide))
  have S1 : Aside0 (sameS X X = true) := ⟨sameS_iff.2 rfl⟩
  have S2 : Aside0 (sameS b b = true) := ⟨sameS_iff.2 rfl⟩
  replace Fl := Aside0.mk (Fl.out.up (show 30 ≤ 1000 by decide))
  replace Fa := Aside0.mk (Fa.out.up (show 30 ≤ 1000 by decide))
  replace Fb := Aside0.mk (Fb.out.up (show 30 ≤ 1000 by decide))
  have PAB : Aside0 (putS a.c a.r a.p = putS b.c b.r b.p → a = b) := ⟨putS_inj ⟨Ga.2.2.1, ra, fun x hx => ⟨(oa x hx).2.2.1, (oa x hx).2.2.2⟩⟩ ⟨Gb.2.2.1, rb, fun x hx => ⟨(ob x hx).2.2.1, (ob x hx).2.2.2⟩⟩ Fa.out Fb.out⟩
  have SA := Aside0.mk (pair_small (mayS_iff.1 Ga.1).2.2)
  have SB := Aside0.mk (pair_small (mayS_iff.1 Gb.1).2.2)
  clear hl1 hl2 hl3 hX hZ e1 e2 e3 f1 z1 gX Gl Ga Gb ra rb
  go_wp2_with (first
    | (refine ld_st Hl Nl (by rfl) _ (by rfl) (by rfl) ?_; go_frame)
    | (refine ld_on Hl Nl (by rfl) _ (by rfl) (by rfl) ?_; go_frame)
    | (refine ld_st Ha Na (by rfl) _ (by rfl) (by rfl) ?_; go_frame)
    | (refine ld_on Ha Na (by rfl) _ (by rfl) (by rfl) ?_; go_frame)
    | (refine ld_st Hb Nb (by rfl) _ (by rfl) (by rfl) ?_; go_frame)
    | (refine ld_on Hb Nb (by rfl) _ (by rfl) (by rfl) ?_; go_frame))
  have hcn := merge_calls Nl.out Na.out Nb.out Fl.out Fa.out Fb.out
  rw [E1.out] at hcn
  try dsimp only at hcn
  refine hcn.mono ?_
  rintro e V7 ⟨csx, rfl, hN7, hb7⟩
  clear hcn
  replace Hl := Aside0.mk (blk_below Hl.out hb7)
  replace Nl := Aside0.mk (Nl.out.below hb7)
  replace Ha := Aside0.mk (blk_below Ha.out hb7)
  replace Na := Aside0.mk (Na.out.below hb7)
  replace Hb := Aside0.mk (blk_below Hb.out hb7)
  replace Nb := Aside0.mk (Nb.out.below hb7)
  replace HB := Aside0.mk (below_step HB.out hb7)
  have Nx := Aside0.mk hN7
  clear hN7 hb7
  go_wp2_with (first
    | (refine ld_st Hl Nl (by rfl) _ (by rfl) (by rfl) ?_; go_frame)
    | (refine ld_on Hl Nl (by rfl) _ (by rfl) (by rfl) ?_; go_frame)
    | (refine ld_st Ha Na (by rfl) _ (by rfl) (by rfl) ?_; go_frame)
    | (refine ld_on Ha Na (by rfl) _ (by rfl) (by rfl) ?_; go_frame)
    | (refine ld_st Hb Nb (by rfl) _ (by rfl) (by rfl) ?_; go_frame)
    | (refine ld_on Hb Nb (by rfl) _ (by rfl) (by rfl) ?_; go_frame)
    | (refine sv_st Nx (by rfl) (by rfl) _ _ (by rfl) (by rfl) (by rfl) ?_; intro U8 hbk8 hBk8 hsk8; replace Hl := Aside0.mk (blk_below Hl.out hBk8); replace Nl := Aside0.mk (Nl.out.below hBk8); replace Ha := Aside0.mk (blk_below Ha.out hBk8); replace Na := Aside0.mk (Na.out.below hBk8); replace Hb := Aside0.mk (blk_below Hb.out hBk8); replace Nb := Aside0.mk (Nb.out.below hBk8); replace Nx := Aside0.mk (Nx.out.below hBk8); replace HB := Aside0.mk (below_step HB.out hBk8); have Hx := Aside0.mk hbk8; clear hbk8 hBk8 hsk8; go_frame)
    | (refine ld_st Hx Nx (by rfl) _ (by rfl) (by rfl) ?_; go_frame)
    | (refine ld_on Hx Nx (by rfl) _ (by rfl) (by rfl) ?_; go_frame))
  have hcn := merge_calls Nl.out Nb.out Na.out Fl.out Fb.out Fa.out
  rw [E2.out] at hcn
  try dsimp only at hcn
  refine hcn.mono ?_
  rintro e V9 ⟨csy, rfl, hN9, hb9⟩
  clear hcn
  replace Hl := Aside0.mk (blk_below Hl.out hb9)
  replace Nl := Aside0.mk (Nl.out.below hb9)
  replace Ha := Aside0.mk (blk_below Ha.out hb9)
  replace Na := Aside0.mk (Na.out.below hb9)
  replace Hb := Aside0.mk (blk_below Hb.out hb9)
  replace Nb := Aside0.mk (Nb.out.below hb9)
  replace Hx := Aside0.mk (blk_below Hx.out hb9)
  replace Nx := Aside0.mk (Nx.out.below hb9)
  replace HB := Aside0.mk (below_step HB.out hb9)
  have Ny := Aside0.mk hN9
  clear hN9 hb9
  go_wp2_with (first
    | (refine ld_st Hl Nl (by rfl) _ (by rfl) (by rfl) ?_; go_frame)
    | (refine ld_on Hl Nl (by rfl) _ (by rfl) (by rfl) ?_; go_frame)
    | (refine ld_st Ha Na (by rfl) _ (by rfl) (by rfl) ?_; go_frame)
    | (refine ld_on Ha Na (by rfl) _ (by rfl) (by rfl) ?_; go_frame)
    | (refine ld_st Hb Nb (by rfl) _ (by rfl) (by rfl) ?_; go_frame)
    | (refine ld_on Hb Nb (by rfl) _ (by rfl) (by rfl) ?_; go_frame)
    | (refine ld_st Hx Nx (by rfl) _ (by rfl) (by rfl) ?_; go_frame)
    | (refine ld_on Hx Nx (by rfl) _ (by rfl) (by rfl) ?_; go_frame)
    | (refine sv_st Ny (by rfl) (by rfl) _ _ (by rfl) (by rfl) (by rfl) ?_; intro U10 hbk10 hBk10 hsk10; replace Hl := Aside0.mk (blk_below Hl.out hBk10); replace Nl := Aside0.mk (Nl.out.below hBk10); replace Ha := Aside0.mk (blk_below Ha.out hBk10); replace Na := Aside0.mk (Na.out.below hBk10); replace Hb := Aside0.mk (blk_below Hb.out hBk10); replace Nb := Aside0.mk (Nb.out.below hBk10); replace Hx := Aside0.mk (blk_below Hx.out hBk10); replace Nx := Aside0.mk (Nx.out.below hBk10); replace Ny := Aside0.mk (Ny.out.below hBk10); replace HB := Aside0.mk (below_step HB.out hBk10); have Hy := Aside0.mk hbk10; clear hbk10 hBk10 hsk10; go_frame)
    | (refine ld_st Hy Ny (by rfl) _ (by rfl) (by rfl) ?_; go_frame)
    | (refine ld_on Hy Ny (by rfl) _ (by rfl) (by rfl) ?_; go_frame))
  have hcn := merge_calls Nl.out Nl.out Nb.out Fl.out Fl.out Fb.out
  rw [E3.out] at hcn
  try dsimp only at hcn
  refine hcn.mono ?_
  rintro e V11 ⟨csz, rfl, hN11, hb11⟩
  clear hcn
  replace Hl := Aside0.mk (blk_below Hl.out hb11)
  replace Nl := Aside0.mk (Nl.out.below hb11)
  replace Ha := Aside0.mk (blk_below Ha.out hb11)
  replace Na := Aside0.mk (Na.out.below hb11)
  replace Hb := Aside0.mk (blk_below Hb.out hb11)
  replace Nb := Aside0.mk (Nb.out.below hb11)
  replace Hx := Aside0.mk (blk_below Hx.out hb11)
  replace Nx := Aside0.mk (Nx.out.below hb11)
  replace Hy := Aside0.mk (blk_below Hy.out hb11)
  replace Ny := Aside0.mk (Ny.out.below hb11)
  replace HB := Aside0.mk (below_step HB.out hb11)
  have Nz := Aside0.mk hN11
  clear hN11 hb11
  obtain ⟨Z0, z0, Z1, z1, Z2, z2, rfl, hz0, hz1, _, _, hz4, hz5⟩ := Nz.out
  obtain ⟨B0, d0, B1, d1, B2, d2, hcb, _, _, hb2, hb3, _, _⟩ := Nb.out
  have TC : Aside0 (StV V11 [.slice Z0 Z.c.length z0, .slice B1 b.r.length d1, .slice Z2 Z.p.length z2] b) := ⟨⟨Z0, z0, B1, d1, Z2, z2, by rw [ZC.out, ZP.out], by rw [← ZC.out]; exact hz0, by rw [← ZC.out]; exact hz1, hb2, hb3, by rw [← ZP.out]; exact hz4, by rw [← ZP.out]; exact hz5⟩⟩
  have HCB := Aside0.mk hcb
  clear hz0 hz1 hz4 hz5 hb2 hb3 hcb ZC ZP
  have HlV := Hl
  have HaV := Ha
  have HbV := Hb
  have HxV := Hx
  have HyV := Hy
  have NlV := Nl
  have NaV := Na
  have NbV := Nb
  have NxV := Nx
  have NyV := Ny
  have HBV := HB
  go_wp2_with (first
    | (refine ld_st Hl Nl (by rfl) _ (by rfl) (by rfl) ?_; go_frame)
    | (refine ld_on Hl Nl (by rfl) _ (by rfl) (by rfl) ?_; go_frame)
    | (refine ld_st Ha Na (by rfl) _ (by rfl) (by rfl) ?_; go_frame)
    | (refine ld_on Ha Na (by rfl) _ (by rfl) (by rfl) ?_; go_frame)
    | (refine ld_st Hb Nb (by rfl) _ (by rfl) (by rfl) ?_; go_frame)
    | (refine ld_on Hb Nb (by rfl) _ (by rfl) (by rfl) ?_; go_frame)
    | (refine ld_st Hx Nx (by rfl) _ (by rfl) (by rfl) ?_; go_frame)
    | (refine ld_on Hx Nx (by rfl) _ (by rfl) (by rfl) ?_; go_frame)
    | (refine ld_st Hy Ny (by rfl) _ (by rfl) (by rfl) ?_; go_frame)
    | (refine ld_on Hy Ny (by rfl) _ (by rfl) (by rfl) ?_; go_frame)
    | (refine sv_st Nz (by rfl) (by rfl) _ _ (by rfl) (by rfl) (by rfl) ?_; intro U12 hbk12 hBk12 hsk12; have hBV := Aside0.mk hBk12; replace Hl := Aside0.mk (blk_below Hl.out hBk12); replace Nl := Aside0.mk (Nl.out.below hBk12); replace Ha := Aside0.mk (blk_below Ha.out hBk12); replace Na := Aside0.mk (Na.out.below hBk12); replace Hb := Aside0.mk (blk_below Hb.out hBk12); replace Nb := Aside0.mk (Nb.out.below hBk12); replace Hx := Aside0.mk (blk_below Hx.out hBk12); replace Nx := Aside0.mk (Nx.out.below hBk12); replace Hy := Aside0.mk (blk_below Hy.out hBk12); replace Ny := Aside0.mk (Ny.out.below hBk12); replace Nz := Aside0.mk (Nz.out.below hBk12); replace HB := Aside0.mk (below_step HB.out hBk12); have Hz := Aside0.mk hbk12; clear hbk12 hBk12 hsk12; have bc := Hb.out; rw [HCB.out] at bc; have bc1 : U12.cell? ⟨w.heap.size + 2, 1, none⟩ = some (.slice B1 b.r.length d1) := blk_cell bc 1; clear bc; have zc1 : U12.cell? ⟨V11.heap.size, 1, none⟩ = some (.slice Z1 Z.r.length z1) := blk_cell Hz.out 1; have zf1 : U12.frozen? ⟨V11.heap.size, 1, none⟩ = false := blk_frozen Hz.out 1; go_frame)
    | (generalize hgU : World.setCell U12 ⟨V11.heap.size, 1, none⟩ (.slice B1 b.r.length d1) = U9; have h9 : Below V11.heap.size V11 U9 := (by rw [← hgU]; exact Below.setCell hBV.out (Nat.le_refl _) _); replace Hl := Aside0.mk (blk_below HlV.out h9); replace Nl := Aside0.mk (NlV.out.below h9); replace Ha := Aside0.mk (blk_below HaV.out h9); replace Na := Aside0.mk (NaV.out.below h9); replace Hb := Aside0.mk (blk_below HbV.out h9); replace Nb := Aside0.mk (NbV.out.below h9); replace Hx := Aside0.mk (blk_below HxV.out h9); replace Nx := Aside0.mk (NxV.out.below h9); replace Hy := Aside0.mk (blk_below HyV.out h9); replace Ny := Aside0.mk (NyV.out.below h9); replace HB := Aside0.mk (below_step HBV.out h9); have Nu := Aside0.mk (TC.out.below h9); have Hu : Aside0 (U9.heap[V11.heap.size]? = some (.cells (List.toArray [.slice Z0 Z.c.length z0, .slice B1 b.r.length d1, .slice Z2 Z.p.length z2]) 26 (0, 0))) := ⟨by rw [← hgU]; exact blk_set Hz.out 1 _⟩; clear hgU h9 Hz Nz bc1 zc1 zf1 hBV TC HlV NlV HaV NaV HbV NbV HxV NxV HyV NyV; first | (refine ld_st Hl Nl (by rfl) _ (by rfl) (by rfl) ?_; go_frame) | (refine ld_on Hl Nl (by rfl) _ (by rfl) (by rfl) ?_; go_frame) | (refine ld_st Ha Na (by rfl) _ (by rfl) (by rfl) ?_; go_frame) | (refine ld_on Ha Na (by rfl) _ (by rfl) (by rfl) ?_; go_frame) | (refine ld_st Hb Nb (by rfl) _ (by rfl) (by rfl) ?_; go_frame) | (refine ld_on Hb Nb (by rfl) _ (by rfl) (by rfl) ?_; go_frame) | (refine ld_st Hx Nx (by rfl) _ (by rfl) (by rfl) ?_; go_frame) | (refine ld_on Hx Nx (by rfl) _ (by rfl) (by rfl) ?_; go_frame) | (refine ld_st Hy Ny (by rfl) _ (by rfl) (by rfl) ?_; go_frame) | (refine ld_on Hy Ny (by rfl) _ (by rfl) (by rfl) ?_; go_frame) | (refine ld_st Hu Nu (by rfl) _ (by rfl) (by rfl) ?_; go_frame) | (refine ld_on Hu Nu (by rfl) _ (by rfl) (by rfl) ?_; go_frame))
    | (refine ld_st Hl Nl (by rfl) _ (by rfl) (by rfl) ?_; go_frame)
    | (refine ld_on Hl Nl (by rfl) _ (by rfl) (by rfl) ?_; go_frame)
    | (refine ld_st Ha Na (by rfl) _ (by rfl) (by rfl) ?_; go_frame)
    | (refine ld_on Ha Na (by rfl) _ (by rfl) (by rfl) ?_; go_frame)
    | (refine ld_st Hb Nb (by rfl) _ (by rfl) (by rfl) ?_; go_frame)
    | (refine ld_on Hb Nb (by rfl) _ (by rfl) (by rfl) ?_; go_frame)
    | (refine ld_st Hx Nx (by rfl) _ (by rfl) (by rfl) ?_; go_frame)
    | (refine ld_on Hx Nx (by rfl) _ (by rfl) (by rfl) ?_; go_frame)
    | (refine ld_st Hy Ny (by rfl) _ (by rfl) (by rfl) ?_; go_frame)
    | (refine ld_on Hy Ny (by rfl) _ (by rfl) (by rfl) ?_; go_frame)
    | (refine ld_st Hu Nu (by rfl) _ (by rfl) (by rfl) ?_; go_frame)
    | (refine ld_on Hu Nu (by rfl) _ (by rfl) (by rfl) ?_; go_frame))
  have hcn := may_calls Nx.out FX.out
  rw [MX.out] at hcn
  refine hcn.mono ?_
  rintro e V13 ⟨rfl, hb13⟩
  clear hcn
  replace Hl := Aside0.mk (blk_below Hl.out hb13)
  replace Nl := Aside0.mk (Nl.out.below hb13)
  replace Ha := Aside0.mk (blk_below Ha.out hb13)
  replace Na := Aside0.mk (Na.out.below hb13)
  replace Hb := Aside0.mk (blk_below Hb.out hb13)
  replace Nb := Aside0.mk (Nb.out.below hb13)
  replace Hx := Aside0.mk (blk_below Hx.out hb13)
  replace Nx := Aside0.mk (Nx.out.below hb13)
  replace Hy := Aside0.mk (blk_below Hy.out hb13)
  replace Ny := Aside0.mk (Ny.out.below hb13)
  replace Hu := Aside0.mk (blk_below Hu.out hb13)
  replace Nu := Aside0.mk (Nu.out.below hb13)
  replace HB := Aside0.mk (below_step HB.out hb13)
  clear hb13
  go_wp2_with (first
    | (refine ld_st Hl Nl (by rfl) _ (by rfl) (by rfl) ?_; go_frame)
    | (refine ld_on Hl Nl (by rfl) _ (by rfl) (by rfl) ?_; go_frame)
    | (refine ld_st Ha Na (by rfl) _ (by rfl) (by rfl) ?_; go_frame)
    | (refine ld_on Ha Na (by rfl) _ (by rfl) (by rfl) ?_; go_frame)
    | (refine ld_st Hb Nb (by rfl) _ (by rfl) (by rfl) ?_; go_frame)
    | (refine ld_on Hb Nb (by rfl) _ (by rfl) (by rfl) ?_; go_frame)
    | (refine ld_st Hx Nx (by rfl) _ (by rfl) (by rfl) ?_; go_frame)
    | (refine ld_on Hx Nx (by rfl) _ (by rfl) (by rfl) ?_; go_frame)
    | (refine ld_st Hy Ny (by rfl) _ (by rfl) (by rfl) ?_; go_frame)
    | (refine ld_on Hy Ny (by rfl) _ (by rfl) (by rfl) ?_; go_frame)
    | (refine ld_st Hu Nu (by rfl) _ (by rfl) (by rfl) ?_; go_frame)
    | (refine ld_on Hu Nu (by rfl) _ (by rfl) (by rfl) ?_; go_frame))
  have hcn := same_calls Nx.out Ny.out FX.out
  rw [S1.out] at hcn
  refine hcn.mono ?_
  rintro e V14 ⟨rfl, hb14⟩
  clear hcn
  replace Hl := Aside0.mk (blk_below Hl.out hb14)
  replace Nl := Aside0.mk (Nl.out.below hb14)
  replace Ha := Aside0.mk (blk_below Ha.out hb14)
  replace Na := Aside0.mk (Na.out.below hb14)
  replace Hb := Aside0.mk (blk_below Hb.out hb14)
  replace Nb := Aside0.mk (Nb.out.below hb14)
  replace Hx := Aside0.mk (blk_below Hx.out hb14)
  replace Nx := Aside0.mk (Nx.out.below hb14)
  replace Hy := Aside0.mk (blk_below Hy.out hb14)
  replace Ny := Aside0.mk (Ny.out.below hb14)
  replace Hu := Aside0.mk (blk_below Hu.out hb14)
  replace Nu := Aside0.mk (Nu.out.below hb14)
  replace HB := Aside0.mk (below_step HB.out hb14)
  clear hb14
  go_wp2_with (first
    | (refine ld_st Hl Nl (by rfl) _ (by rfl) (by rfl) ?_; go_frame)
    | (refine ld_on Hl Nl (by rfl) _ (by rfl) (by rfl) ?_; go_frame)
    | (refine ld_st Ha Na (by rfl) _ (by rfl) (by rfl) ?_; go_frame)
    | (refine ld_on Ha Na (by rfl) _ (by rfl) (by rfl) ?_; go_frame)
    | (refine ld_st Hb Nb (by rfl) _ (by rfl) (by rfl) ?_; go_frame)
    | (refine ld_on Hb Nb (by rfl) _ (by rfl) (by rfl) ?_; go_frame)
    | (refine ld_st Hx Nx (by rfl) _ (by rfl) (by rfl) ?_; go_frame)
    | (refine ld_on Hx Nx (by rfl) _ (by rfl) (by rfl) ?_; go_frame)
    | (refine ld_st Hy Ny (by rfl) _ (by rfl) (by rfl) ?_; go_frame)
    | (refine ld_on Hy Ny (by rfl) _ (by rfl) (by rfl) ?_; go_frame)
    | (refine ld_st Hu Nu (by rfl) _ (by rfl) (by rfl) ?_; go_frame)
    | (refine ld_on Hu Nu (by rfl) _ (by rfl) (by rfl) ?_; go_frame))
  have hcn := same_calls Nu.out Nb.out Fb.out
  rw [S2.out] at hcn
  refine hcn.mono ?_
  rintro e V15 ⟨rfl, hb15⟩
  clear hcn
  replace Hl := Aside0.mk (blk_below Hl.out hb15)
  replace Nl := Aside0.mk (Nl.out.below hb15)
  replace Ha := Aside0.mk (blk_below Ha.out hb15)
  replace Na := Aside0.mk (Na.out.below hb15)
  replace Hb := Aside0.mk (blk_below Hb.out hb15)
  replace Nb := Aside0.mk (Nb.out.below hb15)
  replace Hx := Aside0.mk (blk_below Hx.out hb15)
  replace Nx := Aside0.mk (Nx.out.below hb15)
  replace Hy := Aside0.mk (blk_below Hy.out hb15)
  replace Ny := Aside0.mk (Ny.out.below hb15)
  replace Hu := Aside0.mk (blk_below Hu.out hb15)
  replace Nu := Aside0.mk (Nu.out.below hb15)
  replace HB := Aside0.mk (below_step HB.out hb15)
  clear hb15
  go_wp2_with (first
    | (refine ld_st Hl Nl (by rfl) _ (by rfl) (by rfl) ?_; go_frame)
    | (refine ld_on Hl Nl (by rfl) _ (by rfl) (by rfl) ?_; go_frame)
    | (refine ld_st Ha Na (by rfl) _ (by rfl) (by rfl) ?_; go_frame)
    | (refine ld_on Ha Na (by rfl) _ (by rfl) (by rfl) ?_; go_frame)
    | (refine ld_st Hb Nb (by rfl) _ (by rfl) (by rfl) ?_; go_frame)
    | (refine ld_on Hb Nb (by rfl) _ (by rfl) (by rfl) ?_; go_frame)
    | (refine ld_st Hx Nx (by rfl) _ (by rfl) (by rfl) ?_; go_frame)
    | (refine ld_on Hx Nx (by rfl) _ (by rfl) (by rfl) ?_; go_frame)
    | (refine ld_st Hy Ny (by rfl) _ (by rfl) (by rfl) ?_; go_frame)
    | (refine ld_on Hy Ny (by rfl) _ (by rfl) (by rfl) ?_; go_frame)
    | (refine ld_st Hu Nu (by rfl) _ (by rfl) (by rfl) ?_; go_frame)
    | (refine ld_on Hu Nu (by rfl) _ (by rfl) (by rfl) ?_; go_frame))
  obtain ⟨A0, c0, A1, c1, A2, c2, hca, _⟩ := Na.out
  obtain ⟨pa, hpa⟩ : ∃ q, q = strOfNums (putS a.c a.r a.p) := ⟨_, rfl⟩
  obtain ⟨pb, hpb⟩ : ∃ q, q = strOfNums (putS b.c b.r b.p) := ⟨_, rfl⟩
  obtain ⟨q, hq⟩ : ∃ q, q = sameS a b := ⟨_, rfl⟩
  have HQ : Aside0 (q = true ↔ pa = pb) := ⟨by rw [hq, hpa, hpb, sameS_iff]; exact ⟨fun h => by rw [h], fun h => PAB.out (str_inj (putS_byte _ _ _) (putS_byte _ _ _) h)⟩⟩
  have HS : Aside0 (∀ W, Below V15.heap.size V15 W → Calls Tryz.prog 20 #[.agg Xa.toArray, .agg Xb.toArray] W fun e w1 => e = .returned (.bool q) ∧ Below W.heap.size W w1) := ⟨fun W hb => by rw [hq]; exact same_calls (Na.out.below hb) (Nb.out.below hb) Fa.out⟩
  have HA : Aside0 (∀ W, Below V15.heap.size V15 W → Calls Tryz.prog 16 #[.agg Xa.toArray] W fun e w1 => ∃ v, e = .returned v ∧ (∀ W2 : World, Below w1.heap.size w1 W2 → (convert 37 9 v).run Tryz.prog W2 = .ok (.string pa) W2) ∧ Below W.heap.size W w1) := ⟨fun W hb => by rw [hpa]; exact put_calls3 (Na.out.below hb) Fa.out SA.out⟩
  have HPB : Aside0 (∀ W, Below V15.heap.size V15 W → Calls Tryz.prog 16 #[.agg Xb.toArray] W fun e w1 => ∃ v, e = .returned v ∧ (∀ W2 : World, Below w1.heap.size w1 W2 → (convert 37 9 v).run Tryz.prog W2 = .ok (.string pb) W2) ∧ Below W.heap.size W w1) := ⟨fun W hb => by rw [hpb]; exact put_calls3 (Nb.out.below hb) Fb.out SB.out⟩
  clear hq hpa hpb PAB SA SB Na Nb Nu Nl Nx Ny Hl Hx Hy Hu FX Fa Fb Fl
  have hcb := HCB.out
  clear HCB
  subst hca
  subst hcb
  have Ia0 := Ha
  have Ib0 := Hb
  clear Ha Hb
  have Z0 := Aside0.mk (Below.refl V15.heap.size V15)
  obtain ⟨ca0, ca1, ca2⟩ := cells3 Ia0.out
  obtain ⟨cb0, cb1, cb2⟩ := cells3 Ib0.out
  have HQ2 : Aside0 ((q == (pa.toList == pb.toList)) = true) := ⟨turn_eq HQ.out⟩
  refine wp_region_held_drew (S := (fun w' => w'.cell? ⟨w.heap.size + 1, 0, none⟩ = some (.slice A0 a.c.length c0) ∧ w'.cell? ⟨w.heap.size + 1, 1, none⟩ = some (.slice A1 a.r.length c1) ∧ w'.cell? ⟨w.heap.size + 1, 2, none⟩ = some (.slice A2 a.p.length c2) ∧ w'.cell? ⟨w.heap.size + 2, 0, none⟩ = some (.slice B0 b.c.length d0) ∧ w'.cell? ⟨w.heap.size + 2, 1, none⟩ = some (.slice B1 b.r.length d1) ∧ w'.cell? ⟨w.heap.size + 2, 2, none⟩ = some (.slice B2 b.p.length d2))) (by kernel_rfl) ?_ (fun hHeld => ?_)
  · exact ⟨ca0, ca1, ca2, cb0, cb1, cb2⟩
  refine wpAnyH_take (i := 0) (v := .agg #[.slice A0 a.c.length c0, .slice A1 a.r.length c1, .slice A2 a.p.length c2]) rfl (by kernel_rfl) (by kernel_rfl) (by kernel_rfl) (fun _ _ _ h => h) (Or.inl ⟨by rfl, ?_⟩) (by assumption) ?_
  · intro w0 hSw
    obtain ⟨s0, s1, s2, s3, s4, s5⟩ := hSw
    go_simp
  try simp only [Act.put, List.setIfInBounds_toArray, List.set_cons_zero, List.set_cons_succ]
  refine wpAnyH_take (i := 1) (v := .agg #[.slice B0 b.c.length d0, .slice B1 b.r.length d1, .slice B2 b.p.length d2]) rfl (by kernel_rfl) (by kernel_rfl) (by kernel_rfl) (fun _ _ _ h => h) (Or.inl ⟨by rfl, ?_⟩) (by assumption) ?_
  · intro w0 hSw
    obtain ⟨s0, s1, s2, s3, s4, s5⟩ := hSw
    go_simp
  try simp only [Act.put, List.setIfInBounds_toArray, List.set_cons_zero, List.set_cons_succ]
  refine wpAnyH_take (i := 3) (v := .agg #[.slice A0 a.c.length c0, .slice A1 a.r.length c1, .slice A2 a.p.length c2]) rfl (by kernel_rfl) (by kernel_rfl) (by kernel_rfl) (fun _ _ _ h => h) (Or.inl ⟨by rfl, ?_⟩) (by assumption) ?_
  · intro w0 hSw
    obtain ⟨s0, s1, s2, s3, s4, s5⟩ := hSw
    go_simp
  try simp only [Act.put, List.setIfInBounds_toArray, List.set_cons_zero, List.set_cons_succ]
  refine wpAnyH_take (i := 6) (v := .agg #[.slice B0 b.c.length d0, .slice B1 b.r.length d1, .slice B2 b.p.length d2]) rfl (by kernel_rfl) (by kernel_rfl) (by kernel_rfl) (fun _ _ _ h => h) (Or.inl ⟨by rfl, ?_⟩) (by assumption) ?_
  · intro w0 hSw
    obtain ⟨s0, s1, s2, s3, s4, s5⟩ := hSw
    go_simp
  try simp only [Act.put, List.setIfInBounds_toArray, List.set_cons_zero, List.set_cons_succ]
  refine wpAnyH_ready (rs := [2]) (by kernel_rfl) (by simp) ?_
  refine AllReadyH.cons rfl (fun K hK => ?_) AllReadyH.nil
  go_simp
  go_at_call 20
  refine (HS.out _ (below_drew Z0.out)).mono ?_
  rintro e W1 ⟨rfl, hb⟩
  have Ia1 := Aside0.mk (blk_below (blk_drew Ia0.out) hb); have Ib1 := Aside0.mk (blk_below (blk_drew Ib0.out) hb); have Z1 := Aside0.mk (below_step (below_drew Z0.out) hb); obtain ⟨da0, da1, da2⟩ := cells3 Ia1.out; obtain ⟨db0, db1, db2⟩ := cells3 Ib1.out
  clear hb
  go_wp2_with fail
  clear hHeld
  refine hK.out _ _ ?_ (fun hHeld => ?_)
  · exact ⟨da0, da1, da2, db0, db1, db2⟩
  clear hK K
  try simp only [Act.put, List.setIfInBounds_toArray, List.set_cons_zero, List.set_cons_succ]
  refine wpAnyH_ready (rs := [4]) (by kernel_rfl) (by simp) ?_
  refine AllReadyH.cons rfl (fun K hK => ?_) AllReadyH.nil
  go_simp
  go_at_call 16
  refine (HA.out _ Z1.out).mono ?_
  rintro e W2 ⟨va, rfl, hcv, hb⟩
  have Ia2 := Aside0.mk (blk_below (Ia1.out) hb); have Ib2 := Aside0.mk (blk_below (Ib1.out) hb); have Z2 := Aside0.mk (below_step (Z1.out) hb); obtain ⟨ea0, ea1, ea2⟩ := cells3 Ia2.out; obtain ⟨eb0, eb1, eb2⟩ := cells3 Ib2.out
  have HV2 := Aside0.mk hcv
  have kv2 := hcv _ (Below.refl _ _)
  clear hb hcv
  go_wp2_with fail
  clear hHeld
  refine hK.out _ _ ?_ (fun hHeld => ?_)
  · exact ⟨ea0, ea1, ea2, eb0, eb1, eb2⟩
  clear hK K
  try simp only [Act.put, List.setIfInBounds_toArray, List.set_cons_zero, List.set_cons_succ]
  refine wpAnyH_ready (rs := [5, 7]) (by kernel_rfl) (by simp) ?_
  refine AllReadyH.cons rfl (fun K hK => ?_) (AllReadyH.cons rfl (fun K hK => ?_) AllReadyH.nil)
  · go_simp
    clear hHeld
    refine hK.out _ _ ?_ (fun hHeld => ?_)
    · exact ⟨ea0, ea1, ea2, eb0, eb1, eb2⟩
    clear hK K
    try simp only [Act.put, List.setIfInBounds_toArray, List.set_cons_zero, List.set_cons_succ]
    refine wpAnyH_ready (rs := [7]) (by kernel_rfl) (by simp) ?_
    refine AllReadyH.cons rfl (fun K hK => ?_) AllReadyH.nil
    go_simp
    go_at_call 16
    refine (HPB.out _ Z2.out).mono ?_
    rintro e W3 ⟨vb, rfl, hcv, hb⟩
    have Ia3 := Aside0.mk (blk_below (Ia2.out) hb); have Ib3 := Aside0.mk (blk_below (Ib2.out) hb); have Z3 := Aside0.mk (below_step (Z2.out) hb); obtain ⟨fa0, fa1, fa2⟩ := cells3 Ia3.out; obtain ⟨fb0, fb1, fb2⟩ := cells3 Ib3.out
    have kw3 := HV2.out _ hb
    have kv3 := hcv _ (Below.refl _ _)
    clear hb hcv
    go_wp2_with fail
    clear hHeld
    refine hK.out _ _ ?_ (fun hHeld => ?_)
    · exact ⟨fa0, fa1, fa2, fb0, fb1, fb2⟩
    clear hK K
    try simp only [Act.put, List.setIfInBounds_toArray, List.set_cons_zero, List.set_cons_succ]
    refine wpAnyH_ready (rs := [8]) (by kernel_rfl) (by simp) ?_
    refine AllReadyH.cons rfl (fun K hK => ?_) AllReadyH.nil
    go_simp
    clear hHeld
    refine hK.out _ _ ?_ (fun hHeld => ?_)
    · exact ⟨fa0, fa1, fa2, fb0, fb1, fb2⟩
    clear hK K
    try simp only [Act.put, List.setIfInBounds_toArray, List.set_cons_zero, List.set_cons_succ]
    refine wpAnyH_ready (rs := [9]) (by kernel_rfl) (by simp) ?_
    refine AllReadyH.cons rfl (fun K hK => ?_) AllReadyH.nil
    go_simp
    clear hHeld
    refine hK.out _ _ ?_ (fun hHeld => ?_)
    · exact ⟨fa0, fa1, fa2, fb0, fb1, fb2⟩
    clear hK K
    try simp only [Act.put, List.setIfInBounds_toArray, List.set_cons_zero, List.set_cons_succ]
    refine wpAnyH_ready (rs := [10]) (by kernel_rfl) (by simp) ?_
    refine AllReadyH.cons rfl (fun K hK => ?_) AllReadyH.nil
    go_simp
    clear hHeld
    refine hK.out _ _ ?_ (fun hHeld => ?_)
    · exact ⟨fa0, fa1, fa2, fb0, fb1, fb2⟩
    clear hK K
    try simp only [Act.put, List.setIfInBounds_toArray, List.set_cons_zero, List.set_cons_succ]
    refine wpAnyH_ready (rs := [11]) (by kernel_rfl) (by simp) ?_
    refine AllReadyH.cons rfl (fun K hK => ?_) AllReadyH.nil
    go_simp
    clear hHeld
    refine hK.out _ _ ?_ (fun hHeld => ?_)
    · exact ⟨fa0, fa1, fa2, fb0, fb1, fb2⟩
    clear hK K
    try simp only [Act.put, List.setIfInBounds_toArray, List.set_cons_zero, List.set_cons_succ]
    refine wpAnyH_done (by kernel_rfl) ?_ _
    rw [HQ2.out]
    go_wp2
    go_ret
    exact ⟨rfl, (below_step HB.out Z3.out)⟩
  · go_simp
    go_at_call 16
    refine (HPB.out _ Z2.out).mono ?_
    rintro e W3 ⟨vb, rfl, hcv, hb⟩
    have Ia3 := Aside0.mk (blk_below (Ia2.out) hb); have Ib3 := Aside0.mk (blk_below (Ib2.out) hb); have Z3 := Aside0.mk (below_step (Z2.out) hb); obtain ⟨fa0, fa1, fa2⟩ := cells3 Ia3.out; obtain ⟨fb0, fb1, fb2⟩ := cells3 Ib3.out
    have kw3 := HV2.out _ hb
    have kv3 := hcv _ (Below.refl _ _)
    clear hb hcv
    go_wp2_with fail
    clear hHeld
    refine hK.out _ _ ?_ (fun hHeld => ?_)
    · exact ⟨fa0, fa1, fa2, fb0, fb1, fb2⟩
    clear hK K
    try simp only [Act.put, List.setIfInBounds_toArray, List.set_cons_zero, List.set_cons_succ]
    refine wpAnyH_ready (rs := [5, 8]) (by kernel_rfl) (by simp) ?_
    refine AllReadyH.cons rfl (fun K hK => ?_) (AllReadyH.cons rfl (fun K hK => ?_) AllReadyH.nil)
    · go_simp
      clear hHeld
      refine hK.out _ _ ?_ (fun hHeld => ?_)
      · exact ⟨fa0, fa1, fa2, fb0, fb1, fb2⟩
      clear hK K
      try simp only [Act.put, List.setIfInBounds_toArray, List.set_cons_zero, List.set_cons_succ]
      refine wpAnyH_ready (rs := [8]) (by kernel_rfl) (by simp) ?_
      refine AllReadyH.cons rfl (fun K hK => ?_) AllReadyH.nil
      go_simp
      clear hHeld
      refine hK.out _ _ ?_ (fun hHeld => ?_)
      · exact ⟨fa0, fa1, fa2, fb0, fb1, fb2⟩
      clear hK K
      try simp only [Act.put, List.setIfInBounds_toArray, List.set_cons_zero, List.set_cons_succ]
      refine wpAnyH_ready (rs := [9]) (by kernel_rfl) (by simp) ?_
      refine AllReadyH.cons rfl (fun K hK => ?_) AllReadyH.nil
      go_simp
      clear hHeld
      refine hK.out _ _ ?_ (fun hHeld => ?_)
      · exact ⟨fa0, fa1, fa2, fb0, fb1, fb2⟩
      clear hK K
      try simp only [Act.put, List.setIfInBounds_toArray, List.set_cons_zero, List.set_cons_succ]
      refine wpAnyH_ready (rs := [10]) (by kernel_rfl) (by simp) ?_
      refine AllReadyH.cons rfl (fun K hK => ?_) AllReadyH.nil
      go_simp
      clear hHeld
      refine hK.out _ _ ?_ (fun hHeld => ?_)
      · exact ⟨fa0, fa1, fa2, fb0, fb1, fb2⟩
      clear hK K
      try simp only [Act.put, List.setIfInBounds_toArray, List.set_cons_zero, List.set_cons_succ]
      refine wpAnyH_ready (rs := [11]) (by kernel_rfl) (by simp) ?_
      refine AllReadyH.cons rfl (fun K hK => ?_) AllReadyH.nil
      go_simp
      clear hHeld
      refine hK.out _ _ ?_ (fun hHeld => ?_)
      · exact ⟨fa0, fa1, fa2, fb0, fb1, fb2⟩
      clear hK K
      try simp only [Act.put, List.setIfInBounds_toArray, List.set_cons_zero, List.set_cons_succ]
      refine wpAnyH_done (by kernel_rfl) ?_ _
      rw [HQ2.out]
      go_wp2
      go_ret
      exact ⟨rfl, (below_step HB.out Z3.out)⟩
    · go_simp
      clear hHeld
      refine hK.out _ _ ?_ (fun hHeld => ?_)
      · exact ⟨fa0, fa1, fa2, fb0, fb1, fb2⟩
      clear hK K
      try simp only [Act.put, List.setIfInBounds_toArray, List.set_cons_zero, List.set_cons_succ]
      refine wpAnyH_ready (rs := [5]) (by kernel_rfl) (by simp) ?_
      refine AllReadyH.cons rfl (fun K hK => ?_) AllReadyH.nil
      go_simp
      clear hHeld
      refine hK.out _ _ ?_ (fun hHeld => ?_)
      · exact ⟨fa0, fa1, fa2, fb0, fb1, fb2⟩
      clear hK K
      try simp only [Act.put, List.setIfInBounds_toArray, List.set_cons_zero, List.set_cons_succ]
      refine wpAnyH_ready (rs := [9]) (by kernel_rfl) (by simp) ?_
      refine AllReadyH.cons rfl (fun K hK => ?_) AllReadyH.nil
      go_simp
      clear hHeld
      refine hK.out _ _ ?_ (fun hHeld => ?_)
      · exact ⟨fa0, fa1, fa2, fb0, fb1, fb2⟩
      clear hK K
      try simp only [Act.put, List.setIfInBounds_toArray, List.set_cons_zero, List.set_cons_succ]
      refine wpAnyH_ready (rs := [10]) (by kernel_rfl) (by simp) ?_
      refine AllReadyH.cons rfl (fun K hK => ?_) AllReadyH.nil
      go_simp
      clear hHeld
      refine hK.out _ _ ?_ (fun hHeld => ?_)
      · exact ⟨fa0, fa1, fa2, fb0, fb1, fb2⟩
      clear hK K
      try simp only [Act.put, List.setIfInBounds_toArray, List.set_cons_zero, List.set_cons_succ]
      refine wpAnyH_ready (rs := [11]) (by kernel_rfl) (by simp) ?_
      refine AllReadyH.cons rfl (fun K hK => ?_) AllReadyH.nil
      go_simp
      clear hHeld
      refine hK.out _ _ ?_ (fun hHeld => ?_)
      · exact ⟨fa0, fa1, fa2, fb0, fb1, fb2⟩
      clear hK K
      try simp only [Act.put, List.setIfInBounds_toArray, List.set_cons_zero, List.set_cons_succ]
      refine wpAnyH_done (by kernel_rfl) ?_ _
      rw [HQ2.out]
      go_wp2
      go_ret
      exact ⟨rfl, (below_step HB.out Z3.out)⟩
end Go.Proofs.YtmcddoolniaehaaGreat.S
end
