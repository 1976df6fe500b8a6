/- PeerTells: it answers true. By hand: one call behind the other. -/
import Derived.Test.YtameeejfkgoheaaPNPure
import Derived.Test.YtameeejfkgoheaaPHAwake
import Derived.Test.YtameeejfkgoheaaPNRJoin
import Derived.Test.YtameeejfkgoheaaPNRLeave
import Derived.Test.YtameeejfkgoheaaPNTPure
namespace Go.Proofs.Ytameeejfkgoheaa.P
open Go.RowKit Go.Proofs.YtameeejfkgoheaaW.PrintWords Go.Proofs.YtameeejfkgoheaaW.PrintLast Go.Proofs.YtameeejfkgoheaaW.PrintMore Go.Proofs.YtameeejfkgoheaaW
set_option linter.unusedVariables false
set_option linter.unusedSimpArgs false
set_option maxHeartbeats 8000000 in
set_option maxRecDepth 100000 in
theorem peerTells_calls (cs : List Value) (n : Nd) (p x s : Int) (w : World) (hn : NodeIs w cs n) (hx : (Lit.int .u32 x).wf = true) :
    Calls Try.prog 7 #[.agg cs.toArray, .int .i64 p, .int .u32 x, .int .i64 s] w fun e w' => e = .returned (.bool true) ∧ Below w.heap.size w w' := by
  have Nn := Aside0.mk (hn.below (below_alloc (Below.refl w.heap.size w) (.cells cs.toArray 37)))
  obtain ⟨dA, dc, lA, lc, tA, tc, pA, pc, hcs, h1, h2, h3, h4, h5⟩ := hn
  have HP := Aside0.mk h4
  have hp63 := h4.2.1
  have Hn := Aside0.mk (blk_new w (.cells cs.toArray 37))
  have HB := Aside0.mk (below_alloc (Below.refl w.heap.size w) (.cells cs.toArray 37))
  have HCS := Aside0.mk hcs
  have H5 := Aside0.mk h5
  obtain ⟨hx0, hx1⟩ : 0 ≤ x ∧ x < 4294967296 := by obtain ⟨m, hm, rfl⟩ := u32_nat hx; omega
  clear h1 h2 h3 h4 h5 hcs hx
  generalize cs = X at *
  go_enter Try.func7, Try.ntmps7
  go_wp2_with fail
  refine (law19_awake.calls true _ awake_some).mono ?_
  rintro e V0 ⟨rfl, hb0⟩
  replace Hn := Aside0.mk (blk_below Hn.out hb0)
  replace Nn := Aside0.mk (Nn.out.below hb0)
  replace HB := Aside0.mk (below_step HB.out hb0)
  clear hb0
  go_wp2_with (first
    | (refine wpList_load_mid (by rfl) 37 _ (by rfl) w.heap.size 0 (by rfl) X _ (range_of_blk (t := 37) Hn.out) Try.underlying37 rfl (by rw [Nn.out.len]; exact info_N) ?_; go_frame))
  have hcn := fewN_calls X n _ Nn.out
  obtain ⟨qf, hqf⟩ : ∃ q, q = fewN n := ⟨_, rfl⟩
  rw [← hqf] at hcn
  have HQF := Aside0.mk hqf
  clear hqf
  refine hcn.mono ?_
  rintro e V9 ⟨rfl, hb9⟩
  clear hcn
  replace Hn := Aside0.mk (blk_below Hn.out hb9)
  replace Nn := Aside0.mk (Nn.out.below hb9)
  replace HB := Aside0.mk (below_step HB.out hb9)
  clear hb9
  cases qf with
  | false =>
    go_wp2
    go_ret
    exact ⟨rfl, HB.out⟩
  | true =>
  obtain ⟨hfit, hp20⟩ := few_fit HQF.out.symm
  have Fn := Aside0.mk hfit
  clear hfit
  obtain ⟨⟨Jn, Je⟩, hJ⟩ : ∃ r, joinN n p = r := ⟨_, rfl⟩
  obtain ⟨⟨Ln, Le⟩, hL⟩ : ∃ r, leaveN n p = r := ⟨_, rfl⟩
  have HJ := Aside0.mk hJ
  have HL := Aside0.mk hL
  clear hJ hL
  have HS1 : Aside0 (sameN Jn Jn = true) := ⟨decide_eq_true rfl⟩
  have HS2 : Aside0 (sameN Ln Ln = true) := ⟨decide_eq_true rfl⟩
  obtain ⟨r1, r2, hpk, hqk⟩ := pick_both n.peers x hp20 hx0 hx1
  have HPK := Aside0.mk hpk
  have HQK := Aside0.mk hqk
  clear hpk hqk hp20
  obtain ⟨r3, hnx, hnr⟩ := next_both x hx0 hx1
  have HNX := Aside0.mk hnx
  have HNR := Aside0.mk hnr
  clear hnx hnr
  obtain ⟨r4, hwt, hwr⟩ := wait_both s
  have HWT := Aside0.mk hwt
  have HWR := Aside0.mk hwr
  clear hwt hwr
  go_wp2_with (first
    | (refine wpList_load_mid (by rfl) 37 _ (by rfl) w.heap.size 0 (by rfl) X _ (range_of_blk (t := 37) Hn.out) Try.underlying37 rfl (by rw [Nn.out.len]; exact info_N) ?_; go_frame))
  have hcn := join_calls X n p _ Nn.out Fn.out
  rw [HJ.out] at hcn
  refine hcn.mono ?_
  rintro e V1 ⟨csa, rfl, hN1, hb1⟩
  clear hcn
  replace Hn := Aside0.mk (blk_below Hn.out hb1)
  replace Nn := Aside0.mk (Nn.out.below hb1)
  replace HB := Aside0.mk (below_step HB.out hb1)
  have Na := Aside0.mk hN1
  clear hN1 hb1
  go_wp2_with (first
    | (refine wpList_load_mid (by rfl) 37 _ (by rfl) w.heap.size 0 (by rfl) X _ (range_of_blk (t := 37) Hn.out) Try.underlying37 rfl (by rw [Nn.out.len]; exact info_N) ?_; go_frame)
    | (refine wpl_allocN (by rfl) (by rfl) ?_; go_frame)
    | (refine wpl_store_newA 37 V1 zeroV.toArray csa Na.out.one (by rw [Na.out.len]; exact info_N) (by rfl) (by rw [Na.out.len]; rfl) (by rfl) _ _ (by rfl) (by rfl) (by rfl) ?_; intro U2 hbk2 hBk2 hsk2; replace Hn := Aside0.mk (blk_below Hn.out hBk2); replace Nn := Aside0.mk (Nn.out.below hBk2); replace Na := Aside0.mk (Na.out.below hBk2); replace HB := Aside0.mk (below_step HB.out hBk2); have Ha := Aside0.mk hbk2; clear hbk2 hBk2 hsk2; go_frame)
    | (refine wpList_load_mid (by rfl) 37 _ (by rfl) V1.heap.size 0 (by rfl) csa _ (range_of_blk (t := 37) Ha.out) Try.underlying37 rfl (by rw [Na.out.len]; exact info_N) ?_; go_frame))
  have hcn := rjoin_calls X n p _ Nn.out Fn.out
  rw [HJ.out] at hcn
  refine hcn.mono ?_
  rintro e V3 ⟨csb, rfl, hN3, hb3⟩
  clear hcn
  replace Hn := Aside0.mk (blk_below Hn.out hb3)
  replace Nn := Aside0.mk (Nn.out.below hb3)
  replace Ha := Aside0.mk (blk_below Ha.out hb3)
  replace Na := Aside0.mk (Na.out.below hb3)
  replace HB := Aside0.mk (below_step HB.out hb3)
  have Nb := Aside0.mk hN3
  clear hN3 hb3
  go_wp2_with (first
    | (refine wpList_load_mid (by rfl) 37 _ (by rfl) w.heap.size 0 (by rfl) X _ (range_of_blk (t := 37) Hn.out) Try.underlying37 rfl (by rw [Nn.out.len]; exact info_N) ?_; go_frame)
    | (refine wpList_load_mid (by rfl) 37 _ (by rfl) V1.heap.size 0 (by rfl) csa _ (range_of_blk (t := 37) Ha.out) Try.underlying37 rfl (by rw [Na.out.len]; exact info_N) ?_; go_frame)
    | (refine wpl_allocN (by rfl) (by rfl) ?_; go_frame)
    | (refine wpl_store_newA 37 V3 zeroV.toArray csb Nb.out.one (by rw [Nb.out.len]; exact info_N) (by rfl) (by rw [Nb.out.len]; rfl) (by rfl) _ _ (by rfl) (by rfl) (by rfl) ?_; intro U4 hbk4 hBk4 hsk4; replace Hn := Aside0.mk (blk_below Hn.out hBk4); replace Nn := Aside0.mk (Nn.out.below hBk4); replace Ha := Aside0.mk (blk_below Ha.out hBk4); replace Na := Aside0.mk (Na.out.below hBk4); replace Nb := Aside0.mk (Nb.out.below hBk4); replace HB := Aside0.mk (below_step HB.out hBk4); have Hb := Aside0.mk hbk4; clear hbk4 hBk4 hsk4; go_frame)
    | (refine wpList_load_mid (by rfl) 37 _ (by rfl) V3.heap.size 0 (by rfl) csb _ (range_of_blk (t := 37) Hb.out) Try.underlying37 rfl (by rw [Nb.out.len]; exact info_N) ?_; go_frame))
  have hcn := sameN_calls csa _ csb _ _ Na.out Nb.out
  rw [HS1.out] at hcn
  refine hcn.mono ?_
  rintro e V5 ⟨rfl, hb5⟩
  clear hcn
  replace Hn := Aside0.mk (blk_below Hn.out hb5)
  replace Nn := Aside0.mk (Nn.out.below hb5)
  replace Ha := Aside0.mk (blk_below Ha.out hb5)
  replace Na := Aside0.mk (Na.out.below hb5)
  replace Hb := Aside0.mk (blk_below Hb.out hb5)
  replace Nb := Aside0.mk (Nb.out.below hb5)
  replace HB := Aside0.mk (below_step HB.out hb5)
  clear hb5
  go_wp2_with (first
    | (refine wpList_load_mid (by rfl) 37 _ (by rfl) w.heap.size 0 (by rfl) X _ (range_of_blk (t := 37) Hn.out) Try.underlying37 rfl (by rw [Nn.out.len]; exact info_N) ?_; go_frame)
    | (refine wpList_load_mid (by rfl) 37 _ (by rfl) V1.heap.size 0 (by rfl) csa _ (range_of_blk (t := 37) Ha.out) Try.underlying37 rfl (by rw [Na.out.len]; exact info_N) ?_; go_frame)
    | (refine wpList_load_mid (by rfl) 37 _ (by rfl) V3.heap.size 0 (by rfl) csb _ (range_of_blk (t := 37) Hb.out) Try.underlying37 rfl (by rw [Nb.out.len]; exact info_N) ?_; go_frame))
  have hcn := leave_calls X n p _ Nn.out Fn.out
  rw [HL.out] at hcn
  refine hcn.mono ?_
  rintro e V6 ⟨csc, rfl, hN6, hb6⟩
  clear hcn
  replace Hn := Aside0.mk (blk_below Hn.out hb6)
  replace Nn := Aside0.mk (Nn.out.below hb6)
  replace Ha := Aside0.mk (blk_below Ha.out hb6)
  replace Na := Aside0.mk (Na.out.below hb6)
  replace Hb := Aside0.mk (blk_below Hb.out hb6)
  replace Nb := Aside0.mk (Nb.out.below hb6)
  replace HB := Aside0.mk (below_step HB.out hb6)
  have Nc := Aside0.mk hN6
  clear hN6 hb6
  go_wp2_with (first
    | (refine wpList_load_mid (by rfl) 37 _ (by rfl) w.heap.size 0 (by rfl) X _ (range_of_blk (t := 37) Hn.out) Try.underlying37 rfl (by rw [Nn.out.len]; exact info_N) ?_; go_frame)
    | (refine wpList_load_mid (by rfl) 37 _ (by rfl) V1.heap.size 0 (by rfl) csa _ (range_of_blk (t := 37) Ha.out) Try.underlying37 rfl (by rw [Na.out.len]; exact info_N) ?_; go_frame)
    | (refine wpList_load_mid (by rfl) 37 _ (by rfl) V3.heap.size 0 (by rfl) csb _ (range_of_blk (t := 37) Hb.out) Try.underlying37 rfl (by rw [Nb.out.len]; exact info_N) ?_; go_frame)
    | (refine wpl_allocN (by rfl) (by rfl) ?_; go_frame)
    | (refine wpl_store_newA 37 V6 zeroV.toArray csc Nc.out.one (by rw [Nc.out.len]; exact info_N) (by rfl) (by rw [Nc.out.len]; rfl) (by rfl) _ _ (by rfl) (by rfl) (by rfl) ?_; intro U7 hbk7 hBk7 hsk7; replace Hn := Aside0.mk (blk_below Hn.out hBk7); replace Nn := Aside0.mk (Nn.out.below hBk7); replace Ha := Aside0.mk (blk_below Ha.out hBk7); replace Na := Aside0.mk (Na.out.below hBk7); replace Hb := Aside0.mk (blk_below Hb.out hBk7); replace Nb := Aside0.mk (Nb.out.below hBk7); replace Nc := Aside0.mk (Nc.out.below hBk7); replace HB := Aside0.mk (below_step HB.out hBk7); have Hc := Aside0.mk hbk7; clear hbk7 hBk7 hsk7; go_frame)
    | (refine wpList_load_mid (by rfl) 37 _ (by rfl) V6.heap.size 0 (by rfl) csc _ (range_of_blk (t := 37) Hc.out) Try.underlying37 rfl (by rw [Nc.out.len]; exact info_N) ?_; go_frame))
  have hcn := rleave_calls X n p _ Nn.out Fn.out
  rw [HL.out] at hcn
  refine hcn.mono ?_
  rintro e V8 ⟨csd, rfl, hN8, hb8⟩
  clear hcn
  replace Hn := Aside0.mk (blk_below Hn.out hb8)
  replace Nn := Aside0.mk (Nn.out.below hb8)
  replace Ha := Aside0.mk (blk_below Ha.out hb8)
  replace Na := Aside0.mk (Na.out.below hb8)
  replace Hb := Aside0.mk (blk_below Hb.out hb8)
  replace Nb := Aside0.mk (Nb.out.below hb8)
  replace Hc := Aside0.mk (blk_below Hc.out hb8)
  replace Nc := Aside0.mk (Nc.out.below hb8)
  replace HB := Aside0.mk (below_step HB.out hb8)
  have Nd := Aside0.mk hN8
  clear hN8 hb8
  go_wp2_with (first
    | (refine wpList_load_mid (by rfl) 37 _ (by rfl) w.heap.size 0 (by rfl) X _ (range_of_blk (t := 37) Hn.out) Try.underlying37 rfl (by rw [Nn.out.len]; exact info_N) ?_; go_frame)
    | (refine wpList_load_mid (by rfl) 37 _ (by rfl) V1.heap.size 0 (by rfl) csa _ (range_of_blk (t := 37) Ha.out) Try.underlying37 rfl (by rw [Na.out.len]; exact info_N) ?_; go_frame)
    | (refine wpList_load_mid (by rfl) 37 _ (by rfl) V3.heap.size 0 (by rfl) csb _ (range_of_blk (t := 37) Hb.out) Try.underlying37 rfl (by rw [Nb.out.len]; exact info_N) ?_; go_frame)
    | (refine wpList_load_mid (by rfl) 37 _ (by rfl) V6.heap.size 0 (by rfl) csc _ (range_of_blk (t := 37) Hc.out) Try.underlying37 rfl (by rw [Nc.out.len]; exact info_N) ?_; go_frame)
    | (refine wpl_allocN (by rfl) (by rfl) ?_; go_frame)
    | (refine wpl_store_newA 37 V8 zeroV.toArray csd Nd.out.one (by rw [Nd.out.len]; exact info_N) (by rfl) (by rw [Nd.out.len]; rfl) (by rfl) _ _ (by rfl) (by rfl) (by rfl) ?_; intro U9 hbk9 hBk9 hsk9; replace Hn := Aside0.mk (blk_below Hn.out hBk9); replace Nn := Aside0.mk (Nn.out.below hBk9); replace Ha := Aside0.mk (blk_below Ha.out hBk9); replace Na := Aside0.mk (Na.out.below hBk9); replace Hb := Aside0.mk (blk_below Hb.out hBk9); replace Nb := Aside0.mk (Nb.out.below hBk9); replace Hc := Aside0.mk (blk_below Hc.out hBk9); replace Nc := Aside0.mk (Nc.out.below hBk9); replace Nd := Aside0.mk (Nd.out.below hBk9); replace HB := Aside0.mk (below_step HB.out hBk9); have Hd := Aside0.mk hbk9; clear hbk9 hBk9 hsk9; go_frame)
    | (refine wpList_load_mid (by rfl) 37 _ (by rfl) V8.heap.size 0 (by rfl) csd _ (range_of_blk (t := 37) Hd.out) Try.underlying37 rfl (by rw [Nd.out.len]; exact info_N) ?_; go_frame))
  have hcn := sameN_calls csc _ csd _ _ Nc.out Nd.out
  rw [HS2.out] at hcn
  refine hcn.mono ?_
  rintro e V10 ⟨rfl, hb10⟩
  clear hcn
  replace Hn := Aside0.mk (blk_below Hn.out hb10)
  replace Nn := Aside0.mk (Nn.out.below hb10)
  replace Ha := Aside0.mk (blk_below Ha.out hb10)
  replace Na := Aside0.mk (Na.out.below hb10)
  replace Hb := Aside0.mk (blk_below Hb.out hb10)
  replace Nb := Aside0.mk (Nb.out.below hb10)
  replace Hc := Aside0.mk (blk_below Hc.out hb10)
  replace Nc := Aside0.mk (Nc.out.below hb10)
  replace Hd := Aside0.mk (blk_below Hd.out hb10)
  replace Nd := Aside0.mk (Nd.out.below hb10)
  replace HB := Aside0.mk (below_step HB.out hb10)
  clear hb10
  have HPz := Aside0.mk (Kd.C_below HP.out HB.out)
  have c7 := (by have h := Hn.out; rw [HCS.out] at h; exact (blk10 h).2.2.2.2.2.2.2.1)
  go_wp2_with (first
    | (refine wpList_load_mid (by rfl) 37 _ (by rfl) w.heap.size 0 (by rfl) X _ (range_of_blk (t := 37) Hn.out) Try.underlying37 rfl (by rw [Nn.out.len]; exact info_N) ?_; go_frame)
    | (refine wpList_load_mid (by rfl) 37 _ (by rfl) V1.heap.size 0 (by rfl) csa _ (range_of_blk (t := 37) Ha.out) Try.underlying37 rfl (by rw [Na.out.len]; exact info_N) ?_; go_frame)
    | (refine wpList_load_mid (by rfl) 37 _ (by rfl) V3.heap.size 0 (by rfl) csb _ (range_of_blk (t := 37) Hb.out) Try.underlying37 rfl (by rw [Nb.out.len]; exact info_N) ?_; go_frame)
    | (refine wpList_load_mid (by rfl) 37 _ (by rfl) V6.heap.size 0 (by rfl) csc _ (range_of_blk (t := 37) Hc.out) Try.underlying37 rfl (by rw [Nc.out.len]; exact info_N) ?_; go_frame)
    | (refine wpList_load_mid (by rfl) 37 _ (by rfl) V8.heap.size 0 (by rfl) csd _ (range_of_blk (t := 37) Hd.out) Try.underlying37 rfl (by rw [Nd.out.len]; exact info_N) ?_; go_frame))
  refine (peer_Pick.calls pA pc n.peers x r1 r2 _ HPz.out H5.out HPK.out).mono ?_
  rintro e V11 ⟨rfl, hd11⟩
  have hb11 := drawn_below hd11
  replace Hn := Aside0.mk (blk_below Hn.out hb11)
  replace Nn := Aside0.mk (Nn.out.below hb11)
  replace Ha := Aside0.mk (blk_below Ha.out hb11)
  replace Na := Aside0.mk (Na.out.below hb11)
  replace Hb := Aside0.mk (blk_below Hb.out hb11)
  replace Nb := Aside0.mk (Nb.out.below hb11)
  replace Hc := Aside0.mk (blk_below Hc.out hb11)
  replace Nc := Aside0.mk (Nc.out.below hb11)
  replace Hd := Aside0.mk (blk_below Hd.out hb11)
  replace Nd := Aside0.mk (Nd.out.below hb11)
  replace HB := Aside0.mk (below_step HB.out hb11)
  clear hb11 hd11
  clear c7 HPz
  have HPz := Aside0.mk (Kd.C_below HP.out HB.out)
  have c7 := (by have h := Hn.out; rw [HCS.out] at h; exact (blk10 h).2.2.2.2.2.2.2.1)
  go_wp2_with (first
    | (refine wpList_load_mid (by rfl) 37 _ (by rfl) w.heap.size 0 (by rfl) X _ (range_of_blk (t := 37) Hn.out) Try.underlying37 rfl (by rw [Nn.out.len]; exact info_N) ?_; go_frame)
    | (refine wpList_load_mid (by rfl) 37 _ (by rfl) V1.heap.size 0 (by rfl) csa _ (range_of_blk (t := 37) Ha.out) Try.underlying37 rfl (by rw [Na.out.len]; exact info_N) ?_; go_frame)
    | (refine wpList_load_mid (by rfl) 37 _ (by rfl) V3.heap.size 0 (by rfl) csb _ (range_of_blk (t := 37) Hb.out) Try.underlying37 rfl (by rw [Nb.out.len]; exact info_N) ?_; go_frame)
    | (refine wpList_load_mid (by rfl) 37 _ (by rfl) V6.heap.size 0 (by rfl) csc _ (range_of_blk (t := 37) Hc.out) Try.underlying37 rfl (by rw [Nc.out.len]; exact info_N) ?_; go_frame)
    | (refine wpList_load_mid (by rfl) 37 _ (by rfl) V8.heap.size 0 (by rfl) csd _ (range_of_blk (t := 37) Hd.out) Try.underlying37 rfl (by rw [Nd.out.len]; exact info_N) ?_; go_frame))
  refine (anabranchref19_Pick.calls pA pc n.peers x r1 r2 _ HPz.out H5.out HQK.out).mono ?_
  rintro e V12 ⟨rfl, hd12⟩
  have hb12 := drawn_below hd12
  replace Hn := Aside0.mk (blk_below Hn.out hb12)
  replace Nn := Aside0.mk (Nn.out.below hb12)
  replace Ha := Aside0.mk (blk_below Ha.out hb12)
  replace Na := Aside0.mk (Na.out.below hb12)
  replace Hb := Aside0.mk (blk_below Hb.out hb12)
  replace Nb := Aside0.mk (Nb.out.below hb12)
  replace Hc := Aside0.mk (blk_below Hc.out hb12)
  replace Nc := Aside0.mk (Nc.out.below hb12)
  replace Hd := Aside0.mk (blk_below Hd.out hb12)
  replace Nd := Aside0.mk (Nd.out.below hb12)
  replace HB := Aside0.mk (below_step HB.out hb12)
  clear hb12 hd12
  clear c7 HPz
  go_wp2_with (first
    | (refine wpList_load_mid (by rfl) 37 _ (by rfl) w.heap.size 0 (by rfl) X _ (range_of_blk (t := 37) Hn.out) Try.underlying37 rfl (by rw [Nn.out.len]; exact info_N) ?_; go_frame)
    | (refine wpList_load_mid (by rfl) 37 _ (by rfl) V1.heap.size 0 (by rfl) csa _ (range_of_blk (t := 37) Ha.out) Try.underlying37 rfl (by rw [Na.out.len]; exact info_N) ?_; go_frame)
    | (refine wpList_load_mid (by rfl) 37 _ (by rfl) V3.heap.size 0 (by rfl) csb _ (range_of_blk (t := 37) Hb.out) Try.underlying37 rfl (by rw [Nb.out.len]; exact info_N) ?_; go_frame)
    | (refine wpList_load_mid (by rfl) 37 _ (by rfl) V6.heap.size 0 (by rfl) csc _ (range_of_blk (t := 37) Hc.out) Try.underlying37 rfl (by rw [Nc.out.len]; exact info_N) ?_; go_frame)
    | (refine wpList_load_mid (by rfl) 37 _ (by rfl) V8.heap.size 0 (by rfl) csd _ (range_of_blk (t := 37) Hd.out) Try.underlying37 rfl (by rw [Nd.out.len]; exact info_N) ?_; go_frame))
  refine (peer_Next.calls x r3 _ HNX.out).mono ?_
  rintro e V13 ⟨rfl, hd13⟩
  have hb13 := drawn_below hd13
  replace Hn := Aside0.mk (blk_below Hn.out hb13)
  replace Nn := Aside0.mk (Nn.out.below hb13)
  replace Ha := Aside0.mk (blk_below Ha.out hb13)
  replace Na := Aside0.mk (Na.out.below hb13)
  replace Hb := Aside0.mk (blk_below Hb.out hb13)
  replace Nb := Aside0.mk (Nb.out.below hb13)
  replace Hc := Aside0.mk (blk_below Hc.out hb13)
  replace Nc := Aside0.mk (Nc.out.below hb13)
  replace Hd := Aside0.mk (blk_below Hd.out hb13)
  replace Nd := Aside0.mk (Nd.out.below hb13)
  replace HB := Aside0.mk (below_step HB.out hb13)
  clear hb13 hd13
  go_wp2_with (first
    | (refine wpList_load_mid (by rfl) 37 _ (by rfl) w.heap.size 0 (by rfl) X _ (range_of_blk (t := 37) Hn.out) Try.underlying37 rfl (by rw [Nn.out.len]; exact info_N) ?_; go_frame)
    | (refine wpList_load_mid (by rfl) 37 _ (by rfl) V1.heap.size 0 (by rfl) csa _ (range_of_blk (t := 37) Ha.out) Try.underlying37 rfl (by rw [Na.out.len]; exact info_N) ?_; go_frame)
    | (refine wpList_load_mid (by rfl) 37 _ (by rfl) V3.heap.size 0 (by rfl) csb _ (range_of_blk (t := 37) Hb.out) Try.underlying37 rfl (by rw [Nb.out.len]; exact info_N) ?_; go_frame)
    | (refine wpList_load_mid (by rfl) 37 _ (by rfl) V6.heap.size 0 (by rfl) csc _ (range_of_blk (t := 37) Hc.out) Try.underlying37 rfl (by rw [Nc.out.len]; exact info_N) ?_; go_frame)
    | (refine wpList_load_mid (by rfl) 37 _ (by rfl) V8.heap.size 0 (by rfl) csd _ (range_of_blk (t := 37) Hd.out) Try.underlying37 rfl (by rw [Nd.out.len]; exact info_N) ?_; go_frame))
  refine (anabranchref19_Next.calls x r3 _ HNR.out).mono ?_
  rintro e V14 ⟨rfl, hd14⟩
  have hb14 := drawn_below hd14
  replace Hn := Aside0.mk (blk_below Hn.out hb14)
  replace Nn := Aside0.mk (Nn.out.below hb14)
  replace Ha := Aside0.mk (blk_below Ha.out hb14)
  replace Na := Aside0.mk (Na.out.below hb14)
  replace Hb := Aside0.mk (blk_below Hb.out hb14)
  replace Nb := Aside0.mk (Nb.out.below hb14)
  replace Hc := Aside0.mk (blk_below Hc.out hb14)
  replace Nc := Aside0.mk (Nc.out.below hb14)
  replace Hd := Aside0.mk (blk_below Hd.out hb14)
  replace Nd := Aside0.mk (Nd.out.below hb14)
  replace HB := Aside0.mk (below_step HB.out hb14)
  clear hb14 hd14
  go_wp2_with (first
    | (refine wpList_load_mid (by rfl) 37 _ (by rfl) w.heap.size 0 (by rfl) X _ (range_of_blk (t := 37) Hn.out) Try.underlying37 rfl (by rw [Nn.out.len]; exact info_N) ?_; go_frame)
    | (refine wpList_load_mid (by rfl) 37 _ (by rfl) V1.heap.size 0 (by rfl) csa _ (range_of_blk (t := 37) Ha.out) Try.underlying37 rfl (by rw [Na.out.len]; exact info_N) ?_; go_frame)
    | (refine wpList_load_mid (by rfl) 37 _ (by rfl) V3.heap.size 0 (by rfl) csb _ (range_of_blk (t := 37) Hb.out) Try.underlying37 rfl (by rw [Nb.out.len]; exact info_N) ?_; go_frame)
    | (refine wpList_load_mid (by rfl) 37 _ (by rfl) V6.heap.size 0 (by rfl) csc _ (range_of_blk (t := 37) Hc.out) Try.underlying37 rfl (by rw [Nc.out.len]; exact info_N) ?_; go_frame)
    | (refine wpList_load_mid (by rfl) 37 _ (by rfl) V8.heap.size 0 (by rfl) csd _ (range_of_blk (t := 37) Hd.out) Try.underlying37 rfl (by rw [Nd.out.len]; exact info_N) ?_; go_frame))
  refine (peer_Wait.calls s r4 _ HWT.out).mono ?_
  rintro e V15 ⟨rfl, hd15⟩
  have hb15 := hd15
  replace Hn := Aside0.mk (blk_below Hn.out hb15)
  replace Nn := Aside0.mk (Nn.out.below hb15)
  replace Ha := Aside0.mk (blk_below Ha.out hb15)
  replace Na := Aside0.mk (Na.out.below hb15)
  replace Hb := Aside0.mk (blk_below Hb.out hb15)
  replace Nb := Aside0.mk (Nb.out.below hb15)
  replace Hc := Aside0.mk (blk_below Hc.out hb15)
  replace Nc := Aside0.mk (Nc.out.below hb15)
  replace Hd := Aside0.mk (blk_below Hd.out hb15)
  replace Nd := Aside0.mk (Nd.out.below hb15)
  replace HB := Aside0.mk (below_step HB.out hb15)
  clear hb15 hd15
  go_wp2_with (first
    | (refine wpList_load_mid (by rfl) 37 _ (by rfl) w.heap.size 0 (by rfl) X _ (range_of_blk (t := 37) Hn.out) Try.underlying37 rfl (by rw [Nn.out.len]; exact info_N) ?_; go_frame)
    | (refine wpList_load_mid (by rfl) 37 _ (by rfl) V1.heap.size 0 (by rfl) csa _ (range_of_blk (t := 37) Ha.out) Try.underlying37 rfl (by rw [Na.out.len]; exact info_N) ?_; go_frame)
    | (refine wpList_load_mid (by rfl) 37 _ (by rfl) V3.heap.size 0 (by rfl) csb _ (range_of_blk (t := 37) Hb.out) Try.underlying37 rfl (by rw [Nb.out.len]; exact info_N) ?_; go_frame)
    | (refine wpList_load_mid (by rfl) 37 _ (by rfl) V6.heap.size 0 (by rfl) csc _ (range_of_blk (t := 37) Hc.out) Try.underlying37 rfl (by rw [Nc.out.len]; exact info_N) ?_; go_frame)
    | (refine wpList_load_mid (by rfl) 37 _ (by rfl) V8.heap.size 0 (by rfl) csd _ (range_of_blk (t := 37) Hd.out) Try.underlying37 rfl (by rw [Nd.out.len]; exact info_N) ?_; go_frame))
  refine (anabranchref19_Wait.calls 9 s r4 _ HWR.out).mono ?_
  rintro e V16 ⟨rfl, hd16⟩
  have hb16 := drawn_below hd16
  replace Hn := Aside0.mk (blk_below Hn.out hb16)
  replace Nn := Aside0.mk (Nn.out.below hb16)
  replace Ha := Aside0.mk (blk_below Ha.out hb16)
  replace Na := Aside0.mk (Na.out.below hb16)
  replace Hb := Aside0.mk (blk_below Hb.out hb16)
  replace Nb := Aside0.mk (Nb.out.below hb16)
  replace Hc := Aside0.mk (blk_below Hc.out hb16)
  replace Nc := Aside0.mk (Nc.out.below hb16)
  replace Hd := Aside0.mk (blk_below Hd.out hb16)
  replace Nd := Aside0.mk (Nd.out.below hb16)
  replace HB := Aside0.mk (below_step HB.out hb16)
  clear hb16 hd16
  go_wp2_with (first
    | (refine wpList_load_mid (by rfl) 37 _ (by rfl) w.heap.size 0 (by rfl) X _ (range_of_blk (t := 37) Hn.out) Try.underlying37 rfl (by rw [Nn.out.len]; exact info_N) ?_; go_frame)
    | (refine wpList_load_mid (by rfl) 37 _ (by rfl) V1.heap.size 0 (by rfl) csa _ (range_of_blk (t := 37) Ha.out) Try.underlying37 rfl (by rw [Na.out.len]; exact info_N) ?_; go_frame)
    | (refine wpList_load_mid (by rfl) 37 _ (by rfl) V3.heap.size 0 (by rfl) csb _ (range_of_blk (t := 37) Hb.out) Try.underlying37 rfl (by rw [Nb.out.len]; exact info_N) ?_; go_frame)
    | (refine wpList_load_mid (by rfl) 37 _ (by rfl) V6.heap.size 0 (by rfl) csc _ (range_of_blk (t := 37) Hc.out) Try.underlying37 rfl (by rw [Nc.out.len]; exact info_N) ?_; go_frame)
    | (refine wpList_load_mid (by rfl) 37 _ (by rfl) V8.heap.size 0 (by rfl) csd _ (range_of_blk (t := 37) Hd.out) Try.underlying37 rfl (by rw [Nd.out.len]; exact info_N) ?_; go_frame))
  go_ret
  exact ⟨rfl, HB.out⟩
end Go.Proofs.Ytameeejfkgoheaa.P
