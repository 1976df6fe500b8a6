/- Several of the walk's texts in one: SLawDoes. -/
import Derived.Laws.BitsAllLaws
import Derived.Laws.BytesArg
import Derived.RegionTactic
import Derived.Deep.RegionHeld3
import Derived.Deep.DrawnRows
import Derived.Deep.DeepCutAuto
import Derived.Test.YtmcddoolniaehaaGreatMD21
import Derived.Test.YtmcddoolniaehaaGreatMD25
import Derived.Test.YtmcddoolniaehaaGreatMD28
section
namespace Go.Proofs.YtmcddoolniaehaaGreat.S
open Go.RowKit Go.Proofs.YtmcddoolniaehaaGreatW.PrintWords Go.Proofs.YtmcddoolniaehaaGreatW.PrintLast Go.Proofs.YtmcddoolniaehaaGreatW.PrintMore Go.Proofs.YtmcddoolniaehaaGreatW
set_option linter.unusedVariables false
set_option linter.unusedSimpArgs false
theorem box3 (w : World) (o0 o1 o2 : Obj) : Below w.heap.size w (((w.alloc o0).alloc o1).alloc o2) ∧ (((w.alloc o0).alloc o1).alloc o2).heap[w.heap.size]? = some o0 ∧ (((w.alloc o0).alloc o1).alloc o2).heap[w.heap.size + 1]? = some o1 ∧ (((w.alloc o0).alloc o1).alloc o2).heap[w.heap.size + 2]? = some o2 := by
  have h1 := blk_new (w.alloc o0) o1
  have h2 := blk_new ((w.alloc o0).alloc o1) o2
  simp only [World.size_alloc, Nat.add_assoc, Nat.reduceAdd] at h1 h2
  exact ⟨below_alloc (below_alloc (below_alloc (Below.refl _ w) _) _) _, blk_alloc (blk_alloc (blk_new w o0) _) _, blk_alloc (h1) _, h2⟩
theorem putS_pos (c : List Ct) (r : List Rg) (p : List Pr) : 0 < (putS c r p).length := by
  unfold putS
  have := numL_pos (c.length : Int).toNat
  simp only [List.length_append, List.flatMap_cons, List.flatMap_nil, List.length_nil]
  have h : 0 < (numI (c.length : Int)).length := numL_pos _
  omega
theorem conv_run {W : World} {b0 : Nat} {ok : Nat → Prop} {v : Value} {xs : List Int} (h : Kd.R (Kd.int .u8) 5 W b0 ok v xs) (hp : 0 < xs.length) : (convert 37 9 v).run Tryz.prog W = .ok (.string (strOfNums xs)) W := by
  obtain ⟨g, cap, rfl, _, _, _⟩ := Kd.R_form h hp
  refine run_convert_bytes_arg W 37 5 Tryz.underlying37 Tryz.underlying5 g 0 xs.length cap xs rfl (fun i hi => ?_) 9 Tryz.underlying9
  have := (Kd.R_cell (enc := Value.int .u8) (d := 0) h (i : Int) (by omega) (by omega)).1
  rw [Nat.zero_add]
  simpa [rdOf] using this
set_option maxHeartbeats 8000000 in
set_option maxRecDepth 100000 in
theorem does_calls (cs : List Value) (s : St) (k : Int) (x y : ByteArray) (n node seq gen : Int) (w : World) (hs : StV w cs s) (os : okL s.p) (is : inL s.c) (wx : okT x) (wy : okT y) :
    Calls Tryz.prog 3 #[.agg cs.toArray, .agg #[.int .i64 k, .string x, .string y, .int .i64 n], .agg #[.int .i64 node, .int .i64 seq], .int .i64 gen] w fun e w' => e = .returned (.bool true) ∧ Below w.heap.size w w' := by
  obtain ⟨hB, b0, b1, b2⟩ := box3 w (.cells cs.toArray 26) (.cells #[.int .i64 k, .string x, .string y, .int .i64 n] 28) (.cells #[.int .i64 node, .int .i64 seq] 30)
  have Ns := Aside0.mk (hs.below hB)
  have Hs := Aside0.mk b0
  have Ho := Aside0.mk b1
  have Hv := Aside0.mk b2
  have HB := Aside0.mk hB
  clear hB b0 b1 b2 hs
  go_enter Tryz.func3, Tryz.ntmps3
  go_wp2_with fail
  revert Ns Hs Ho Hv HB
  generalize (((w.alloc (.cells cs.toArray 26)).alloc (.cells #[.int .i64 k, .string x, .string y, .int .i64 n] 28)).alloc (.cells #[.int .i64 node, .int .i64 seq] 30)) = W
  intro Ns Hs Ho Hv HB
  generalize cs = Xs at *
  refine (awake_calls _).mono ?_
  rintro e V0 ⟨rfl, hb0⟩
  replace Hs := Aside0.mk (blk_below Hs.out hb0)
  replace Ns := Aside0.mk (Ns.out.below hb0)
  replace Ho := Aside0.mk (blk_below Ho.out hb0)
  replace Hv := Aside0.mk (blk_below Hv.out hb0)
  replace HB := Aside0.mk (below_step HB.out hb0)
  clear hb0
  go_wp2_with (first
    | (refine ld_st Hs Ns (by rfl) _ (by rfl) (by rfl) ?_; go_frame)
    | (refine ld_on Hs Ns (by rfl) _ (by rfl) (by rfl) ?_; go_frame)
    | (refine ld_op Ho (by rfl) _ (by rfl) (by rfl) ?_; go_frame)
    | (refine ld_ev Hv (by rfl) _ (by rfl) (by rfl) ?_; go_frame))
  have hcn := few_calls Ns.out
  obtain ⟨qs, hqs⟩ : ∃ q, q = fewS s := ⟨_, rfl⟩
  rw [← hqs] at hcn
  have Qs := Aside0.mk hqs
  clear hqs
  refine hcn.mono ?_
  rintro e V1 ⟨rfl, hb1⟩
  clear hcn
  replace Hs := Aside0.mk (blk_below Hs.out hb1)
  replace Ns := Aside0.mk (Ns.out.below hb1)
  replace Ho := Aside0.mk (blk_below Ho.out hb1)
  replace Hv := Aside0.mk (blk_below Hv.out hb1)
  replace HB := Aside0.mk (below_step HB.out hb1)
  clear hb1
  obtain ⟨o0, o1, o2, o3⟩ := cells4 Ho.out
  cases qs with
  | false =>
    go_wp2
    go_ret
    exact ⟨rfl, HB.out⟩
  | true =>
  have Fs := Aside0.mk (few_fit Qs.out.symm os)
  have Rs := Aside0.mk (few_fitR Qs.out.symm os)
  clear Qs
  by_cases hx : 100 < (x.size : Int)
  · go_wp2
    go_ret
    exact ⟨rfl, HB.out⟩
  by_cases hy : 100 < (y.size : Int)
  · go_wp2
    go_ret
    exact ⟨rfl, HB.out⟩
  have HX : Aside0 (x.size ≤ 100) := ⟨by omega⟩
  have HY : Aside0 (y.size ≤ 100) := ⟨by omega⟩
  have HDa := Aside0.mk (fun (W : World) (cs : List Value) (h : StV W cs s) => do_calls k n node seq gen h (Fs.out.up (show 30 ≤ 500 by decide)) wx wy)
  have HDb := Aside0.mk (fun (W : World) (cs : List Value) (h : StV W cs s) => r9do_calls k n node seq gen h Rs.out is HX.out HY.out)
  have f1 := do_fit k n node seq gen (key := x) (elem := y) Fs.out
  obtain ⟨M, hM⟩ : ∃ M, M = doS s k x y n node seq gen := ⟨_, rfl⟩
  rw [← hM] at f1 HDa HDb
  obtain ⟨X, ex⟩ := M
  dsimp only at f1 HDa HDb
  have FX := Aside0.mk (f1.up (show 30 + 1 ≤ 900 by decide))
  have SX : Aside0 (sameS X X = true) := ⟨sameS_iff.2 rfl⟩
  clear f1 hM
  have HMa := Aside0.mk (fun (W : World) (cs : List Value) (h : StV W cs s) => may_calls h (Fs.out.up (show 30 ≤ 1000 by decide)))
  have HMb := Aside0.mk (fun (W : World) (cs : List Value) (h : StV W cs s) => rmay_calls h Rs.out)
  have HPa : Aside0 (∀ (W : World) (cs : List Value), StV W cs s → Calls Tryz.prog 16 #[.agg cs.toArray] W fun e w1 => ∃ v, e = .returned v ∧ (∀ W2 : World, Below w1.heap.size w1 W2 → (convert 37 9 v).run Tryz.prog W2 = .ok (.string (strOfNums (putS s.c s.r s.p))) W2) ∧ Below W.heap.size W w1) := ⟨fun W cs h => (put_calls2 h (Fs.out.up (show 30 ≤ 1000 by decide)) (fun z hz => by have := Rs.out.2 z hz; omega)).mono (by rintro e w1 ⟨A, c, rfl, hr, hb⟩; exact ⟨_, rfl, fun W2 hB => conv_run (Kd.R_below hr hB) (putS_pos _ _ _), hb⟩)⟩
  have HPb : Aside0 (∀ (W : World) (cs : List Value), StV W cs s → Calls Tryz.prog 17 #[.agg cs.toArray] W fun e w1 => ∃ v, e = .returned v ∧ (∀ W2 : World, Below w1.heap.size w1 W2 → (convert 37 9 v).run Tryz.prog W2 = .ok (.string (strOfNums (putS s.c s.r s.p))) W2) ∧ Below W.heap.size W w1) := ⟨fun W cs h => (r9put_calls h Rs.out is).mono (by rintro e w1 ⟨v, rfl, hr, hb⟩; exact ⟨v, rfl, fun W2 hB => conv_run (Kd.R_below hr hB) (putS_pos _ _ _), hb⟩)⟩
  generalize strOfNums (putS s.c s.r s.p) = pa at *
  generalize mayS s = m at *
  clear Fs Rs HX HY
  go_wp2_with (first
    | (refine ld_st Hs Ns (by rfl) _ (by rfl) (by rfl) ?_; go_frame)
    | (refine ld_on Hs Ns (by rfl) _ (by rfl) (by rfl) ?_; go_frame)
    | (refine ld_op Ho (by rfl) _ (by rfl) (by rfl) ?_; go_frame)
    | (refine ld_ev Hv (by rfl) _ (by rfl) (by rfl) ?_; go_frame))
  have hcn := HDa.out _ _ Ns.out
  try dsimp only at hcn
  refine hcn.mono ?_
  rintro e V2 ⟨csa, rfl, hN2, hb2⟩
  clear hcn
  replace Hs := Aside0.mk (blk_below Hs.out hb2)
  replace Ns := Aside0.mk (Ns.out.below hb2)
  replace Ho := Aside0.mk (blk_below Ho.out hb2)
  replace Hv := Aside0.mk (blk_below Hv.out hb2)
  replace HB := Aside0.mk (below_step HB.out hb2)
  have Na := Aside0.mk hN2
  clear hN2 hb2
  go_wp2_with (first
    | (refine ld_st Hs Ns (by rfl) _ (by rfl) (by rfl) ?_; go_frame)
    | (refine ld_on Hs Ns (by rfl) _ (by rfl) (by rfl) ?_; go_frame)
    | (refine ld_op Ho (by rfl) _ (by rfl) (by rfl) ?_; go_frame)
    | (refine ld_ev Hv (by rfl) _ (by rfl) (by rfl) ?_; go_frame)
    | (refine sv_st Na (by rfl) (by rfl) _ _ (by rfl) (by rfl) (by rfl) ?_; intro U3 hbk3 hBk3 hsk3; replace Hs := Aside0.mk (blk_below Hs.out hBk3); replace Ns := Aside0.mk (Ns.out.below hBk3); replace Ho := Aside0.mk (blk_below Ho.out hBk3); replace Hv := Aside0.mk (blk_below Hv.out hBk3); replace Na := Aside0.mk (Na.out.below hBk3); replace HB := Aside0.mk (below_step HB.out hBk3); have Ha := Aside0.mk hbk3; clear hbk3 hBk3 hsk3; go_frame)
    | (refine ld_st Ha Na (by rfl) _ (by rfl) (by rfl) ?_; go_frame)
    | (refine ld_on Ha Na (by rfl) _ (by rfl) (by rfl) ?_; go_frame))
  have hcn := HDb.out _ _ Ns.out
  try dsimp only at hcn
  refine hcn.mono ?_
  rintro e V4 ⟨csb, rfl, hN4, hb4⟩
  clear hcn
  replace Hs := Aside0.mk (blk_below Hs.out hb4)
  replace Ns := Aside0.mk (Ns.out.below hb4)
  replace Ho := Aside0.mk (blk_below Ho.out hb4)
  replace Hv := Aside0.mk (blk_below Hv.out hb4)
  replace Ha := Aside0.mk (blk_below Ha.out hb4)
  replace Na := Aside0.mk (Na.out.below hb4)
  replace HB := Aside0.mk (below_step HB.out hb4)
  have Nb := Aside0.mk hN4
  clear hN4 hb4
  go_wp2_with (first
    | (refine ld_st Hs Ns (by rfl) _ (by rfl) (by rfl) ?_; go_frame)
    | (refine ld_on Hs Ns (by rfl) _ (by rfl) (by rfl) ?_; go_frame)
    | (refine ld_st Ha Na (by rfl) _ (by rfl) (by rfl) ?_; go_frame)
    | (refine ld_on Ha Na (by rfl) _ (by rfl) (by rfl) ?_; go_frame)
    | (refine ld_op Ho (by rfl) _ (by rfl) (by rfl) ?_; go_frame)
    | (refine ld_ev Hv (by rfl) _ (by rfl) (by rfl) ?_; go_frame)
    | (refine sv_st Nb (by rfl) (by rfl) _ _ (by rfl) (by rfl) (by rfl) ?_; intro U5 hbk5 hBk5 hsk5; replace Hs := Aside0.mk (blk_below Hs.out hBk5); replace Ns := Aside0.mk (Ns.out.below hBk5); replace Ho := Aside0.mk (blk_below Ho.out hBk5); replace Hv := Aside0.mk (blk_below Hv.out hBk5); replace Ha := Aside0.mk (blk_below Ha.out hBk5); replace Na := Aside0.mk (Na.out.below hBk5); replace Nb := Aside0.mk (Nb.out.below hBk5); replace HB := Aside0.mk (below_step HB.out hBk5); have Hb := Aside0.mk hbk5; clear hbk5 hBk5 hsk5; go_frame)
    | (refine ld_st Hb Nb (by rfl) _ (by rfl) (by rfl) ?_; go_frame)
    | (refine ld_on Hb Nb (by rfl) _ (by rfl) (by rfl) ?_; go_frame))
  have hcn := rsame_calls Na.out Nb.out FX.out
  rw [SX.out] at hcn
  refine hcn.mono ?_
  rintro e V6 ⟨rfl, hb6⟩
  clear hcn
  replace Hs := Aside0.mk (blk_below Hs.out hb6)
  replace Ns := Aside0.mk (Ns.out.below hb6)
  replace Ho := Aside0.mk (blk_below Ho.out hb6)
  replace Hv := Aside0.mk (blk_below Hv.out hb6)
  replace Ha := Aside0.mk (blk_below Ha.out hb6)
  replace Na := Aside0.mk (Na.out.below hb6)
  replace Hb := Aside0.mk (blk_below Hb.out hb6)
  replace Nb := Aside0.mk (Nb.out.below hb6)
  replace HB := Aside0.mk (below_step HB.out hb6)
  clear hb6
  go_wp2_with (first
    | (refine ld_st Hs Ns (by rfl) _ (by rfl) (by rfl) ?_; go_frame)
    | (refine ld_on Hs Ns (by rfl) _ (by rfl) (by rfl) ?_; go_frame)
    | (refine ld_st Ha Na (by rfl) _ (by rfl) (by rfl) ?_; go_frame)
    | (refine ld_on Ha Na (by rfl) _ (by rfl) (by rfl) ?_; go_frame)
    | (refine ld_st Hb Nb (by rfl) _ (by rfl) (by rfl) ?_; go_frame)
    | (refine ld_on Hb Nb (by rfl) _ (by rfl) (by rfl) ?_; go_frame)
    | (refine ld_op Ho (by rfl) _ (by rfl) (by rfl) ?_; go_frame)
    | (refine ld_ev Hv (by rfl) _ (by rfl) (by rfl) ?_; go_frame))
  have hcn := HMb.out _ _ Ns.out
  refine hcn.mono ?_
  rintro e V7 ⟨rfl, hb7⟩
  clear hcn
  replace Hs := Aside0.mk (blk_below Hs.out hb7)
  replace Ns := Aside0.mk (Ns.out.below hb7)
  replace Ho := Aside0.mk (blk_below Ho.out hb7)
  replace Hv := Aside0.mk (blk_below Hv.out hb7)
  replace Ha := Aside0.mk (blk_below Ha.out hb7)
  replace Na := Aside0.mk (Na.out.below hb7)
  replace Hb := Aside0.mk (blk_below Hb.out hb7)
  replace Nb := Aside0.mk (Nb.out.below hb7)
  replace HB := Aside0.mk (below_step HB.out hb7)
  clear hb7
  go_wp2_with (first
    | (refine ld_st Hs Ns (by rfl) _ (by rfl) (by rfl) ?_; go_frame)
    | (refine ld_on Hs Ns (by rfl) _ (by rfl) (by rfl) ?_; go_frame)
    | (refine ld_st Ha Na (by rfl) _ (by rfl) (by rfl) ?_; go_frame)
    | (refine ld_on Ha Na (by rfl) _ (by rfl) (by rfl) ?_; go_frame)
    | (refine ld_st Hb Nb (by rfl) _ (by rfl) (by rfl) ?_; go_frame)
    | (refine ld_on Hb Nb (by rfl) _ (by rfl) (by rfl) ?_; go_frame)
    | (refine ld_op Ho (by rfl) _ (by rfl) (by rfl) ?_; go_frame)
    | (refine ld_ev Hv (by rfl) _ (by rfl) (by rfl) ?_; go_frame))
  obtain ⟨A0, c0, A1, c1, A2, c2, hcs, _⟩ := Ns.out
  replace HMa := Aside0.mk (fun (W : World) (hb : Below V7.heap.size V7 W) => HMa.out W _ (Ns.out.below hb))
  replace HPa := Aside0.mk (fun (W : World) (hb : Below V7.heap.size V7 W) => HPa.out W _ (Ns.out.below hb))
  replace HPb := Aside0.mk (fun (W : World) (hb : Below V7.heap.size V7 W) => HPb.out W _ (Ns.out.below hb))
  clear Na Nb Ha Hb Ns Ho Hv HDa HDb HMb FX SX
  subst hcs
  have HBX := Aside0.mk (Bx.mk (w := V7) (Below.refl V7.heap.size V7) Hs.out)
  clear Hs
  refine in_ (n := 22) (S := Bx V7 w.heap.size _) (by kernel_rfl) rfl HBX.out.drew (fun hHeld => ?_)
  repeat (first
    | (refine run_ (v := ?_) (a' := ?_) rfl rfl hHeld ?_ ?_ ?_; rotate_left; (focus (intro w2 hs; obtain ⟨s0, s1, s2⟩ := cells3 hs.x; go_simp; with_reducible rfl)); rotate_left; (focus (simp only [Act.put, sqA, sqB, sqC] <;> rfl)))
    | (refine skip_ (a' := ?_) rfl rfl hHeld ?_ ?_; rotate_left; (focus (simp only [Act.put, sqA, sqB, sqC] <;> rfl))))
  refine wpAnyH_take (i := 9) rfl (by kernel_rfl) (by kernel_rfl) (by kernel_rfl) (fun _ _ _ h => h) (v := ?_) (Or.inl ⟨by rfl, ?_⟩) hHeld ?_
  rotate_left
  · intro w9 hs; obtain ⟨s0, s1, s2⟩ := cells3 hs.x; go_simp; with_reducible rfl
  try simp only [Act.put, sqA, sqB, sqC]
  refine wpAnyH_ready (rs := [8]) (by kernel_rfl) (by simp) (AllReadyH.cons rfl (fun K hK => ?_) AllReadyH.nil)
  go_simp
  go_at_call 15
  refine (HMa.out _ hHeld.b).mono ?_
  rintro e1 w1 ⟨rfl, hb⟩
  replace hHeld := hHeld.go hb
  go_wp2_with fail
  refine hK.out _ _ hHeld (fun _ => ?_)
  clear hK K
  try simp only [Act.put, sqA, sqB, sqC]
  clear hb
  rw [show ((upto 22 8).setIfInBounds 9 true).setIfInBounds 8 true = upto 22 10 from by rfl]
  repeat (first
    | (refine run_ (v := ?_) (a' := ?_) rfl rfl hHeld ?_ ?_ ?_; rotate_left; (focus (intro w2 hs; obtain ⟨s0, s1, s2⟩ := cells3 hs.x; go_simp; with_reducible rfl)); rotate_left; (focus (simp only [Act.put, sqA, sqB, sqC] <;> rfl)))
    | (refine skip_ (a' := ?_) rfl rfl hHeld ?_ ?_; rotate_left; (focus (simp only [Act.put, sqA, sqB, sqC] <;> rfl))))
  refine wpAnyH_take (i := 16) rfl (by kernel_rfl) (by kernel_rfl) (by kernel_rfl) (fun _ _ _ h => h) (v := ?_) (Or.inl ⟨by rfl, ?_⟩) hHeld ?_
  rotate_left
  · intro w9 hs; obtain ⟨s0, s1, s2⟩ := cells3 hs.x; go_simp; with_reducible rfl
  try simp only [Act.put, sqA, sqB, sqC]
  refine wpAnyH_ready (rs := [14]) (by kernel_rfl) (by simp) (AllReadyH.cons rfl (fun K hK => ?_) AllReadyH.nil)
  go_simp
  go_at_call 16
  refine (HPa.out _ hHeld.b).mono ?_
  rintro e1 w1 ⟨v1, rfl, hcv, hb⟩
  have HV1 := Aside0.mk hcv
  have k1 := hcv _ (Below.refl _ _)
  replace hHeld := hHeld.go hb
  go_wp2_with fail
  refine hK.out _ _ hHeld (fun _ => ?_)
  clear hK K
  try simp only [Act.put, sqA, sqB, sqC]
  clear hcv hb
  refine wpAnyH_ready (rs := [15, 17]) (by kernel_rfl) (by simp) (AllReadyH.cons rfl (fun K hK => ?_) (AllReadyH.cons rfl (fun K hK => ?_) AllReadyH.nil))
  · go_simp
    refine hK.out _ _ hHeld (fun _ => ?_)
    clear hK K
    try simp only [Act.put, sqA, sqB, sqC]
    refine wpAnyH_ready (rs := [17]) (by kernel_rfl) (by simp) (AllReadyH.cons rfl (fun K hK => ?_) AllReadyH.nil)
    go_simp
    go_at_call 17
    refine (HPb.out _ hHeld.b).mono ?_
    rintro e1 w2 ⟨v2, rfl, hcv, hb⟩
    have HV2 := Aside0.mk hcv
    have k2 := hcv _ (Below.refl _ _)
    replace k1 := HV1.out _ hb
    replace hHeld := hHeld.go hb
    go_wp2_with fail
    refine hK.out _ _ hHeld (fun _ => ?_)
    clear hK K
    try simp only [Act.put, sqA, sqB, sqC]
    clear hcv hb
    refine wpAnyH_ready (rs := [18]) (by kernel_rfl) (by simp) (AllReadyH.cons rfl (fun K hK => ?_) AllReadyH.nil)
    go_simp
    refine hK.out _ _ hHeld (fun _ => ?_)
    clear hK K
    try simp only [Act.put, sqA, sqB, sqC]
    refine wpAnyH_ready (rs := [19]) (by kernel_rfl) (by simp) (AllReadyH.cons rfl (fun K hK => ?_) AllReadyH.nil)
    go_simp
    refine hK.out _ _ hHeld (fun _ => ?_)
    clear hK K
    try simp only [Act.put, sqA, sqB, sqC]
    refine wpAnyH_ready (rs := [20]) (by kernel_rfl) (by simp) (AllReadyH.cons rfl (fun K hK => ?_) AllReadyH.nil)
    go_simp
    refine hK.out _ _ hHeld (fun _ => ?_)
    clear hK K
    try simp only [Act.put, sqA, sqB, sqC]
    refine wpAnyH_ready (rs := [21]) (by kernel_rfl) (by simp) (AllReadyH.cons rfl (fun K hK => ?_) AllReadyH.nil)
    go_simp
    refine hK.out _ _ hHeld (fun _ => ?_)
    clear hK K
    try simp only [Act.put, sqA, sqB, sqC]
    refine wpAnyH_done (by kernel_rfl) ?_ _
    go_wp2
    go_ret
    exact ⟨rfl, below_step HB.out hHeld.b⟩
  · go_simp
    go_at_call 17
    refine (HPb.out _ hHeld.b).mono ?_
    rintro e1 w2 ⟨v2, rfl, hcv, hb⟩
    have HV2 := Aside0.mk hcv
    have k2 := hcv _ (Below.refl _ _)
    replace k1 := HV1.out _ hb
    replace hHeld := hHeld.go hb
    go_wp2_with fail
    refine hK.out _ _ hHeld (fun _ => ?_)
    clear hK K
    try simp only [Act.put, sqA, sqB, sqC]
    clear hcv hb
    refine wpAnyH_ready (rs := [15, 18]) (by kernel_rfl) (by simp) (AllReadyH.cons rfl (fun K hK => ?_) (AllReadyH.cons rfl (fun K hK => ?_) AllReadyH.nil))
    · go_simp
      refine hK.out _ _ hHeld (fun _ => ?_)
      clear hK K
      try simp only [Act.put, sqA, sqB, sqC]
      refine wpAnyH_ready (rs := [18]) (by kernel_rfl) (by simp) (AllReadyH.cons rfl (fun K hK => ?_) AllReadyH.nil)
      go_simp
      refine hK.out _ _ hHeld (fun _ => ?_)
      clear hK K
      try simp only [Act.put, sqA, sqB, sqC]
      refine wpAnyH_ready (rs := [19]) (by kernel_rfl) (by simp) (AllReadyH.cons rfl (fun K hK => ?_) AllReadyH.nil)
      go_simp
      refine hK.out _ _ hHeld (fun _ => ?_)
      clear hK K
      try simp only [Act.put, sqA, sqB, sqC]
      refine wpAnyH_ready (rs := [20]) (by kernel_rfl) (by simp) (AllReadyH.cons rfl (fun K hK => ?_) AllReadyH.nil)
      go_simp
      refine hK.out _ _ hHeld (fun _ => ?_)
      clear hK K
      try simp only [Act.put, sqA, sqB, sqC]
      refine wpAnyH_ready (rs := [21]) (by kernel_rfl) (by simp) (AllReadyH.cons rfl (fun K hK => ?_) AllReadyH.nil)
      go_simp
      refine hK.out _ _ hHeld (fun _ => ?_)
      clear hK K
      try simp only [Act.put, sqA, sqB, sqC]
      refine wpAnyH_done (by kernel_rfl) ?_ _
      go_wp2
      go_ret
      exact ⟨rfl, below_step HB.out hHeld.b⟩
    · go_simp
      refine hK.out _ _ hHeld (fun _ => ?_)
      clear hK K
      try simp only [Act.put, sqA, sqB, sqC]
      refine wpAnyH_ready (rs := [15]) (by kernel_rfl) (by simp) (AllReadyH.cons rfl (fun K hK => ?_) AllReadyH.nil)
      go_simp
      refine hK.out _ _ hHeld (fun _ => ?_)
      clear hK K
      try simp only [Act.put, sqA, sqB, sqC]
      refine wpAnyH_ready (rs := [19]) (by kernel_rfl) (by simp) (AllReadyH.cons rfl (fun K hK => ?_) AllReadyH.nil)
      go_simp
      refine hK.out _ _ hHeld (fun _ => ?_)
      clear hK K
      try simp only [Act.put, sqA, sqB, sqC]
      refine wpAnyH_ready (rs := [20]) (by kernel_rfl) (by simp) (AllReadyH.cons rfl (fun K hK => ?_) AllReadyH.nil)
      go_simp
      refine hK.out _ _ hHeld (fun _ => ?_)
      clear hK K
      try simp only [Act.put, sqA, sqB, sqC]
      refine wpAnyH_ready (rs := [21]) (by kernel_rfl) (by simp) (AllReadyH.cons rfl (fun K hK => ?_) AllReadyH.nil)
      go_simp
      refine hK.out _ _ hHeld (fun _ => ?_)
      clear hK K
      try simp only [Act.put, sqA, sqB, sqC]
      refine wpAnyH_done (by kernel_rfl) ?_ _
      go_wp2
      go_ret
      exact ⟨rfl, below_step HB.out hHeld.b⟩
end Go.Proofs.YtmcddoolniaehaaGreat.S
end
