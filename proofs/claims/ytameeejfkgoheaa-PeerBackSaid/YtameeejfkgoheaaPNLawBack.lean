/- PeerBack: it answers true. By hand: one call behind the other. -/
import Derived.Test.YtameeejfkgoheaaPNPure
import Derived.Test.YtameeejfkgoheaaPHAwake
namespace Go.Proofs.Ytameeejfkgoheaa.P
open Go.RowKit Go.Proofs.YtameeejfkgoheaaW.PrintWords Go.Proofs.YtameeejfkgoheaaW.PrintLast Go.Proofs.YtameeejfkgoheaaW.PrintMore Go.Proofs.YtameeejfkgoheaaW
set_option linter.unusedVariables false
set_option linter.unusedSimpArgs false
set_option maxHeartbeats 8000000 in
set_option maxRecDepth 100000 in
theorem peerBack_calls (cs : List Value) (n : Nd) (p : Int) (w : World) (hn : NodeIs w cs n) :
    Calls Try.prog 8 #[.agg cs.toArray, .int .i64 p] w fun e w' => e = .returned (.bool true) ∧ Below w.heap.size w w' := by
  have Nn := Aside0.mk (hn.below (below_alloc (Below.refl w.heap.size w) (.cells cs.toArray 37)))
  obtain ⟨dA, dc, lA, lc, tA, tc, pA, pc, hcs, h1, h2, h3, h4, h5⟩ := hn
  have HP := Aside0.mk h4
  have hp63 := h4.2.1
  have Hn := Aside0.mk (blk_new w (.cells cs.toArray 37))
  have HB := Aside0.mk (below_alloc (Below.refl w.heap.size w) (.cells cs.toArray 37))
  have HCS := Aside0.mk hcs
  clear h1 h2 h3 h4 h5 hcs
  generalize cs = X at *
  go_enter Try.func8, Try.ntmps8
  go_wp2_with fail
  refine (law19_awake.calls true _ awake_some).mono ?_
  rintro e V0 ⟨rfl, hb0⟩
  replace Hn := Aside0.mk (blk_below Hn.out hb0)
  replace Nn := Aside0.mk (Nn.out.below hb0)
  replace HB := Aside0.mk (below_step HB.out hb0)
  clear hb0
  go_wp2_with (first
    | (refine wpList_load_mid (by rfl) 37 _ (by rfl) w.heap.size 0 (by rfl) X _ (range_of_blk (t := 37) Hn.out) Try.underlying37 rfl (by rw [Nn.out.len]; exact info_N) ?_; go_frame))
  have hcn := fewN_calls X n _ Nn.out
  obtain ⟨qf, hqf⟩ : ∃ q, q = fewN n := ⟨_, rfl⟩
  rw [← hqf] at hcn
  have HQF := Aside0.mk hqf
  clear hqf
  refine hcn.mono ?_
  rintro e V9 ⟨rfl, hb9⟩
  clear hcn
  replace Hn := Aside0.mk (blk_below Hn.out hb9)
  replace Nn := Aside0.mk (Nn.out.below hb9)
  replace HB := Aside0.mk (below_step HB.out hb9)
  clear hb9
  cases qf with
  | false =>
    go_wp2
    go_ret
    exact ⟨rfl, HB.out⟩
  | true =>
  obtain ⟨hfit, hp20⟩ := few_fit HQF.out.symm
  have Fn := Aside0.mk hfit
  clear hfit
  have HP9 := Aside0.mk (Kd.C_below HP.out HB.out)
  have HE := Aside0.mk (by have := Hn.out; rw [HCS.out] at this; exact this : V9.heap[w.heap.size]? = some (.cells (cellsN n (.slice dA n.disk.length dc) (.slice lA n.L.length lc) (.slice tA n.T.length tc) (.slice pA n.peers.length pc)).toArray 37 (0, 0)))
  go_wp2
  go_loopw [7] (fun i wr => ∃ k : Nat, 1 ≤ k ∧ (k ≤ n.peers.length ∨ k = 1) ∧ i = .int .i64 k ∧ Aside0 (upK n.peers k) ∧ Aside0 (Below V9.heap.size V9 wr)) (fun i _ => n.peers.length - (intOf i).toNat)
  case atStart => exact ⟨1, Nat.le_refl _, .inr rfl, rfl, ⟨fun i hi => absurd hi (by omega)⟩, ⟨Below.refl _ _⟩⟩
  case round =>
  obtain ⟨k, hk1, hk, rfl, hU, HBr⟩ := hrel
  have c7 := (blk10 (blk_below HE.out HBr.out)).2.2.2.2.2.2.2.1
  by_cases hlt : k < n.peers.length
  · obtain ⟨b, o, rfl⟩ := at_P HP9.out (by omega)
    have hx := cell_P (Kd.C_below HP9.out HBr.out) k hlt
    have hy := cell_P (Kd.C_below HP9.out HBr.out) (k - 1) (by omega)
    have hk0 : (0 : Int) ≤ (k : Int) := Int.natCast_nonneg _
    have hk2 : (k : Int) < (n.peers.length : Int) := by omega
    have hk3 : (0 : Int) ≤ (k : Int) - 1 := by omega
    have hk4 : (k : Int) - 1 < (n.peers.length : Int) := by omega
    have hk5 : ((k : Int) - 1).toNat = k - 1 := by omega
    have hk7 : (1 : Int) ≤ (k : Int) := by omega
    have hk6 : wrap64 ((k : Int) - 1) = (k : Int) - 1 := by unfold wrap64; omega
    have HU2 : Aside0 (n.peers.getD (k - 1) 0 < n.peers.getD k 0 → upK n.peers (k + 1)) := ⟨fun h i hi => by
      by_cases q : i + 1 < k
      · exact hU.out i q
      · obtain rfl : i = k - 1 := by omega
        rw [show k - 1 + 1 = k by omega]; exact h⟩
    have HBd := Aside0.mk (below_drew HBr.out)
    have HBz := Aside0.mk (below_step HB.out HBd.out)
    generalize n.peers.getD k 0 = x at *
    generalize n.peers.getD (k - 1) 0 = y at *
    by_cases hyx : y < x
    · have HU3 := Aside0.mk (HU2.out hyx)
      have hxy : ¬ x ≤ y := by omega
      clear HU2
      go_wp2
      go_region
      go_wp2
      go_roundw
      case rel => exact ⟨k + 1, by omega, by omega, by go_num, HU3, HBd⟩
      case measure => simp [intOf]; omega
    · have hxy : x ≤ y := by omega
      clear HU2
      go_wp2
      go_region
      go_wp2
      go_ret
      exact ⟨rfl, HBz.out⟩
  have HUP := Aside0.mk (up_of (l := n.peers) (fun i hi => hU.out i (by omega)))
  have hbr := HBr.out
  replace Hn := Aside0.mk (blk_below Hn.out hbr)
  replace Nn := Aside0.mk (Nn.out.below hbr)
  replace HB := Aside0.mk (below_step HB.out hbr)
  clear hbr HBr HE HP9
  by_cases hop : okJ n p
  rotate_left
  · obtain ⟨e1, hj1, he1⟩ := join_bad hop
    go_wp2_with (first
      | (refine wpList_load_mid (by rfl) 37 _ (by rfl) w.heap.size 0 (by rfl) X _ (range_of_blk (t := 37) Hn.out) Try.underlying37 rfl (by rw [Nn.out.len]; exact info_N) ?_; go_frame))
    have hcn := join_calls X n p _ Nn.out Fn.out
    rw [hj1] at hcn
    refine hcn.mono ?_
    rintro e V1 ⟨csa, rfl, hN1, hb1⟩
    clear hcn
    replace Hn := Aside0.mk (blk_below Hn.out hb1)
    replace Nn := Aside0.mk (Nn.out.below hb1)
    replace HB := Aside0.mk (below_step HB.out hb1)
    have Na := Aside0.mk hN1
    clear hN1 hb1
    obtain ⟨dA2, dc2, lA2, lc2, tA2, tc2, pA2, pc2, hcsa, _, _, _, h4a, _⟩ := Na.out
    have HCSa := Aside0.mk hcsa
    have HPa := Aside0.mk h4a
    clear hcsa h4a
    go_wp2_with (first
      | (refine wpList_load_mid (by rfl) 37 _ (by rfl) w.heap.size 0 (by rfl) X _ (range_of_blk (t := 37) Hn.out) Try.underlying37 rfl (by rw [Nn.out.len]; exact info_N) ?_; go_frame)
      | (refine wpl_allocN (by rfl) (by rfl) ?_; go_frame)
      | (refine wpl_store_newA 37 V1 zeroV.toArray csa Na.out.one (by rw [Na.out.len]; exact info_N) (by rfl) (by rw [Na.out.len]; rfl) (by rfl) _ _ (by rfl) (by rfl) (by rfl) ?_; intro U2 hbk2 hBk2 hsk2; replace Hn := Aside0.mk (blk_below Hn.out hBk2); replace Nn := Aside0.mk (Nn.out.below hBk2); replace Na := Aside0.mk (Na.out.below hBk2); replace HB := Aside0.mk (below_step HB.out hBk2); have Ha := Aside0.mk hbk2; clear hbk2 hBk2 hsk2; have c7a : U2.cell? ⟨V1.heap.size, 7, none⟩ = some (.slice pA2 zeroN.peers.length pc2) := (by have h := Ha.out; rw [HCSa.out] at h; exact (blk10 h).2.2.2.2.2.2.2.1); go_frame)
      | (refine wpList_load_mid (by rfl) 37 _ (by rfl) V1.heap.size 0 (by rfl) csa _ (range_of_blk (t := 37) Ha.out) Try.underlying37 rfl (by rw [Na.out.len]; exact info_N) ?_; go_frame))
    go_ret
    exact ⟨rfl, HB.out⟩
  have hlp := len_insP p n.peers
  obtain ⟨P1, hP1⟩ : ∃ q, q = insP p n.peers := ⟨_, rfl⟩
  have Fa : Aside0 (FitN {n with peers := P1}) := ⟨fit_with Fn.out (by rw [hP1]; omega)⟩
  have hj1 : joinN n p = ({n with peers := P1}, 0) := by rw [hP1]; exact join_ok_of hop
  have hmem : P1.contains p = true := by rw [hP1]; simp [mem_insP]
  have hj2 : joinN {n with peers := P1} p = (zeroN, 7) := by
    unfold joinN
    rw [if_neg hop.1, if_pos hmem]
  have hl5 : leaveN {n with peers := P1} p = (n, 0) := by
    unfold leaveN
    rw [if_pos hmem]
    show ({n with peers := P1.filter fun x => !(x == p)}, (0 : Int)) = _
    rw [hP1, filter_ins HUP.out hop.2]
  have hs1 : sameN n n = true := decide_eq_true rfl
  have HU1 : Aside0 (Up P1) := ⟨by rw [hP1]; exact up_insP HUP.out hop.2⟩
  rw [← hP1] at hlp
  have hpl1 : (P1.length : Int) = (n.peers.length : Int) + 1 := by omega
  have hwr : wrap64 ((n.peers.length : Int) + 1) = (n.peers.length : Int) + 1 := by unfold wrap64; omega
  have HJ1 := Aside0.mk hj1
  have HJ2 := Aside0.mk hj2
  have HL5 := Aside0.mk hl5
  have HS1 := Aside0.mk hs1
  have HM := Aside0.mk hmem
  have hp21 : P1.length ≤ 21 := by omega
  have HPL := Aside0.mk hpl1
  have HWR := Aside0.mk hwr
  clear hj1 hj2 hl5 hs1 hmem hop hpl1 hwr hP1 hlp
  go_wp2_with (first
    | (refine wpList_load_mid (by rfl) 37 _ (by rfl) w.heap.size 0 (by rfl) X _ (range_of_blk (t := 37) Hn.out) Try.underlying37 rfl (by rw [Nn.out.len]; exact info_N) ?_; go_frame))
  have hcn := join_calls X n p _ Nn.out Fn.out
  rw [HJ1.out] at hcn
  refine hcn.mono ?_
  rintro e V1 ⟨csa, rfl, hN1, hb1⟩
  clear hcn
  replace Hn := Aside0.mk (blk_below Hn.out hb1)
  replace Nn := Aside0.mk (Nn.out.below hb1)
  replace HB := Aside0.mk (below_step HB.out hb1)
  have Na := Aside0.mk hN1
  clear hN1 hb1
  obtain ⟨dA2, dc2, lA2, lc2, tA2, tc2, pA2, pc2, hcsa, _, _, _, h4a, _⟩ := Na.out
  have HCSa := Aside0.mk hcsa
  have HPa := Aside0.mk h4a
  clear hcsa h4a
  go_wp2_with (first
    | (refine wpList_load_mid (by rfl) 37 _ (by rfl) w.heap.size 0 (by rfl) X _ (range_of_blk (t := 37) Hn.out) Try.underlying37 rfl (by rw [Nn.out.len]; exact info_N) ?_; go_frame)
    | (refine wpl_allocN (by rfl) (by rfl) ?_; go_frame)
    | (refine wpl_store_newA 37 V1 zeroV.toArray csa Na.out.one (by rw [Na.out.len]; exact info_N) (by rfl) (by rw [Na.out.len]; rfl) (by rfl) _ _ (by rfl) (by rfl) (by rfl) ?_; intro U2 hbk2 hBk2 hsk2; have HBU := Aside0.mk hBk2; replace Hn := Aside0.mk (blk_below Hn.out hBk2); replace Nn := Aside0.mk (Nn.out.below hBk2); replace Na := Aside0.mk (Na.out.below hBk2); replace HB := Aside0.mk (below_step HB.out hBk2); have Ha := Aside0.mk hbk2; clear hbk2 hBk2 hsk2; have HPa := Aside0.mk (Kd.C_below HPa.out (show Below _ _ U2 from HBU.out)); have c7a : U2.cell? ⟨V1.heap.size, 7, none⟩ = some (.slice pA2 P1.length pc2) := (by have h := Ha.out; rw [HCSa.out] at h; exact (blk10 h).2.2.2.2.2.2.2.1); go_frame)
    | (refine wpList_load_mid (by rfl) 37 _ (by rfl) V1.heap.size 0 (by rfl) csa _ (range_of_blk (t := 37) Ha.out) Try.underlying37 rfl (by rw [Na.out.len]; exact info_N) ?_; go_frame))
  have hcn := rhasP_calls pA2 pc2 P1 p _ HPa.out
  rw [HM.out] at hcn
  refine hcn.mono ?_
  rintro e V20 ⟨rfl, hb20⟩
  clear hcn
  replace Hn := Aside0.mk (blk_below Hn.out hb20)
  replace Nn := Aside0.mk (Nn.out.below hb20)
  replace Ha := Aside0.mk (blk_below Ha.out hb20)
  replace Na := Aside0.mk (Na.out.below hb20)
  replace HB := Aside0.mk (below_step HB.out hb20)
  have HPb := Aside0.mk (Kd.C_below HPa.out hb20)
  clear hb20 HPa c7a
  go_wp2
  go_loopw [11] (fun i wr => ∃ k : Nat, 1 ≤ k ∧ (k ≤ P1.length ∨ k = 1) ∧ i = .int .i64 k ∧ Aside0 (Below V20.heap.size V20 wr)) (fun i _ => P1.length - (intOf i).toNat)
  case atStart => exact ⟨1, Nat.le_refl _, .inr rfl, rfl, ⟨Below.refl _ _⟩⟩
  case round =>
  obtain ⟨k, hk1, hk, rfl, HBr⟩ := hrel
  have Haw := Aside0.mk (blk_below Ha.out HBr.out)
  have c7a : wr.cell? ⟨V1.heap.size, 7, none⟩ = some (.slice pA2 P1.length pc2) := (by have h := Haw.out; rw [HCSa.out] at h; exact (blk10 h).2.2.2.2.2.2.2.1)
  by_cases hlt : k < P1.length
  · obtain ⟨b, o, rfl⟩ := at_P HPb.out (by omega)
    have hx := cell_P (Kd.C_below HPb.out HBr.out) k hlt
    have hy := cell_P (Kd.C_below HPb.out HBr.out) (k - 1) (by omega)
    have hk0 : (0 : Int) ≤ (k : Int) := Int.natCast_nonneg _
    have hk2 : (k : Int) < (P1.length : Int) := by omega
    have hk3 : (0 : Int) ≤ (k : Int) - 1 := by omega
    have hk4 : (k : Int) - 1 < (P1.length : Int) := by omega
    have hk5 : ((k : Int) - 1).toNat = k - 1 := by omega
    have hk7 : (1 : Int) ≤ (k : Int) := by omega
    have hk6 : wrap64 ((k : Int) - 1) = (k : Int) - 1 := by unfold wrap64; omega
    have HUx : Aside0 (P1.getD (k - 1) 0 < P1.getD k 0) := ⟨by
      have := List.pairwise_iff_getElem.1 HU1.out (k - 1) k (by omega) hlt (by omega)
      rw [List.getD_eq_getElem?_getD, List.getD_eq_getElem?_getD, List.getElem?_eq_getElem hlt, List.getElem?_eq_getElem (by omega : k - 1 < P1.length)]
      exact this⟩
    have HBd := Aside0.mk (below_drew HBr.out)
    generalize P1.getD k 0 = x at *
    generalize P1.getD (k - 1) 0 = y at *
    have hxy : ¬ x ≤ y := by have := HUx.out; omega
    go_wp2
    go_region
    go_wp2
    go_roundw
    case rel => exact ⟨k + 1, by omega, by omega, by go_num, HBd⟩
    case measure => simp [intOf]; omega
  have hbr := HBr.out
  replace Hn := Aside0.mk (blk_below Hn.out hbr)
  replace Nn := Aside0.mk (Nn.out.below hbr)
  replace Ha := Aside0.mk (blk_below Ha.out hbr)
  replace Na := Aside0.mk (Na.out.below hbr)
  replace HB := Aside0.mk (below_step HB.out hbr)
  clear hbr HBr Haw
  go_wp2_with (first
    | (refine wpList_load_mid (by rfl) 37 _ (by rfl) w.heap.size 0 (by rfl) X _ (range_of_blk (t := 37) Hn.out) Try.underlying37 rfl (by rw [Nn.out.len]; exact info_N) ?_; go_frame)
    | (refine wpList_load_mid (by rfl) 37 _ (by rfl) V1.heap.size 0 (by rfl) csa _ (range_of_blk (t := 37) Ha.out) Try.underlying37 rfl (by rw [Na.out.len]; exact info_N) ?_; go_frame))
  have hcn := leave_calls csa _ p _ Na.out Fa.out
  rw [HL5.out] at hcn
  refine hcn.mono ?_
  rintro e V31 ⟨csb, rfl, hN31, hb31⟩
  clear hcn
  replace Hn := Aside0.mk (blk_below Hn.out hb31)
  replace Nn := Aside0.mk (Nn.out.below hb31)
  replace Ha := Aside0.mk (blk_below Ha.out hb31)
  replace Na := Aside0.mk (Na.out.below hb31)
  replace HB := Aside0.mk (below_step HB.out hb31)
  have Nb := Aside0.mk hN31
  clear hN31 hb31
  go_wp2_with (first
    | (refine wpList_load_mid (by rfl) 37 _ (by rfl) w.heap.size 0 (by rfl) X _ (range_of_blk (t := 37) Hn.out) Try.underlying37 rfl (by rw [Nn.out.len]; exact info_N) ?_; go_frame)
    | (refine wpList_load_mid (by rfl) 37 _ (by rfl) V1.heap.size 0 (by rfl) csa _ (range_of_blk (t := 37) Ha.out) Try.underlying37 rfl (by rw [Na.out.len]; exact info_N) ?_; go_frame)
    | (refine wpl_allocN (by rfl) (by rfl) ?_; go_frame)
    | (refine wpl_store_newA 37 V31 zeroV.toArray csb Nb.out.one (by rw [Nb.out.len]; exact info_N) (by rfl) (by rw [Nb.out.len]; rfl) (by rfl) _ _ (by rfl) (by rfl) (by rfl) ?_; intro U32 hbk32 hBk32 hsk32; replace Hn := Aside0.mk (blk_below Hn.out hBk32); replace Nn := Aside0.mk (Nn.out.below hBk32); replace Ha := Aside0.mk (blk_below Ha.out hBk32); replace Na := Aside0.mk (Na.out.below hBk32); replace Nb := Aside0.mk (Nb.out.below hBk32); replace HB := Aside0.mk (below_step HB.out hBk32); have Hb := Aside0.mk hbk32; clear hbk32 hBk32 hsk32; go_frame)
    | (refine wpList_load_mid (by rfl) 37 _ (by rfl) V31.heap.size 0 (by rfl) csb _ (range_of_blk (t := 37) Hb.out) Try.underlying37 rfl (by rw [Nb.out.len]; exact info_N) ?_; go_frame))
  have hcn := sameN_calls csb _ X _ _ Nb.out Nn.out
  rw [HS1.out] at hcn
  refine hcn.mono ?_
  rintro e V33 ⟨rfl, hb33⟩
  clear hcn
  replace Hn := Aside0.mk (blk_below Hn.out hb33)
  replace Nn := Aside0.mk (Nn.out.below hb33)
  replace Ha := Aside0.mk (blk_below Ha.out hb33)
  replace Na := Aside0.mk (Na.out.below hb33)
  replace Hb := Aside0.mk (blk_below Hb.out hb33)
  replace Nb := Aside0.mk (Nb.out.below hb33)
  replace HB := Aside0.mk (below_step HB.out hb33)
  clear hb33
  go_wp2_with (first
    | (refine wpList_load_mid (by rfl) 37 _ (by rfl) w.heap.size 0 (by rfl) X _ (range_of_blk (t := 37) Hn.out) Try.underlying37 rfl (by rw [Nn.out.len]; exact info_N) ?_; go_frame)
    | (refine wpList_load_mid (by rfl) 37 _ (by rfl) V1.heap.size 0 (by rfl) csa _ (range_of_blk (t := 37) Ha.out) Try.underlying37 rfl (by rw [Na.out.len]; exact info_N) ?_; go_frame)
    | (refine wpList_load_mid (by rfl) 37 _ (by rfl) V31.heap.size 0 (by rfl) csb _ (range_of_blk (t := 37) Hb.out) Try.underlying37 rfl (by rw [Nb.out.len]; exact info_N) ?_; go_frame))
  have hcn := join_calls csa _ p _ Na.out Fa.out
  rw [HJ2.out] at hcn
  refine hcn.mono ?_
  rintro e V34 ⟨csd, rfl, hN34, hb34⟩
  clear hcn
  replace Hn := Aside0.mk (blk_below Hn.out hb34)
  replace Nn := Aside0.mk (Nn.out.below hb34)
  replace Ha := Aside0.mk (blk_below Ha.out hb34)
  replace Na := Aside0.mk (Na.out.below hb34)
  replace Hb := Aside0.mk (blk_below Hb.out hb34)
  replace Nb := Aside0.mk (Nb.out.below hb34)
  replace HB := Aside0.mk (below_step HB.out hb34)
  have Nd := Aside0.mk hN34
  clear hN34 hb34
  go_wp2_with (first
    | (refine wpList_load_mid (by rfl) 37 _ (by rfl) w.heap.size 0 (by rfl) X _ (range_of_blk (t := 37) Hn.out) Try.underlying37 rfl (by rw [Nn.out.len]; exact info_N) ?_; go_frame)
    | (refine wpList_load_mid (by rfl) 37 _ (by rfl) V1.heap.size 0 (by rfl) csa _ (range_of_blk (t := 37) Ha.out) Try.underlying37 rfl (by rw [Na.out.len]; exact info_N) ?_; go_frame)
    | (refine wpList_load_mid (by rfl) 37 _ (by rfl) V31.heap.size 0 (by rfl) csb _ (range_of_blk (t := 37) Hb.out) Try.underlying37 rfl (by rw [Nb.out.len]; exact info_N) ?_; go_frame)
    | (refine wpl_allocN (by rfl) (by rfl) ?_; go_frame)
    | (refine wpl_store_newA 37 V34 zeroV.toArray csd Nd.out.one (by rw [Nd.out.len]; exact info_N) (by rfl) (by rw [Nd.out.len]; rfl) (by rfl) _ _ (by rfl) (by rfl) (by rfl) ?_; intro U35 hbk35 hBk35 hsk35; replace Hn := Aside0.mk (blk_below Hn.out hBk35); replace Nn := Aside0.mk (Nn.out.below hBk35); replace Ha := Aside0.mk (blk_below Ha.out hBk35); replace Na := Aside0.mk (Na.out.below hBk35); replace Hb := Aside0.mk (blk_below Hb.out hBk35); replace Nb := Aside0.mk (Nb.out.below hBk35); replace Nd := Aside0.mk (Nd.out.below hBk35); replace HB := Aside0.mk (below_step HB.out hBk35); have Hd := Aside0.mk hbk35; clear hbk35 hBk35 hsk35; have c7a2 : U35.cell? ⟨V1.heap.size, 7, none⟩ = some (.slice pA2 P1.length pc2) := (by have h := Ha.out; rw [HCSa.out] at h; exact (blk10 h).2.2.2.2.2.2.2.1); have c7n2 : U35.cell? ⟨w.heap.size, 7, none⟩ = some (.slice pA n.peers.length pc) := (by have h := Hn.out; rw [HCS.out] at h; exact (blk10 h).2.2.2.2.2.2.2.1); have hwr := HWR.out; have hpl1 := HPL.out; go_frame)
    | (refine wpList_load_mid (by rfl) 37 _ (by rfl) V34.heap.size 0 (by rfl) csd _ (range_of_blk (t := 37) Hd.out) Try.underlying37 rfl (by rw [Nd.out.len]; exact info_N) ?_; go_frame))
  go_ret
  exact ⟨rfl, HB.out⟩
end Go.Proofs.Ytameeejfkgoheaa.P
