/- PeerOrder: it answers true. By hand: one call behind the other. -/
import Derived.Test.YtameeejfkgoheaaPNPure
import Derived.Test.YtameeejfkgoheaaPHAwake
namespace Go.Proofs.Ytameeejfkgoheaa.P
open Go.RowKit Go.Proofs.YtameeejfkgoheaaW.PrintWords Go.Proofs.YtameeejfkgoheaaW.PrintLast Go.Proofs.YtameeejfkgoheaaW.PrintMore Go.Proofs.YtameeejfkgoheaaW
set_option linter.unusedVariables false
set_option linter.unusedSimpArgs false
set_option maxHeartbeats 8000000 in
set_option maxRecDepth 100000 in
theorem peerOrder_calls (cs : List Value) (n : Nd) (p q : Int) (w : World) (hn : NodeIs w cs n) :
    Calls Try.prog 9 #[.agg cs.toArray, .int .i64 p, .int .i64 q] w fun e w' => e = .returned (.bool true) ∧ Below w.heap.size w w' := by
  have Nn := Aside0.mk (hn.below (below_alloc (Below.refl w.heap.size w) (.cells cs.toArray 37)))
  obtain ⟨dA, dc, lA, lc, tA, tc, pA, pc, hcs, h1, h2, h3, h4, h5⟩ := hn
  have HP := Aside0.mk h4
  have hp63 := h4.2.1
  have Hn := Aside0.mk (blk_new w (.cells cs.toArray 37))
  have HB := Aside0.mk (below_alloc (Below.refl w.heap.size w) (.cells cs.toArray 37))
  have HCS := Aside0.mk hcs
  clear h1 h2 h3 h4 h5 hcs
  generalize cs = X at *
  go_enter Try.func9, Try.ntmps9
  go_wp2_with fail
  refine (law19_awake.calls true _ awake_some).mono ?_
  rintro e V0 ⟨rfl, hb0⟩
  replace Hn := Aside0.mk (blk_below Hn.out hb0)
  replace Nn := Aside0.mk (Nn.out.below hb0)
  replace HB := Aside0.mk (below_step HB.out hb0)
  clear hb0
  go_wp2_with (first
    | (refine wpList_load_mid (by rfl) 37 _ (by rfl) w.heap.size 0 (by rfl) X _ (range_of_blk (t := 37) Hn.out) Try.underlying37 rfl (by rw [Nn.out.len]; exact info_N) ?_; go_frame))
  have hcn := fewN_calls X n _ Nn.out
  obtain ⟨qf, hqf⟩ : ∃ q, q = fewN n := ⟨_, rfl⟩
  rw [← hqf] at hcn
  have HQF := Aside0.mk hqf
  clear hqf
  refine hcn.mono ?_
  rintro e V9 ⟨rfl, hb9⟩
  clear hcn
  replace Hn := Aside0.mk (blk_below Hn.out hb9)
  replace Nn := Aside0.mk (Nn.out.below hb9)
  replace HB := Aside0.mk (below_step HB.out hb9)
  clear hb9
  cases qf with
  | false =>
    go_wp2
    go_ret
    exact ⟨rfl, HB.out⟩
  | true =>
  by_cases hpq : p = q
  · go_wp2
    go_ret
    exact ⟨rfl, HB.out⟩
  have hpqb : (p == q) = false := by simp [hpq]
  obtain ⟨hfit, hp20⟩ := few_fit HQF.out.symm
  have Fn := Aside0.mk hfit
  clear hfit
  have HP9 := Aside0.mk (Kd.C_below HP.out HB.out)
  have HE := Aside0.mk (by have := Hn.out; rw [HCS.out] at this; exact this : V9.heap[w.heap.size]? = some (.cells (cellsN n (.slice dA n.disk.length dc) (.slice lA n.L.length lc) (.slice tA n.T.length tc) (.slice pA n.peers.length pc)).toArray 37 (0, 0)))
  go_wp2
  go_loopw [9] (fun i wr => ∃ k : Nat, 1 ≤ k ∧ (k ≤ n.peers.length ∨ k = 1) ∧ i = .int .i64 k ∧ Aside0 (upK n.peers k) ∧ Aside0 (Below V9.heap.size V9 wr)) (fun i _ => n.peers.length - (intOf i).toNat)
  case atStart => exact ⟨1, Nat.le_refl _, .inr rfl, rfl, ⟨fun i hi => absurd hi (by omega)⟩, ⟨Below.refl _ _⟩⟩
  case round =>
  obtain ⟨k, hk1, hk, rfl, hU, HBr⟩ := hrel
  have c7 := (blk10 (blk_below HE.out HBr.out)).2.2.2.2.2.2.2.1
  by_cases hlt : k < n.peers.length
  · obtain ⟨b, o, rfl⟩ := at_P HP9.out (by omega)
    have hx := cell_P (Kd.C_below HP9.out HBr.out) k hlt
    have hy := cell_P (Kd.C_below HP9.out HBr.out) (k - 1) (by omega)
    have hk0 : (0 : Int) ≤ (k : Int) := Int.natCast_nonneg _
    have hk2 : (k : Int) < (n.peers.length : Int) := by omega
    have hk3 : (0 : Int) ≤ (k : Int) - 1 := by omega
    have hk4 : (k : Int) - 1 < (n.peers.length : Int) := by omega
    have hk5 : ((k : Int) - 1).toNat = k - 1 := by omega
    have hk7 : (1 : Int) ≤ (k : Int) := by omega
    have hk6 : wrap64 ((k : Int) - 1) = (k : Int) - 1 := by unfold wrap64; omega
    have HU2 : Aside0 (n.peers.getD (k - 1) 0 < n.peers.getD k 0 → upK n.peers (k + 1)) := ⟨fun h i hi => by
      by_cases q : i + 1 < k
      · exact hU.out i q
      · obtain rfl : i = k - 1 := by omega
        rw [show k - 1 + 1 = k by omega]; exact h⟩
    have HBd := Aside0.mk (below_drew HBr.out)
    have HBz := Aside0.mk (below_step HB.out HBd.out)
    generalize n.peers.getD k 0 = x at *
    generalize n.peers.getD (k - 1) 0 = y at *
    by_cases hyx : y < x
    · have HU3 := Aside0.mk (HU2.out hyx)
      have hxy : ¬ x ≤ y := by omega
      clear HU2
      go_wp2
      go_region
      go_wp2
      go_roundw
      case rel => exact ⟨k + 1, by omega, by omega, by go_num, HU3, HBd⟩
      case measure => simp [intOf]; omega
    · have hxy : x ≤ y := by omega
      clear HU2
      go_wp2
      go_region
      go_wp2
      go_ret
      exact ⟨rfl, HBz.out⟩
  have HUP := Aside0.mk (up_of (l := n.peers) (fun i hi => hU.out i (by omega)))
  have hbr := HBr.out
  replace Hn := Aside0.mk (blk_below Hn.out hbr)
  replace Nn := Aside0.mk (Nn.out.below hbr)
  replace HB := Aside0.mk (below_step HB.out hbr)
  clear hbr HBr HE HP9
  by_cases hop : okJ n p
  rotate_left
  · obtain ⟨e1, hj1, he1⟩ := join_bad hop
    obtain ⟨⟨b2, e2⟩, hj2⟩ : ∃ r, joinN n q = r := ⟨_, rfl⟩
    go_wp2_with (first
      | (refine wpList_load_mid (by rfl) 37 _ (by rfl) w.heap.size 0 (by rfl) X _ (range_of_blk (t := 37) Hn.out) Try.underlying37 rfl (by rw [Nn.out.len]; exact info_N) ?_; go_frame))
    have hcn := join_calls X n p _ Nn.out Fn.out
    rw [hj1] at hcn
    refine hcn.mono ?_
    rintro e V1 ⟨csa, rfl, hN1, hb1⟩
    clear hcn
    replace Hn := Aside0.mk (blk_below Hn.out hb1)
    replace Nn := Aside0.mk (Nn.out.below hb1)
    replace HB := Aside0.mk (below_step HB.out hb1)
    have Na := Aside0.mk hN1
    clear hN1 hb1
    go_wp2_with (first
      | (refine wpList_load_mid (by rfl) 37 _ (by rfl) w.heap.size 0 (by rfl) X _ (range_of_blk (t := 37) Hn.out) Try.underlying37 rfl (by rw [Nn.out.len]; exact info_N) ?_; go_frame)
      | (refine wpl_allocN (by rfl) (by rfl) ?_; go_frame)
      | (refine wpl_store_newA 37 V1 zeroV.toArray csa Na.out.one (by rw [Na.out.len]; exact info_N) (by rfl) (by rw [Na.out.len]; rfl) (by rfl) _ _ (by rfl) (by rfl) (by rfl) ?_; intro U2 hbk2 hBk2 hsk2; replace Hn := Aside0.mk (blk_below Hn.out hBk2); replace Nn := Aside0.mk (Nn.out.below hBk2); replace Na := Aside0.mk (Na.out.below hBk2); replace HB := Aside0.mk (below_step HB.out hBk2); have Ha := Aside0.mk hbk2; clear hbk2 hBk2 hsk2; go_frame)
      | (refine wpList_load_mid (by rfl) 37 _ (by rfl) V1.heap.size 0 (by rfl) csa _ (range_of_blk (t := 37) Ha.out) Try.underlying37 rfl (by rw [Na.out.len]; exact info_N) ?_; go_frame))
    have hcn := join_calls X n q _ Nn.out Fn.out
    rw [hj2] at hcn
    refine hcn.mono ?_
    rintro e V3 ⟨csb, rfl, hN3, hb3⟩
    clear hcn
    replace Hn := Aside0.mk (blk_below Hn.out hb3)
    replace Nn := Aside0.mk (Nn.out.below hb3)
    replace Ha := Aside0.mk (blk_below Ha.out hb3)
    replace Na := Aside0.mk (Na.out.below hb3)
    replace HB := Aside0.mk (below_step HB.out hb3)
    have Nb := Aside0.mk hN3
    clear hN3 hb3
    go_wp2_with (first
      | (refine wpList_load_mid (by rfl) 37 _ (by rfl) w.heap.size 0 (by rfl) X _ (range_of_blk (t := 37) Hn.out) Try.underlying37 rfl (by rw [Nn.out.len]; exact info_N) ?_; go_frame)
      | (refine wpList_load_mid (by rfl) 37 _ (by rfl) V1.heap.size 0 (by rfl) csa _ (range_of_blk (t := 37) Ha.out) Try.underlying37 rfl (by rw [Na.out.len]; exact info_N) ?_; go_frame)
      | (refine wpl_allocN (by rfl) (by rfl) ?_; go_frame)
      | (refine wpl_store_newA 37 V3 zeroV.toArray csb Nb.out.one (by rw [Nb.out.len]; exact info_N) (by rfl) (by rw [Nb.out.len]; rfl) (by rfl) _ _ (by rfl) (by rfl) (by rfl) ?_; intro U4 hbk4 hBk4 hsk4; replace Hn := Aside0.mk (blk_below Hn.out hBk4); replace Nn := Aside0.mk (Nn.out.below hBk4); replace Ha := Aside0.mk (blk_below Ha.out hBk4); replace Na := Aside0.mk (Na.out.below hBk4); replace Nb := Aside0.mk (Nb.out.below hBk4); replace HB := Aside0.mk (below_step HB.out hBk4); have Hb := Aside0.mk hbk4; clear hbk4 hBk4 hsk4; go_frame)
      | (refine wpList_load_mid (by rfl) 37 _ (by rfl) V3.heap.size 0 (by rfl) csb _ (range_of_blk (t := 37) Hb.out) Try.underlying37 rfl (by rw [Nb.out.len]; exact info_N) ?_; go_frame))
    go_ret
    exact ⟨rfl, HB.out⟩
  by_cases hoq : okJ n q
  rotate_left
  · obtain ⟨e1, hj1, he1⟩ := join_bad hoq
    have hj2 := join_ok_of hop
    go_wp2_with (first
      | (refine wpList_load_mid (by rfl) 37 _ (by rfl) w.heap.size 0 (by rfl) X _ (range_of_blk (t := 37) Hn.out) Try.underlying37 rfl (by rw [Nn.out.len]; exact info_N) ?_; go_frame))
    have hcn := join_calls X n p _ Nn.out Fn.out
    rw [hj2] at hcn
    refine hcn.mono ?_
    rintro e V1 ⟨csa, rfl, hN1, hb1⟩
    clear hcn
    replace Hn := Aside0.mk (blk_below Hn.out hb1)
    replace Nn := Aside0.mk (Nn.out.below hb1)
    replace HB := Aside0.mk (below_step HB.out hb1)
    have Na := Aside0.mk hN1
    clear hN1 hb1
    go_wp2_with (first
      | (refine wpList_load_mid (by rfl) 37 _ (by rfl) w.heap.size 0 (by rfl) X _ (range_of_blk (t := 37) Hn.out) Try.underlying37 rfl (by rw [Nn.out.len]; exact info_N) ?_; go_frame)
      | (refine wpl_allocN (by rfl) (by rfl) ?_; go_frame)
      | (refine wpl_store_newA 37 V1 zeroV.toArray csa Na.out.one (by rw [Na.out.len]; exact info_N) (by rfl) (by rw [Na.out.len]; rfl) (by rfl) _ _ (by rfl) (by rfl) (by rfl) ?_; intro U2 hbk2 hBk2 hsk2; replace Hn := Aside0.mk (blk_below Hn.out hBk2); replace Nn := Aside0.mk (Nn.out.below hBk2); replace Na := Aside0.mk (Na.out.below hBk2); replace HB := Aside0.mk (below_step HB.out hBk2); have Ha := Aside0.mk hbk2; clear hbk2 hBk2 hsk2; go_frame)
      | (refine wpList_load_mid (by rfl) 37 _ (by rfl) V1.heap.size 0 (by rfl) csa _ (range_of_blk (t := 37) Ha.out) Try.underlying37 rfl (by rw [Na.out.len]; exact info_N) ?_; go_frame))
    have hcn := join_calls X n q _ Nn.out Fn.out
    rw [hj1] at hcn
    refine hcn.mono ?_
    rintro e V3 ⟨csb, rfl, hN3, hb3⟩
    clear hcn
    replace Hn := Aside0.mk (blk_below Hn.out hb3)
    replace Nn := Aside0.mk (Nn.out.below hb3)
    replace Ha := Aside0.mk (blk_below Ha.out hb3)
    replace Na := Aside0.mk (Na.out.below hb3)
    replace HB := Aside0.mk (below_step HB.out hb3)
    have Nb := Aside0.mk hN3
    clear hN3 hb3
    go_wp2_with (first
      | (refine wpList_load_mid (by rfl) 37 _ (by rfl) w.heap.size 0 (by rfl) X _ (range_of_blk (t := 37) Hn.out) Try.underlying37 rfl (by rw [Nn.out.len]; exact info_N) ?_; go_frame)
      | (refine wpList_load_mid (by rfl) 37 _ (by rfl) V1.heap.size 0 (by rfl) csa _ (range_of_blk (t := 37) Ha.out) Try.underlying37 rfl (by rw [Na.out.len]; exact info_N) ?_; go_frame)
      | (refine wpl_allocN (by rfl) (by rfl) ?_; go_frame)
      | (refine wpl_store_newA 37 V3 zeroV.toArray csb Nb.out.one (by rw [Nb.out.len]; exact info_N) (by rfl) (by rw [Nb.out.len]; rfl) (by rfl) _ _ (by rfl) (by rfl) (by rfl) ?_; intro U4 hbk4 hBk4 hsk4; replace Hn := Aside0.mk (blk_below Hn.out hBk4); replace Nn := Aside0.mk (Nn.out.below hBk4); replace Ha := Aside0.mk (blk_below Ha.out hBk4); replace Na := Aside0.mk (Na.out.below hBk4); replace Nb := Aside0.mk (Nb.out.below hBk4); replace HB := Aside0.mk (below_step HB.out hBk4); have Hb := Aside0.mk hbk4; clear hbk4 hBk4 hsk4; go_frame)
      | (refine wpList_load_mid (by rfl) 37 _ (by rfl) V3.heap.size 0 (by rfl) csb _ (range_of_blk (t := 37) Hb.out) Try.underlying37 rfl (by rw [Nb.out.len]; exact info_N) ?_; go_frame))
    go_ret
    exact ⟨rfl, HB.out⟩
  have hlp := len_insP p n.peers
  have hlq := len_insP q n.peers
  have hlqp := len_insP q (insP p n.peers)
  have hlpq := len_insP p (insP q n.peers)
  have Fa : Aside0 (FitN {n with peers := insP p n.peers}) := ⟨fit_with Fn.out (by omega)⟩
  have Fb : Aside0 (FitN {n with peers := insP q n.peers}) := ⟨fit_with Fn.out (by omega)⟩
  have Fc : Aside0 (FitN {n with peers := insP q (insP p n.peers)}) := ⟨fit_with Fn.out (by omega)⟩
  have hj1 := join_ok_of hop
  have hj2 := join_ok_of hoq
  have hj3 : joinN {n with peers := insP p n.peers} q = ({n with peers := insP q (insP p n.peers)}, 0) := join_ok_of (n := {n with peers := insP p n.peers}) ⟨hoq.1, fun h => by rcases (mem_insP _ _ _).1 h with e | e; exact hpq e.symm; exact hoq.2 e⟩
  have hj4 : joinN {n with peers := insP q n.peers} p = ({n with peers := insP p (insP q n.peers)}, 0) := join_ok_of (n := {n with peers := insP q n.peers}) ⟨hop.1, fun h => by rcases (mem_insP _ _ _).1 h with e | e; exact hpq e; exact hop.2 e⟩
  have hcd : insP q (insP p n.peers) = insP p (insP q n.peers) := ins_comm HUP.out hop.2 hoq.2 hpq
  have hl5 : leaveN {n with peers := insP q (insP p n.peers)} p = ({n with peers := insP q n.peers}, 0) := by
    unfold leaveN
    rw [if_pos (by rw [hcd]; simp [mem_insP])]
    show ({n with peers := (insP q (insP p n.peers)).filter fun x => !(x == p)}, (0 : Int)) = _
    rw [hcd, filter_ins (up_insP HUP.out hoq.2) (fun h => by rcases (mem_insP _ _ _).1 h with e | e; exact hpq e; exact hop.2 e)]
  have hs1 : sameN {n with peers := insP q (insP p n.peers)} {n with peers := insP p (insP q n.peers)} = true := by rw [hcd]; exact decide_eq_true rfl
  have hs2 : sameN {n with peers := insP q n.peers} {n with peers := insP q n.peers} = true := decide_eq_true rfl
  have HJ1 := Aside0.mk hj1
  have HJ2 := Aside0.mk hj2
  have HJ3 := Aside0.mk hj3
  have HJ4 := Aside0.mk hj4
  have HL5 := Aside0.mk hl5
  have HS1 := Aside0.mk hs1
  have HS2 := Aside0.mk hs2
  clear hj1 hj2 hj3 hj4 hl5 hs1 hs2 hcd hlp hlq hlqp hlpq hop hoq
  go_wp2_with (first
    | (refine wpList_load_mid (by rfl) 37 _ (by rfl) w.heap.size 0 (by rfl) X _ (range_of_blk (t := 37) Hn.out) Try.underlying37 rfl (by rw [Nn.out.len]; exact info_N) ?_; go_frame))
  have hcn := join_calls X n p _ Nn.out Fn.out
  rw [HJ1.out] at hcn
  refine hcn.mono ?_
  rintro e V1 ⟨csa, rfl, hN1, hb1⟩
  clear hcn
  replace Hn := Aside0.mk (blk_below Hn.out hb1)
  replace Nn := Aside0.mk (Nn.out.below hb1)
  replace HB := Aside0.mk (below_step HB.out hb1)
  have Na := Aside0.mk hN1
  clear hN1 hb1
  go_wp2_with (first
    | (refine wpList_load_mid (by rfl) 37 _ (by rfl) w.heap.size 0 (by rfl) X _ (range_of_blk (t := 37) Hn.out) Try.underlying37 rfl (by rw [Nn.out.len]; exact info_N) ?_; go_frame)
    | (refine wpl_allocN (by rfl) (by rfl) ?_; go_frame)
    | (refine wpl_store_newA 37 V1 zeroV.toArray csa Na.out.one (by rw [Na.out.len]; exact info_N) (by rfl) (by rw [Na.out.len]; rfl) (by rfl) _ _ (by rfl) (by rfl) (by rfl) ?_; intro U2 hbk2 hBk2 hsk2; replace Hn := Aside0.mk (blk_below Hn.out hBk2); replace Nn := Aside0.mk (Nn.out.below hBk2); replace Na := Aside0.mk (Na.out.below hBk2); replace HB := Aside0.mk (below_step HB.out hBk2); have Ha := Aside0.mk hbk2; clear hbk2 hBk2 hsk2; go_frame)
    | (refine wpList_load_mid (by rfl) 37 _ (by rfl) V1.heap.size 0 (by rfl) csa _ (range_of_blk (t := 37) Ha.out) Try.underlying37 rfl (by rw [Na.out.len]; exact info_N) ?_; go_frame))
  have hcn := join_calls X n q _ Nn.out Fn.out
  rw [HJ2.out] at hcn
  refine hcn.mono ?_
  rintro e V3 ⟨csb, rfl, hN3, hb3⟩
  clear hcn
  replace Hn := Aside0.mk (blk_below Hn.out hb3)
  replace Nn := Aside0.mk (Nn.out.below hb3)
  replace Ha := Aside0.mk (blk_below Ha.out hb3)
  replace Na := Aside0.mk (Na.out.below hb3)
  replace HB := Aside0.mk (below_step HB.out hb3)
  have Nb := Aside0.mk hN3
  clear hN3 hb3
  go_wp2_with (first
    | (refine wpList_load_mid (by rfl) 37 _ (by rfl) w.heap.size 0 (by rfl) X _ (range_of_blk (t := 37) Hn.out) Try.underlying37 rfl (by rw [Nn.out.len]; exact info_N) ?_; go_frame)
    | (refine wpList_load_mid (by rfl) 37 _ (by rfl) V1.heap.size 0 (by rfl) csa _ (range_of_blk (t := 37) Ha.out) Try.underlying37 rfl (by rw [Na.out.len]; exact info_N) ?_; go_frame)
    | (refine wpl_allocN (by rfl) (by rfl) ?_; go_frame)
    | (refine wpl_store_newA 37 V3 zeroV.toArray csb Nb.out.one (by rw [Nb.out.len]; exact info_N) (by rfl) (by rw [Nb.out.len]; rfl) (by rfl) _ _ (by rfl) (by rfl) (by rfl) ?_; intro U4 hbk4 hBk4 hsk4; replace Hn := Aside0.mk (blk_below Hn.out hBk4); replace Nn := Aside0.mk (Nn.out.below hBk4); replace Ha := Aside0.mk (blk_below Ha.out hBk4); replace Na := Aside0.mk (Na.out.below hBk4); replace Nb := Aside0.mk (Nb.out.below hBk4); replace HB := Aside0.mk (below_step HB.out hBk4); have Hb := Aside0.mk hbk4; clear hbk4 hBk4 hsk4; go_frame)
    | (refine wpList_load_mid (by rfl) 37 _ (by rfl) V3.heap.size 0 (by rfl) csb _ (range_of_blk (t := 37) Hb.out) Try.underlying37 rfl (by rw [Nb.out.len]; exact info_N) ?_; go_frame))
  have hcn := join_calls csa _ q _ Na.out Fa.out
  rw [HJ3.out] at hcn
  refine hcn.mono ?_
  rintro e V5 ⟨csc, rfl, hN5, hb5⟩
  clear hcn
  replace Hn := Aside0.mk (blk_below Hn.out hb5)
  replace Nn := Aside0.mk (Nn.out.below hb5)
  replace Ha := Aside0.mk (blk_below Ha.out hb5)
  replace Na := Aside0.mk (Na.out.below hb5)
  replace Hb := Aside0.mk (blk_below Hb.out hb5)
  replace Nb := Aside0.mk (Nb.out.below hb5)
  replace HB := Aside0.mk (below_step HB.out hb5)
  have Nc := Aside0.mk hN5
  clear hN5 hb5
  go_wp2_with (first
    | (refine wpList_load_mid (by rfl) 37 _ (by rfl) w.heap.size 0 (by rfl) X _ (range_of_blk (t := 37) Hn.out) Try.underlying37 rfl (by rw [Nn.out.len]; exact info_N) ?_; go_frame)
    | (refine wpList_load_mid (by rfl) 37 _ (by rfl) V1.heap.size 0 (by rfl) csa _ (range_of_blk (t := 37) Ha.out) Try.underlying37 rfl (by rw [Na.out.len]; exact info_N) ?_; go_frame)
    | (refine wpList_load_mid (by rfl) 37 _ (by rfl) V3.heap.size 0 (by rfl) csb _ (range_of_blk (t := 37) Hb.out) Try.underlying37 rfl (by rw [Nb.out.len]; exact info_N) ?_; go_frame)
    | (refine wpl_allocN (by rfl) (by rfl) ?_; go_frame)
    | (refine wpl_store_newA 37 V5 zeroV.toArray csc Nc.out.one (by rw [Nc.out.len]; exact info_N) (by rfl) (by rw [Nc.out.len]; rfl) (by rfl) _ _ (by rfl) (by rfl) (by rfl) ?_; intro U6 hbk6 hBk6 hsk6; replace Hn := Aside0.mk (blk_below Hn.out hBk6); replace Nn := Aside0.mk (Nn.out.below hBk6); replace Ha := Aside0.mk (blk_below Ha.out hBk6); replace Na := Aside0.mk (Na.out.below hBk6); replace Hb := Aside0.mk (blk_below Hb.out hBk6); replace Nb := Aside0.mk (Nb.out.below hBk6); replace Nc := Aside0.mk (Nc.out.below hBk6); replace HB := Aside0.mk (below_step HB.out hBk6); have Hc := Aside0.mk hbk6; clear hbk6 hBk6 hsk6; go_frame)
    | (refine wpList_load_mid (by rfl) 37 _ (by rfl) V5.heap.size 0 (by rfl) csc _ (range_of_blk (t := 37) Hc.out) Try.underlying37 rfl (by rw [Nc.out.len]; exact info_N) ?_; go_frame))
  have hcn := join_calls csb _ p _ Nb.out Fb.out
  rw [HJ4.out] at hcn
  refine hcn.mono ?_
  rintro e V7 ⟨csd, rfl, hN7, hb7⟩
  clear hcn
  replace Hn := Aside0.mk (blk_below Hn.out hb7)
  replace Nn := Aside0.mk (Nn.out.below hb7)
  replace Ha := Aside0.mk (blk_below Ha.out hb7)
  replace Na := Aside0.mk (Na.out.below hb7)
  replace Hb := Aside0.mk (blk_below Hb.out hb7)
  replace Nb := Aside0.mk (Nb.out.below hb7)
  replace Hc := Aside0.mk (blk_below Hc.out hb7)
  replace Nc := Aside0.mk (Nc.out.below hb7)
  replace HB := Aside0.mk (below_step HB.out hb7)
  have Nd := Aside0.mk hN7
  clear hN7 hb7
  go_wp2_with (first
    | (refine wpList_load_mid (by rfl) 37 _ (by rfl) w.heap.size 0 (by rfl) X _ (range_of_blk (t := 37) Hn.out) Try.underlying37 rfl (by rw [Nn.out.len]; exact info_N) ?_; go_frame)
    | (refine wpList_load_mid (by rfl) 37 _ (by rfl) V1.heap.size 0 (by rfl) csa _ (range_of_blk (t := 37) Ha.out) Try.underlying37 rfl (by rw [Na.out.len]; exact info_N) ?_; go_frame)
    | (refine wpList_load_mid (by rfl) 37 _ (by rfl) V3.heap.size 0 (by rfl) csb _ (range_of_blk (t := 37) Hb.out) Try.underlying37 rfl (by rw [Nb.out.len]; exact info_N) ?_; go_frame)
    | (refine wpList_load_mid (by rfl) 37 _ (by rfl) V5.heap.size 0 (by rfl) csc _ (range_of_blk (t := 37) Hc.out) Try.underlying37 rfl (by rw [Nc.out.len]; exact info_N) ?_; go_frame)
    | (refine wpl_allocN (by rfl) (by rfl) ?_; go_frame)
    | (refine wpl_store_newA 37 V7 zeroV.toArray csd Nd.out.one (by rw [Nd.out.len]; exact info_N) (by rfl) (by rw [Nd.out.len]; rfl) (by rfl) _ _ (by rfl) (by rfl) (by rfl) ?_; intro U8 hbk8 hBk8 hsk8; replace Hn := Aside0.mk (blk_below Hn.out hBk8); replace Nn := Aside0.mk (Nn.out.below hBk8); replace Ha := Aside0.mk (blk_below Ha.out hBk8); replace Na := Aside0.mk (Na.out.below hBk8); replace Hb := Aside0.mk (blk_below Hb.out hBk8); replace Nb := Aside0.mk (Nb.out.below hBk8); replace Hc := Aside0.mk (blk_below Hc.out hBk8); replace Nc := Aside0.mk (Nc.out.below hBk8); replace Nd := Aside0.mk (Nd.out.below hBk8); replace HB := Aside0.mk (below_step HB.out hBk8); have Hd := Aside0.mk hbk8; clear hbk8 hBk8 hsk8; go_frame)
    | (refine wpList_load_mid (by rfl) 37 _ (by rfl) V7.heap.size 0 (by rfl) csd _ (range_of_blk (t := 37) Hd.out) Try.underlying37 rfl (by rw [Nd.out.len]; exact info_N) ?_; go_frame))
  have hcn := leave_calls csc _ p _ Nc.out Fc.out
  rw [HL5.out] at hcn
  refine hcn.mono ?_
  rintro e V9 ⟨csx, rfl, hN9, hb9⟩
  clear hcn
  replace Hn := Aside0.mk (blk_below Hn.out hb9)
  replace Nn := Aside0.mk (Nn.out.below hb9)
  replace Ha := Aside0.mk (blk_below Ha.out hb9)
  replace Na := Aside0.mk (Na.out.below hb9)
  replace Hb := Aside0.mk (blk_below Hb.out hb9)
  replace Nb := Aside0.mk (Nb.out.below hb9)
  replace Hc := Aside0.mk (blk_below Hc.out hb9)
  replace Nc := Aside0.mk (Nc.out.below hb9)
  replace Hd := Aside0.mk (blk_below Hd.out hb9)
  replace Nd := Aside0.mk (Nd.out.below hb9)
  replace HB := Aside0.mk (below_step HB.out hb9)
  have Nx := Aside0.mk hN9
  clear hN9 hb9
  go_wp2_with (first
    | (refine wpList_load_mid (by rfl) 37 _ (by rfl) w.heap.size 0 (by rfl) X _ (range_of_blk (t := 37) Hn.out) Try.underlying37 rfl (by rw [Nn.out.len]; exact info_N) ?_; go_frame)
    | (refine wpList_load_mid (by rfl) 37 _ (by rfl) V1.heap.size 0 (by rfl) csa _ (range_of_blk (t := 37) Ha.out) Try.underlying37 rfl (by rw [Na.out.len]; exact info_N) ?_; go_frame)
    | (refine wpList_load_mid (by rfl) 37 _ (by rfl) V3.heap.size 0 (by rfl) csb _ (range_of_blk (t := 37) Hb.out) Try.underlying37 rfl (by rw [Nb.out.len]; exact info_N) ?_; go_frame)
    | (refine wpList_load_mid (by rfl) 37 _ (by rfl) V5.heap.size 0 (by rfl) csc _ (range_of_blk (t := 37) Hc.out) Try.underlying37 rfl (by rw [Nc.out.len]; exact info_N) ?_; go_frame)
    | (refine wpList_load_mid (by rfl) 37 _ (by rfl) V7.heap.size 0 (by rfl) csd _ (range_of_blk (t := 37) Hd.out) Try.underlying37 rfl (by rw [Nd.out.len]; exact info_N) ?_; go_frame)
    | (refine wpl_allocN (by rfl) (by rfl) ?_; go_frame)
    | (refine wpl_store_newA 37 V9 zeroV.toArray csx Nx.out.one (by rw [Nx.out.len]; exact info_N) (by rfl) (by rw [Nx.out.len]; rfl) (by rfl) _ _ (by rfl) (by rfl) (by rfl) ?_; intro U10 hbk10 hBk10 hsk10; replace Hn := Aside0.mk (blk_below Hn.out hBk10); replace Nn := Aside0.mk (Nn.out.below hBk10); replace Ha := Aside0.mk (blk_below Ha.out hBk10); replace Na := Aside0.mk (Na.out.below hBk10); replace Hb := Aside0.mk (blk_below Hb.out hBk10); replace Nb := Aside0.mk (Nb.out.below hBk10); replace Hc := Aside0.mk (blk_below Hc.out hBk10); replace Nc := Aside0.mk (Nc.out.below hBk10); replace Hd := Aside0.mk (blk_below Hd.out hBk10); replace Nd := Aside0.mk (Nd.out.below hBk10); replace Nx := Aside0.mk (Nx.out.below hBk10); replace HB := Aside0.mk (below_step HB.out hBk10); have Hx := Aside0.mk hbk10; clear hbk10 hBk10 hsk10; go_frame)
    | (refine wpList_load_mid (by rfl) 37 _ (by rfl) V9.heap.size 0 (by rfl) csx _ (range_of_blk (t := 37) Hx.out) Try.underlying37 rfl (by rw [Nx.out.len]; exact info_N) ?_; go_frame))
  have hcn := sameN_calls csc _ csd _ _ Nc.out Nd.out
  rw [HS1.out] at hcn
  refine hcn.mono ?_
  rintro e V11 ⟨rfl, hb11⟩
  clear hcn
  replace Hn := Aside0.mk (blk_below Hn.out hb11)
  replace Nn := Aside0.mk (Nn.out.below hb11)
  replace Ha := Aside0.mk (blk_below Ha.out hb11)
  replace Na := Aside0.mk (Na.out.below hb11)
  replace Hb := Aside0.mk (blk_below Hb.out hb11)
  replace Nb := Aside0.mk (Nb.out.below hb11)
  replace Hc := Aside0.mk (blk_below Hc.out hb11)
  replace Nc := Aside0.mk (Nc.out.below hb11)
  replace Hd := Aside0.mk (blk_below Hd.out hb11)
  replace Nd := Aside0.mk (Nd.out.below hb11)
  replace Hx := Aside0.mk (blk_below Hx.out hb11)
  replace Nx := Aside0.mk (Nx.out.below hb11)
  replace HB := Aside0.mk (below_step HB.out hb11)
  clear hb11
  go_wp2_with (first
    | (refine wpList_load_mid (by rfl) 37 _ (by rfl) w.heap.size 0 (by rfl) X _ (range_of_blk (t := 37) Hn.out) Try.underlying37 rfl (by rw [Nn.out.len]; exact info_N) ?_; go_frame)
    | (refine wpList_load_mid (by rfl) 37 _ (by rfl) V1.heap.size 0 (by rfl) csa _ (range_of_blk (t := 37) Ha.out) Try.underlying37 rfl (by rw [Na.out.len]; exact info_N) ?_; go_frame)
    | (refine wpList_load_mid (by rfl) 37 _ (by rfl) V3.heap.size 0 (by rfl) csb _ (range_of_blk (t := 37) Hb.out) Try.underlying37 rfl (by rw [Nb.out.len]; exact info_N) ?_; go_frame)
    | (refine wpList_load_mid (by rfl) 37 _ (by rfl) V5.heap.size 0 (by rfl) csc _ (range_of_blk (t := 37) Hc.out) Try.underlying37 rfl (by rw [Nc.out.len]; exact info_N) ?_; go_frame)
    | (refine wpList_load_mid (by rfl) 37 _ (by rfl) V7.heap.size 0 (by rfl) csd _ (range_of_blk (t := 37) Hd.out) Try.underlying37 rfl (by rw [Nd.out.len]; exact info_N) ?_; go_frame)
    | (refine wpList_load_mid (by rfl) 37 _ (by rfl) V9.heap.size 0 (by rfl) csx _ (range_of_blk (t := 37) Hx.out) Try.underlying37 rfl (by rw [Nx.out.len]; exact info_N) ?_; go_frame))
  have hcn := sameN_calls csx _ csb _ _ Nx.out Nb.out
  rw [HS2.out] at hcn
  refine hcn.mono ?_
  rintro e V12 ⟨rfl, hb12⟩
  clear hcn
  replace Hn := Aside0.mk (blk_below Hn.out hb12)
  replace Nn := Aside0.mk (Nn.out.below hb12)
  replace Ha := Aside0.mk (blk_below Ha.out hb12)
  replace Na := Aside0.mk (Na.out.below hb12)
  replace Hb := Aside0.mk (blk_below Hb.out hb12)
  replace Nb := Aside0.mk (Nb.out.below hb12)
  replace Hc := Aside0.mk (blk_below Hc.out hb12)
  replace Nc := Aside0.mk (Nc.out.below hb12)
  replace Hd := Aside0.mk (blk_below Hd.out hb12)
  replace Nd := Aside0.mk (Nd.out.below hb12)
  replace Hx := Aside0.mk (blk_below Hx.out hb12)
  replace Nx := Aside0.mk (Nx.out.below hb12)
  replace HB := Aside0.mk (below_step HB.out hb12)
  clear hb12
  go_wp2
  go_ret
  exact ⟨rfl, HB.out⟩
end Go.Proofs.Ytameeejfkgoheaa.P
