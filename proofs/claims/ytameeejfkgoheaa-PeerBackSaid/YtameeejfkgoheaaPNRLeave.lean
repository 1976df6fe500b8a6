/- ref19.Leave. By hand. -/
import Derived.Test.YtameeejfkgoheaaPNRJoin
namespace Go.Proofs.Ytameeejfkgoheaa.P
open Go.RowKit Go.Proofs.YtameeejfkgoheaaW.PrintWords Go.Proofs.YtameeejfkgoheaaW.PrintLast Go.Proofs.YtameeejfkgoheaaW.PrintMore Go.Proofs.YtameeejfkgoheaaW
set_option linter.unusedVariables false
set_option linter.unusedSimpArgs false
def leaveN (n : Nd) (p : Int) : Nd × Int := if n.peers.contains p then ({n with peers := n.peers.filter fun q => !(q == p)}, 0) else (zeroN, 3)
set_option maxHeartbeats 8000000 in
set_option maxRecDepth 100000 in
theorem rleave_calls (cs : List Value) (n : Nd) (p : Int) (w : World) (hn : NodeIs w cs n) (hf : FitN n) :
    Calls Try.prog 20 #[.agg cs.toArray, .int .i64 p] w (RetN w (leaveN n p)) := by
  obtain ⟨dA, dc, lA, lc, tA, tc, pA, pc, rfl, h1, h2, h3, h4, h5⟩ := hn
  obtain ⟨X, hX⟩ : ∃ X, X = cellsN n (.slice dA n.disk.length dc) (.slice lA n.L.length lc) (.slice tA n.T.length tc) (.slice pA n.peers.length pc) := ⟨_, rfl⟩
  rw [← hX]
  have hbx : ((w.alloc (.cells X.toArray 37)).alloc (.cells zeroV.toArray 37)).heap[w.heap.size]? = some (.cells (cellsN n (.slice dA n.disk.length dc) (.slice lA n.L.length lc) (.slice tA n.T.length tc) (.slice pA n.peers.length pc)).toArray 37 (0, 0)) := by rw [← hX]; exact blk_alloc (blk_new w _) _
  have HR := Aside0.mk (blk_new2' w (.cells X.toArray 37) (.cells zeroV.toArray 37))
  have HB := Aside0.mk (below_alloc (below_alloc (Below.refl w.heap.size w) (.cells X.toArray 37)) (.cells zeroV.toArray 37))
  have c0 := (blk10 hbx).1
  have c7 := (blk10 hbx).2.2.2.2.2.2.2.1
  have HX := Aside0.mk hbx
  have HS := Aside0.mk (rhasP_calls pA pc n.peers p _ (Kd.C_below h4 HB.out))
  have H1 := Aside0.mk h1
  have H2 := Aside0.mk h2
  have H3 := Aside0.mk h3
  have H4 := Aside0.mk h4
  have hpc := h5
  have hp63 := h4.2.1
  have hpl : n.peers.length ≤ 100000 := hf.2.2.2
  clear h1 h2 h3 h4 h5 hX hbx hf
  cases hc : n.peers.contains p with
  | false =>
    have hj : leaveN n p = (zeroN, 3) := by unfold leaveN; rw [if_neg (by rw [hc]; simp)]
    rw [hj]
    rw [hc] at HS
    clear hj hc
    go_enter Try.func20, Try.ntmps20
    go_wp2_with (first
      | (refine wpl_allocN (by rfl) (by rfl) ?_; go_frame)
      | (go_at_call 14; refine HS.out.mono ?_; rintro e w1 ⟨rfl, hbb⟩; have HR := Aside0.mk (blk_below HR.out hbb); have HB := Aside0.mk (below_step HB.out hbb); clear hbb c0 c7; go_frame)
      | (refine wpl_build0N (by rfl) (by rfl) ?_; go_frame)
      | (refine wpl_store_blkA 37 (w.heap.size + 1) zeroV.toArray zeroV (zero_is w).one (by rw [(zero_is w).len]; exact info_N) HR.out (by rfl) (by rfl) _ _ (by rfl) (by rfl) (by rfl) ?_; intro W1 hb1 hB1 hf1 hs1 ht1; have HB1 := Aside0.mk (hB1 w (by omega) HB.out); clear hB1 hf1 hs1 ht1; go_frame)
      | (refine wpl_store_blkA 37 (w.alloc (.cells X.toArray 37)).heap.size zeroV.toArray zeroV (zero_is w).one (by rw [(zero_is w).len]; exact info_N) (by rw [heap_alloc1]; exact HR.out) (by rfl) (by rfl) _ _ (by rfl) (by rfl) (by rfl) ?_; intro W1 hb1 hB1 hf1 hs1 ht1; have HB1 := Aside0.mk (hB1 w (by rw [heap_alloc1]; omega) HB.out); clear hB1 hf1 hs1 ht1; go_frame))
    have hb1' := hb1
    try simp only [heap_alloc1] at hb1'
    first
    | exact bodyPost_ret (results_N rfl hb1 (zero_is w).len _ rfl rfl) rfl ⟨zeroV, rfl, zero_is _, HB1.out⟩
    | exact bodyPost_ret (results_N rfl hb1' (zero_is w).len _ rfl rfl) rfl ⟨zeroV, rfl, zero_is _, HB1.out⟩
  | true =>
    have hj : leaveN n p = ({n with peers := n.peers.filter fun q => !(q == p)}, 0) := by unfold leaveN; rw [if_pos hc]
    rw [hj]
    rw [hc] at HS
    clear hj hc
    go_enter Try.func20, Try.ntmps20
    go_wp2_with (first
      | (refine wpl_allocN (by rfl) (by rfl) ?_; go_frame)
      | (go_at_call 14; refine HS.out.mono ?_; rintro e w1 ⟨rfl, hbb⟩; have HR1 := Aside0.mk (blk_below HR.out hbb); have HX := Aside0.mk (blk_below HX.out hbb); have HB := Aside0.mk (below_step HB.out hbb); have HP := Aside0.mk (Kd.C_below H4.out HB.out); have hw1 : w.heap.size + 1 < w1.heap.size := (by have := hbb.size; simp at this; omega); clear hbb c0 c7 HR; go_frame))
    go_loopw [7, 8] (fun v i wr => ∃ (k : Nat) (out : List Int), k ≤ n.peers.length ∧ i = .int .i64 k ∧ Aside0 (out = (n.peers.take k).filter fun q => !(q == p)) ∧ Aside0 (wr.ownsRow w1.heap.size 3 1 v out.length (encI1 out)) ∧ Aside0 (Below w1.heap.size w1 wr)) (fun _ i _ => n.peers.length - (intOf i).toNat)
    case atStart => exact ⟨0, [], Nat.zero_le _, rfl, ⟨rfl⟩, ⟨own_nil _ _ _ _⟩, ⟨Below.refl _ _⟩⟩
    case round =>
      obtain ⟨k, out, hk, rfl, hE, hO, HBr⟩ := hrel
      obtain ⟨A, c, rfl⟩ := own_slice hO.out
      have c7 := (blk10 (blk_below HX.out HBr.out)).2.2.2.2.2.2.2.1
      have hk0 : (0 : Int) ≤ (k : Int) := Int.natCast_nonneg _
      by_cases hlt : k < n.peers.length
      · obtain ⟨b, o, rfl⟩ := at_P HP.out (by omega)
        have hx := cell_P (Kd.C_below HP.out HBr.out) k hlt
        have hk1 : (k : Int) < (n.peers.length : Int) := by omega
        have HS2 : Aside0 ((n.peers.take (k + 1)).filter (fun q => !(q == p)) = out ++ if n.peers.getD k 0 = p then [] else [n.peers.getD k 0]) := ⟨by
          rw [hE.out, List.take_succ_eq_append_getElem hlt, List.filter_append, List.getD_eq_getElem?_getD, List.getElem?_eq_getElem hlt]
          by_cases e : n.peers[k] = p <;> simp [e, List.filter_cons]⟩
        have hlen0 : out.length ≤ k := by
          rw [hE.out]
          exact Nat.le_trans (List.length_filter_le _ _) (by rw [List.length_take]; omega)
        generalize n.peers.getD k 0 = x at *
        clear hE
        by_cases hxp : x = p
        · have HS3 : Aside0 ((n.peers.take (k + 1)).filter (fun q => !(q == p)) = out) := ⟨by rw [HS2.out, if_pos hxp, List.append_nil]⟩
          clear HS2
          go_wp2
          go_roundw
          case rel => exact ⟨k + 1, out, by omega, by go_num, ⟨HS3.out.symm⟩, hO, HBr⟩
          case measure => simp [intOf]; omega
        · have HS3 : Aside0 ((n.peers.take (k + 1)).filter (fun q => !(q == p)) = out ++ [x]) := ⟨by rw [HS2.out, if_neg hxp]⟩
          clear HS2
          have hbs := HBr.out.size
          obtain ⟨v2, V2, hr2, ho2, hg2, A2, c2, rfl⟩ := app_P (wr.alloc (.cells #[.int .i64 x] 3)) 28 (hO.out.alloc _) (some ⟨wr.heap.size, 0, none⟩) 1 [x] (C_one (blk_new wr _)) (by simp <;> omega) (by simp; omega)
          have HB2 := Aside0.mk ((below_alloc HBr.out (.cells #[.int .i64 x] 3)).grown hg2 (by simp; omega) (own_base hO.out))
          obtain ⟨r, hrr⟩ : ∃ r, r = out ++ [x] := ⟨_, rfl⟩
          rw [← hrr] at hr2 ho2
          rw [show [x].length = 1 from rfl] at hr2
          have HRR := Aside0.mk hrr
          have HO2 := Aside0.mk ho2
          clear hrr ho2 hg2
          go_wp2_with (first
            | (at_builtin; refine Lib.wpList_append_run _ rfl _ _ _ _ rfl _ _ rfl rfl _ _ hr2 ?_; clear hr2; go_frame))
          go_roundw
          case rel => exact ⟨k + 1, r, by omega, by go_num, ⟨by rw [HRR.out, HS3.out]⟩, HO2, HB2⟩
          case measure => simp [intOf]; omega
      · have hk1 : ¬ (k : Int) < (n.peers.length : Int) := by omega
        have HR9 : Aside0 (out = n.peers.filter fun q => !(q == p)) := ⟨by rw [hE.out, List.take_of_length_le (by omega)]⟩
        have f7 := blk_frozen (blk_below HX.out HBr.out) 7
        obtain ⟨V4, hV4⟩ : ∃ V4, V4 = wr.setCell ⟨w.heap.size, 7, none⟩ (.slice A out.length c) := ⟨_, rfl⟩
        have HX4 : Aside0 (V4.heap[w.heap.size]? = some (.cells (cellsN n (.slice dA n.disk.length dc) (.slice lA n.L.length lc) (.slice tA n.T.length tc) (.slice A out.length c)).toArray 37 (0, 0))) := ⟨by rw [hV4]; exact blk_set (blk_below HX.out HBr.out) 7 _⟩
        have HR4 : Aside0 (V4.heap[w.heap.size + 1]? = some (.cells zeroV.toArray 37 (0, 0))) := ⟨by rw [hV4, Below.heap_setCell wr ⟨w.heap.size, 7, none⟩ _ (w.heap.size + 1) (by simp)]; exact blk_below HR1.out HBr.out⟩
        have HB4 : Aside0 (Below w.heap.size w V4) := ⟨by rw [hV4]; exact below_set (below_step HB.out HBr.out) (Nat.le_refl _)⟩
        have HO4 : Aside0 (V4.ownsRow w1.heap.size 3 1 (.slice A out.length c) out.length (encI1 out)) := ⟨by rw [hV4]; exact own_move hO.out (fun j hj => Below.heap_setCell wr ⟨w.heap.size, 7, none⟩ _ j (by have := own_base hO.out j hj; show j ≠ w.heap.size; omega))⟩
        have HV4 := Aside0.mk hV4
        clear hV4 hE hO
        go_wp2_with (first
          | (rw [← HV4.out]; refine wpList_load_mid (by rfl) 37 _ (by rfl) w.heap.size 0 (by rfl) (cellsN n (.slice dA n.disk.length dc) (.slice lA n.L.length lc) (.slice tA n.T.length tc) (.slice A out.length c)) _ (range_of_blk (t := 37) HX4.out) Try.underlying37 rfl info_N ?_; go_frame)
          | (refine wpl_store_blkA 37 (w.heap.size + 1) zeroV.toArray (cellsN n (.slice dA n.disk.length dc) (.slice lA n.L.length lc) (.slice tA n.T.length tc) (.slice A out.length c)) cellsN_one info_N HR4.out (by rfl) (by rfl) _ _ (by rfl) (by rfl) (by rfl) ?_; intro W5 hb5 hB5 hf5 hs5 ht5; have HB5 := Aside0.mk (hB5 w (Nat.le_succ _) HB4.out); have HF5 := Aside0.mk hf5; clear hB5 hf5 hs5 ht5; go_frame)
          | (refine wpl_store_blkA 37 (w.alloc (.cells X.toArray 37)).heap.size zeroV.toArray (cellsN n (.slice dA n.disk.length dc) (.slice lA n.L.length lc) (.slice tA n.T.length tc) (.slice A out.length c)) cellsN_one info_N (by rw [heap_alloc1]; exact HR4.out) (by rfl) (by rfl) _ _ (by rfl) (by rfl) (by rfl) ?_; intro W5 hb5 hB5 hf5 hs5 ht5; have HB5 := Aside0.mk (hB5 w (by rw [heap_alloc1]; omega) HB4.out); rw [heap_alloc1] at hf5 hb5; have HF5 := Aside0.mk hf5; clear hB5 hf5 hs5 ht5; go_frame))
        have HP5 := read_P rfl (own_move HO4.out (fun j hj => HF5.out j (by have := own_base HO4.out j hj; omega)))
        have e9 := HR9.out
        subst e9
        exact bodyPost_ret (results_N rfl hb5 rfl _ rfl rfl) rfl ⟨_, rfl, ⟨dA, dc, lA, lc, tA, tc, A, c, rfl, Kd.C_below H1.out HB5.out, Kd.C_below H2.out HB5.out, Kd.C_below H3.out HB5.out, HP5.1, HP5.2⟩, HB5.out⟩
end Go.Proofs.Ytameeejfkgoheaa.P
