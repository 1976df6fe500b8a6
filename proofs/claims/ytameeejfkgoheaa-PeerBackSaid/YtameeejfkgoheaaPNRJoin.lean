/- ref19.Join. By hand. -/
import Derived.Test.YtameeejfkgoheaaPNRHas
namespace Go.Proofs.Ytameeejfkgoheaa.P
open Go.RowKit Go.Proofs.YtameeejfkgoheaaW.PrintWords Go.Proofs.YtameeejfkgoheaaW.PrintLast Go.Proofs.YtameeejfkgoheaaW.PrintMore Go.Proofs.YtameeejfkgoheaaW
set_option linter.unusedVariables false
set_option linter.unusedSimpArgs false
theorem posI_at {p : Int} {l : List Int} {m : Nat} (hm : m ≤ l.length) (h1 : ∀ j, j < m → l.getD j 0 < p) (h2 : m < l.length → ¬ l.getD m 0 < p) : posI p l = m := by
  have h := firstAt_drop (geI p) l m hm (fun j hj hl => by
    have := h1 j hj
    rw [List.getD_eq_getElem?_getD, List.getElem?_eq_getElem hl] at this
    unfold geI
    exact decide_eq_false (by simpa using this))
  unfold posI
  rw [← h]
  by_cases hlt : m < l.length
  · have := h2 hlt
    rw [List.getD_eq_getElem?_getD, List.getElem?_eq_getElem hlt] at this
    rw [List.drop_eq_getElem_cons hlt]
    have hg : geI p l[m] = true := decide_eq_true (by simpa using this)
    simp only [firstAt, hg, if_true]
    rw [if_neg (by omega)]
    omega
  · rw [List.drop_of_length_le (by omega)]
    simp [firstAt]
    omega
theorem heap_alloc1 (w : World) (o1 : Obj) : (w.alloc o1).heap.size = w.heap.size + 1 := by simp
theorem blk_new2' (w : World) (o1 o2 : Obj) : ((w.alloc o1).alloc o2).heap[w.heap.size + 1]? = some o2 := by
  have := blk_new (w.alloc o1) o2
  simpa using this
set_option maxHeartbeats 8000000 in
set_option maxRecDepth 100000 in
theorem rjoin_calls (cs : List Value) (n : Nd) (p : Int) (w : World) (hn : NodeIs w cs n) (hf : FitN n) :
    Calls Try.prog 17 #[.agg cs.toArray, .int .i64 p] w (RetN w (joinN n p)) := by
  obtain ⟨dA, dc, lA, lc, tA, tc, pA, pc, rfl, h1, h2, h3, h4, h5⟩ := hn
  obtain ⟨X, hX⟩ : ∃ X, X = cellsN n (.slice dA n.disk.length dc) (.slice lA n.L.length lc) (.slice tA n.T.length tc) (.slice pA n.peers.length pc) := ⟨_, rfl⟩
  rw [← hX]
  have hbx : ((w.alloc (.cells X.toArray 37)).alloc (.cells zeroV.toArray 37)).heap[w.heap.size]? = some (.cells (cellsN n (.slice dA n.disk.length dc) (.slice lA n.L.length lc) (.slice tA n.T.length tc) (.slice pA n.peers.length pc)).toArray 37 (0, 0)) := by rw [← hX]; exact blk_alloc (blk_new w _) _
  have HR := Aside0.mk (blk_new2' w (.cells X.toArray 37) (.cells zeroV.toArray 37))
  have HB := Aside0.mk (below_alloc (below_alloc (Below.refl w.heap.size w) (.cells X.toArray 37)) (.cells zeroV.toArray 37))
  have c0 := (blk10 hbx).1
  have c7 := (blk10 hbx).2.2.2.2.2.2.2.1
  have HX := Aside0.mk hbx
  have HS := Aside0.mk (rhasP_calls pA pc n.peers p _ (Kd.C_below h4 HB.out))
  have H1 := Aside0.mk h1
  have H2 := Aside0.mk h2
  have H3 := Aside0.mk h3
  have H4 := Aside0.mk h4
  have hpc := h5
  have hp63 := h4.2.1
  have hpl : n.peers.length ≤ 100000 := hf.2.2.2
  clear h1 h2 h3 h4 h5 hX hbx hf
  by_cases hbad : p < 0 ∨ 8 ≤ p ∨ p = n.no
  · have hj : joinN n p = (zeroN, 1) := by unfold joinN; rw [if_pos hbad]
    rw [hj]
    clear hj HS
    by_cases hp0 : p < 0
    · clear hbad
      go_enter Try.func17, Try.ntmps17
      go_wp2_with (first
        | (refine wpl_allocN (by rfl) (by rfl) ?_; go_frame)
        | (refine wpl_build0N (by rfl) (by rfl) ?_; go_frame)
        | (refine wpl_store_blkA 37 (w.heap.size + 1) zeroV.toArray zeroV (zero_is w).one (by rw [(zero_is w).len]; exact info_N) HR.out (by rfl) (by rfl) _ _ (by rfl) (by rfl) (by rfl) ?_; intro W1 hb1 hB1 hf1 hs1 ht1; have HB1 := Aside0.mk (hB1 w (by omega) HB.out); clear hB1 hf1 hs1 ht1; go_frame)
        | (refine wpl_store_blkA 37 (w.alloc (.cells X.toArray 37)).heap.size zeroV.toArray zeroV (zero_is w).one (by rw [(zero_is w).len]; exact info_N) (by rw [heap_alloc1]; exact HR.out) (by rfl) (by rfl) _ _ (by rfl) (by rfl) (by rfl) ?_; intro W1 hb1 hB1 hf1 hs1 ht1; have HB1 := Aside0.mk (hB1 w (by rw [heap_alloc1]; omega) HB.out); clear hB1 hf1 hs1 ht1; go_frame))
      have hb1' := hb1
      try simp only [heap_alloc1] at hb1'
      first
      | exact bodyPost_ret (results_N rfl hb1 (zero_is w).len _ rfl rfl) rfl ⟨zeroV, rfl, zero_is _, HB1.out⟩
      | exact bodyPost_ret (results_N rfl hb1' (zero_is w).len _ rfl rfl) rfl ⟨zeroV, rfl, zero_is _, HB1.out⟩
    · by_cases hp8 : 8 ≤ p
      · clear hbad
        go_enter Try.func17, Try.ntmps17
        go_wp2_with (first
          | (refine wpl_allocN (by rfl) (by rfl) ?_; go_frame)
          | (refine wpl_build0N (by rfl) (by rfl) ?_; go_frame)
          | (refine wpl_store_blkA 37 (w.heap.size + 1) zeroV.toArray zeroV (zero_is w).one (by rw [(zero_is w).len]; exact info_N) HR.out (by rfl) (by rfl) _ _ (by rfl) (by rfl) (by rfl) ?_; intro W1 hb1 hB1 hf1 hs1 ht1; have HB1 := Aside0.mk (hB1 w (by omega) HB.out); clear hB1 hf1 hs1 ht1; go_frame)
          | (refine wpl_store_blkA 37 (w.alloc (.cells X.toArray 37)).heap.size zeroV.toArray zeroV (zero_is w).one (by rw [(zero_is w).len]; exact info_N) (by rw [heap_alloc1]; exact HR.out) (by rfl) (by rfl) _ _ (by rfl) (by rfl) (by rfl) ?_; intro W1 hb1 hB1 hf1 hs1 ht1; have HB1 := Aside0.mk (hB1 w (by rw [heap_alloc1]; omega) HB.out); clear hB1 hf1 hs1 ht1; go_frame))
        have hb1' := hb1
        try simp only [heap_alloc1] at hb1'
        first
        | exact bodyPost_ret (results_N rfl hb1 (zero_is w).len _ rfl rfl) rfl ⟨zeroV, rfl, zero_is _, HB1.out⟩
        | exact bodyPost_ret (results_N rfl hb1' (zero_is w).len _ rfl rfl) rfl ⟨zeroV, rfl, zero_is _, HB1.out⟩
      · have hpn : p = n.no := by omega
        subst hpn
        clear hbad
        go_enter Try.func17, Try.ntmps17
        go_wp2_with (first
          | (refine wpl_allocN (by rfl) (by rfl) ?_; go_frame)
          | (refine wpl_build0N (by rfl) (by rfl) ?_; go_frame)
          | (refine wpl_store_blkA 37 (w.heap.size + 1) zeroV.toArray zeroV (zero_is w).one (by rw [(zero_is w).len]; exact info_N) HR.out (by rfl) (by rfl) _ _ (by rfl) (by rfl) (by rfl) ?_; intro W1 hb1 hB1 hf1 hs1 ht1; have HB1 := Aside0.mk (hB1 w (by omega) HB.out); clear hB1 hf1 hs1 ht1; go_frame)
          | (refine wpl_store_blkA 37 (w.alloc (.cells X.toArray 37)).heap.size zeroV.toArray zeroV (zero_is w).one (by rw [(zero_is w).len]; exact info_N) (by rw [heap_alloc1]; exact HR.out) (by rfl) (by rfl) _ _ (by rfl) (by rfl) (by rfl) ?_; intro W1 hb1 hB1 hf1 hs1 ht1; have HB1 := Aside0.mk (hB1 w (by rw [heap_alloc1]; omega) HB.out); clear hB1 hf1 hs1 ht1; go_frame))
        have hb1' := hb1
        try simp only [heap_alloc1] at hb1'
        first
        | exact bodyPost_ret (results_N rfl hb1 (zero_is w).len _ rfl rfl) rfl ⟨zeroV, rfl, zero_is _, HB1.out⟩
        | exact bodyPost_ret (results_N rfl hb1' (zero_is w).len _ rfl rfl) rfl ⟨zeroV, rfl, zero_is _, HB1.out⟩
  · have hp0 : ¬ p < 0 := fun h => hbad (.inl h)
    have hp8 : ¬ 8 ≤ p := fun h => hbad (.inr (.inl h))
    have hpn : ¬ p = n.no := fun h => hbad (.inr (.inr h))
    cases hc : n.peers.contains p with
    | true =>
      have hj : joinN n p = (zeroN, 7) := by unfold joinN; rw [if_neg hbad, if_pos hc]
      rw [hj]
      rw [hc] at HS
      clear hj hc hbad
      go_enter Try.func17, Try.ntmps17
      go_wp2_with (first
        | (refine wpl_allocN (by rfl) (by rfl) ?_; go_frame)
        | (go_at_call 14; refine HS.out.mono ?_; rintro e w1 ⟨rfl, hbb⟩; have HR := Aside0.mk (blk_below HR.out hbb); have HB := Aside0.mk (below_step HB.out hbb); clear hbb c0 c7; go_frame)
        | (refine wpl_build0N (by rfl) (by rfl) ?_; go_frame)
        | (refine wpl_store_blkA 37 (w.heap.size + 1) zeroV.toArray zeroV (zero_is w).one (by rw [(zero_is w).len]; exact info_N) HR.out (by rfl) (by rfl) _ _ (by rfl) (by rfl) (by rfl) ?_; intro W1 hb1 hB1 hf1 hs1 ht1; have HB1 := Aside0.mk (hB1 w (by omega) HB.out); clear hB1 hf1 hs1 ht1; go_frame)
        | (refine wpl_store_blkA 37 (w.alloc (.cells X.toArray 37)).heap.size zeroV.toArray zeroV (zero_is w).one (by rw [(zero_is w).len]; exact info_N) (by rw [heap_alloc1]; exact HR.out) (by rfl) (by rfl) _ _ (by rfl) (by rfl) (by rfl) ?_; intro W1 hb1 hB1 hf1 hs1 ht1; have HB1 := Aside0.mk (hB1 w (by rw [heap_alloc1]; omega) HB.out); clear hB1 hf1 hs1 ht1; go_frame))
      have hb1' := hb1
      try simp only [heap_alloc1] at hb1'
      first
      | exact bodyPost_ret (results_N rfl hb1 (zero_is w).len _ rfl rfl) rfl ⟨zeroV, rfl, zero_is _, HB1.out⟩
      | exact bodyPost_ret (results_N rfl hb1' (zero_is w).len _ rfl rfl) rfl ⟨zeroV, rfl, zero_is _, HB1.out⟩
    | false =>
      have hj : joinN n p = ({n with peers := insP p n.peers}, 0) := by unfold joinN; rw [if_neg hbad, if_neg (by rw [hc]; simp)]
      rw [hj]
      rw [hc] at HS
      clear hj hc hbad
      go_enter Try.func17, Try.ntmps17
      go_wp2_with (first
        | (refine wpl_allocN (by rfl) (by rfl) ?_; go_frame)
        | (go_at_call 14; refine HS.out.mono ?_; rintro e w1 ⟨rfl, hbb⟩; have HR1 := Aside0.mk (blk_below HR.out hbb); have HX := Aside0.mk (blk_below HX.out hbb); have HB := Aside0.mk (below_step HB.out hbb); have HP := Aside0.mk (Kd.C_below H4.out HB.out); have hw1 : w.heap.size + 1 < w1.heap.size := (by have := hbb.size; simp at this; omega); clear hbb c0 c7 HR; go_frame))
      have c7 := (blk10 HX.out).2.2.2.2.2.2.2.1
      go_loop [7] (fun i => ∃ m : Nat, m ≤ n.peers.length ∧ i = .int .i64 m ∧ Aside0 (∀ j, j < m → n.peers.getD j 0 < p)) (fun i => n.peers.length - (intOf i).toNat)
      case atStart => exact ⟨0, Nat.zero_le _, rfl, ⟨fun j hj => absurd hj (by omega)⟩⟩
      case round =>
        obtain ⟨m, hm, rfl, HM⟩ := hrel
        have hk0 : (0 : Int) ≤ (m : Int) := Int.natCast_nonneg _
        have hmp : m ≤ pc := by omega
        have hmpi : (m : Int) ≤ (pc : Int) := by omega
        by_cases hlt : m < n.peers.length
        · obtain ⟨b, o, rfl⟩ := at_P HP.out (by omega)
          have hx := cell_P HP.out m hlt
          have hk1 : (m : Int) < (n.peers.length : Int) := by omega
          by_cases hxp : n.peers.getD m 0 < p
          · have HM2 : Aside0 (∀ j, j < m + 1 → n.peers.getD j 0 < p) := ⟨fun j hj => by
              by_cases q : j < m
              · exact HM.out j q
              · obtain rfl : j = m := by omega
                exact hxp⟩
            generalize n.peers.getD m 0 = x at hx hxp
            go_wp2
            go_round
            case rel => exact ⟨m + 1, by omega, by go_num, HM2⟩
            case measure => simp [intOf]; omega
          · have HPOS : Aside0 (posI p n.peers = m) := ⟨posI_at hm HM.out (fun _ => hxp)⟩
            generalize n.peers.getD m 0 = x at hx hxp
            obtain ⟨pA, hpA⟩ : ∃ A : Option Addr, A = some ⟨b, o, none⟩ := ⟨_, rfl⟩
            clear hpA pA
            obtain ⟨P1, hP1⟩ : ∃ q, q = n.peers.take m := ⟨_, rfl⟩
            obtain ⟨D1, hD1⟩ : ∃ q, q = n.peers.drop m := ⟨_, rfl⟩
            have hlp : P1.length = m := by rw [hP1, List.length_take]; omega
            have hld : D1.length = n.peers.length - m := by rw [hD1]; exact List.length_drop
            obtain ⟨iI, hiI, _, hsI, _⟩ := info_int
            obtain ⟨v1, V1, hr1, ho1, hg1, A1, c1, rfl⟩ := app_P w1 28 (base := w1.heap.size) (l1 := []) (own_nil _ _ _ _) (some ⟨b, o, none⟩) pc P1 (by rw [hP1]; exact Kd.C_take HP.out hm) (by simp <;> omega) (Nat.le_refl _)
            simp only [List.nil_append, List.length_nil] at hr1 ho1
            have HB1 := Aside0.mk ((Below.refl w1.heap.size w1).grown hg1 (Nat.le_refl _) (fun j hj => by cases hj))
            have HO1 := Aside0.mk ho1
            clear ho1 hg1
            obtain ⟨v2, V2, hr2, ho2, hg2, A2, c2, rfl⟩ := app_P (V1.alloc (.cells #[.int .i64 p] 3)) 28 (HO1.out.alloc _) (some ⟨V1.heap.size, 0, none⟩) 1 [p] (C_one (blk_new V1 _)) (by simp <;> omega) (by have := HB1.out.size; simp; omega)
            have HB2 := Aside0.mk ((below_alloc HB1.out (.cells #[.int .i64 p] 3)).grown hg2 (by have := HB1.out.size; simp; omega) (own_base HO1.out))
            have HO2 := Aside0.mk ho2
            clear ho2 hg2
            obtain ⟨A3, hs3, hC3⟩ : ∃ A3, (∀ W : World, (Instr.slice 28 (.slice (some ⟨b, o, none⟩) n.peers.length pc) (some (.int .i64 (m : Int))) none none).run Try.prog W = .ok (.slice A3 (n.peers.length - m) (pc - m)) W) ∧ Kd.C kP V2 A3 D1.length D1 :=
              ⟨_, fun W => cut_from 28 3 .i64 Try.underlying28 hiI 1 hsI (some ⟨b, o, none⟩) n.peers.length pc (m : Int) (by omega) (by omega) W, by rw [hD1]; exact Kd.C_drop (Kd.C_below HP.out HB2.out) hm hpc⟩
            obtain ⟨v3, V3, hr3, ho3, hg3, A4, c4, rfl⟩ := app_P V2 28 HO2.out A3 (pc - m) D1 hC3 (by simp <;> omega) (by have := HB2.out.size; omega)
            have HB3 := Aside0.mk (HB2.out.grown hg3 (by have := HB2.out.size; omega) (own_base HO2.out))
            obtain ⟨r, hrr⟩ : ∃ r, r = P1 ++ [p] ++ D1 := ⟨_, rfl⟩
            have HR9 : Aside0 (r = insP p n.peers) := ⟨by rw [hrr, hP1, hD1]; unfold insP; rw [HPOS.out]; simp⟩
            rw [← hrr] at ho3 hr3
            have HO3 := Aside0.mk ho3
            have hl2 : (P1 ++ [p]).length = m + 1 := by simp [hlp]
            rw [hlp] at hr1 hr2
            rw [hl2] at hr2 hr3
            rw [show [p].length = 1 from rfl] at hr2
            rw [hld] at hr3
            have c72 : V2.cell? ⟨w.heap.size, 7, none⟩ = some (.slice (some ⟨b, o, none⟩) n.peers.length pc) := (blk10 (blk_below HX.out HB2.out)).2.2.2.2.2.2.2.1
            have c73 : V3.cell? ⟨w.heap.size, 7, none⟩ = some (.slice (some ⟨b, o, none⟩) n.peers.length pc) := (blk10 (blk_below HX.out HB3.out)).2.2.2.2.2.2.2.1
            have f73 := blk_frozen (blk_below HX.out HB3.out) 7
            obtain ⟨V4, hV4⟩ : ∃ V4, V4 = V3.setCell ⟨w.heap.size, 7, none⟩ (.slice A4 r.length c4) := ⟨_, rfl⟩
            have HX4 : Aside0 (V4.heap[w.heap.size]? = some (.cells (cellsN n (.slice dA n.disk.length dc) (.slice lA n.L.length lc) (.slice tA n.T.length tc) (.slice A4 r.length c4)).toArray 37 (0, 0))) := ⟨by rw [hV4]; exact blk_set (blk_below HX.out HB3.out) 7 _⟩
            have HR4 : Aside0 (V4.heap[w.heap.size + 1]? = some (.cells zeroV.toArray 37 (0, 0))) := ⟨by rw [hV4, Below.heap_setCell V3 ⟨w.heap.size, 7, none⟩ _ (w.heap.size + 1) (by simp)]; exact blk_below HR1.out HB3.out⟩
            have HB4 : Aside0 (Below w.heap.size w V4) := ⟨by rw [hV4]; exact below_set (below_step HB.out HB3.out) (Nat.le_refl _)⟩
            have HO4 : Aside0 (V4.ownsRow w1.heap.size 3 1 (.slice A4 r.length c4) r.length (encI1 r)) := ⟨by rw [hV4]; exact own_move HO3.out (fun j hj => Below.heap_setCell V3 ⟨w.heap.size, 7, none⟩ _ j (by have := own_base HO3.out j hj; show j ≠ w.heap.size; omega))⟩
            have HV4 := Aside0.mk hV4
            clear ho3 hg3 hC3 hlp hld hiI hsI hP1 hD1 hrr hl2 HO1 HO2 HB1 HB2 HB3 HO3 hV4 HPOS
            go_wp2_with (first
              | (at_builtin; refine Lib.wpList_append_run _ rfl _ _ _ _ rfl _ _ rfl rfl _ _ hr1 ?_; clear hr1; go_frame)
              | (at_builtin; refine Lib.wpList_append_run _ rfl _ _ _ _ rfl _ _ rfl rfl _ _ hr2 ?_; clear hr2; go_frame)
              | (at_builtin; refine Lib.wpList_append_run _ rfl _ _ _ _ rfl _ _ rfl rfl _ _ hr3 ?_; clear hr3; go_frame)
              | (rw [← HV4.out]; refine wpList_load_mid (by rfl) 37 _ (by rfl) w.heap.size 0 (by rfl) (cellsN n (.slice dA n.disk.length dc) (.slice lA n.L.length lc) (.slice tA n.T.length tc) (.slice A4 r.length c4)) _ (range_of_blk (t := 37) HX4.out) Try.underlying37 rfl info_N ?_; go_frame)
              | (refine wpl_store_blkA 37 (w.heap.size + 1) zeroV.toArray (cellsN n (.slice dA n.disk.length dc) (.slice lA n.L.length lc) (.slice tA n.T.length tc) (.slice A4 r.length c4)) cellsN_one info_N HR4.out (by rfl) (by rfl) _ _ (by rfl) (by rfl) (by rfl) ?_; intro W5 hb5 hB5 hf5 hs5 ht5; have HB5 := Aside0.mk (hB5 w (Nat.le_succ _) HB4.out); have HF5 := Aside0.mk hf5; clear hB5 hf5 hs5 ht5; go_frame))
            have HP5 := read_P rfl (own_move HO4.out (fun j hj => HF5.out j (by have := own_base HO4.out j hj; omega)))
            have e9 := HR9.out
            subst e9
            exact bodyPost_ret (results_N rfl hb5 rfl _ rfl rfl) rfl ⟨_, rfl, ⟨dA, dc, lA, lc, tA, tc, A4, c4, rfl, Kd.C_below H1.out HB5.out, Kd.C_below H2.out HB5.out, Kd.C_below H3.out HB5.out, HP5.1, HP5.2⟩, HB5.out⟩
        · have HPOS : Aside0 (posI p n.peers = m) := ⟨posI_at hm HM.out (fun h => absurd h hlt)⟩
          have hk1 : ¬ (m : Int) < (n.peers.length : Int) := by omega
          obtain ⟨P1, hP1⟩ : ∃ q, q = n.peers.take m := ⟨_, rfl⟩
          obtain ⟨D1, hD1⟩ : ∃ q, q = n.peers.drop m := ⟨_, rfl⟩
          have hlp : P1.length = m := by rw [hP1, List.length_take]; omega
          have hld : D1.length = n.peers.length - m := by rw [hD1]; exact List.length_drop
          obtain ⟨iI, hiI, _, hsI, _⟩ := info_int
          obtain ⟨v1, V1, hr1, ho1, hg1, A1, c1, rfl⟩ := app_P w1 28 (base := w1.heap.size) (l1 := []) (own_nil _ _ _ _) pA pc P1 (by rw [hP1]; exact Kd.C_take HP.out hm) (by simp <;> omega) (Nat.le_refl _)
          simp only [List.nil_append, List.length_nil] at hr1 ho1
          have HB1 := Aside0.mk ((Below.refl w1.heap.size w1).grown hg1 (Nat.le_refl _) (fun j hj => by cases hj))
          have HO1 := Aside0.mk ho1
          clear ho1 hg1
          obtain ⟨v2, V2, hr2, ho2, hg2, A2, c2, rfl⟩ := app_P (V1.alloc (.cells #[.int .i64 p] 3)) 28 (HO1.out.alloc _) (some ⟨V1.heap.size, 0, none⟩) 1 [p] (C_one (blk_new V1 _)) (by simp <;> omega) (by have := HB1.out.size; simp; omega)
          have HB2 := Aside0.mk ((below_alloc HB1.out (.cells #[.int .i64 p] 3)).grown hg2 (by have := HB1.out.size; simp; omega) (own_base HO1.out))
          have HO2 := Aside0.mk ho2
          clear ho2 hg2
          obtain ⟨A3, hs3, hC3⟩ : ∃ A3, (∀ W : World, (Instr.slice 28 (.slice pA n.peers.length pc) (some (.int .i64 (m : Int))) none none).run Try.prog W = .ok (.slice A3 (n.peers.length - m) (pc - m)) W) ∧ Kd.C kP V2 A3 D1.length D1 :=
            ⟨_, fun W => cut_from 28 3 .i64 Try.underlying28 hiI 1 hsI pA n.peers.length pc (m : Int) (by omega) (by omega) W, by rw [hD1]; exact Kd.C_drop (Kd.C_below HP.out HB2.out) hm hpc⟩
          obtain ⟨v3, V3, hr3, ho3, hg3, A4, c4, rfl⟩ := app_P V2 28 HO2.out A3 (pc - m) D1 hC3 (by simp <;> omega) (by have := HB2.out.size; omega)
          have HB3 := Aside0.mk (HB2.out.grown hg3 (by have := HB2.out.size; omega) (own_base HO2.out))
          obtain ⟨r, hrr⟩ : ∃ r, r = P1 ++ [p] ++ D1 := ⟨_, rfl⟩
          have HR9 : Aside0 (r = insP p n.peers) := ⟨by rw [hrr, hP1, hD1]; unfold insP; rw [HPOS.out]; simp⟩
          rw [← hrr] at ho3 hr3
          have HO3 := Aside0.mk ho3
          have hl2 : (P1 ++ [p]).length = m + 1 := by simp [hlp]
          rw [hlp] at hr1 hr2
          rw [hl2] at hr2 hr3
          rw [show [p].length = 1 from rfl] at hr2
          rw [hld] at hr3
          have c72 : V2.cell? ⟨w.heap.size, 7, none⟩ = some (.slice pA n.peers.length pc) := (blk10 (blk_below HX.out HB2.out)).2.2.2.2.2.2.2.1
          have c73 : V3.cell? ⟨w.heap.size, 7, none⟩ = some (.slice pA n.peers.length pc) := (blk10 (blk_below HX.out HB3.out)).2.2.2.2.2.2.2.1
          have f73 := blk_frozen (blk_below HX.out HB3.out) 7
          obtain ⟨V4, hV4⟩ : ∃ V4, V4 = V3.setCell ⟨w.heap.size, 7, none⟩ (.slice A4 r.length c4) := ⟨_, rfl⟩
          have HX4 : Aside0 (V4.heap[w.heap.size]? = some (.cells (cellsN n (.slice dA n.disk.length dc) (.slice lA n.L.length lc) (.slice tA n.T.length tc) (.slice A4 r.length c4)).toArray 37 (0, 0))) := ⟨by rw [hV4]; exact blk_set (blk_below HX.out HB3.out) 7 _⟩
          have HR4 : Aside0 (V4.heap[w.heap.size + 1]? = some (.cells zeroV.toArray 37 (0, 0))) := ⟨by rw [hV4, Below.heap_setCell V3 ⟨w.heap.size, 7, none⟩ _ (w.heap.size + 1) (by simp)]; exact blk_below HR1.out HB3.out⟩
          have HB4 : Aside0 (Below w.heap.size w V4) := ⟨by rw [hV4]; exact below_set (below_step HB.out HB3.out) (Nat.le_refl _)⟩
          have HO4 : Aside0 (V4.ownsRow w1.heap.size 3 1 (.slice A4 r.length c4) r.length (encI1 r)) := ⟨by rw [hV4]; exact own_move HO3.out (fun j hj => Below.heap_setCell V3 ⟨w.heap.size, 7, none⟩ _ j (by have := own_base HO3.out j hj; show j ≠ w.heap.size; omega))⟩
          have HV4 := Aside0.mk hV4
          clear ho3 hg3 hC3 hlp hld hiI hsI hP1 hD1 hrr hl2 HO1 HO2 HB1 HB2 HB3 HO3 hV4 HPOS
          go_wp2_with (first
            | (at_builtin; refine Lib.wpList_append_run _ rfl _ _ _ _ rfl _ _ rfl rfl _ _ hr1 ?_; clear hr1; go_frame)
            | (at_builtin; refine Lib.wpList_append_run _ rfl _ _ _ _ rfl _ _ rfl rfl _ _ hr2 ?_; clear hr2; go_frame)
            | (at_builtin; refine Lib.wpList_append_run _ rfl _ _ _ _ rfl _ _ rfl rfl _ _ hr3 ?_; clear hr3; go_frame)
            | (rw [← HV4.out]; refine wpList_load_mid (by rfl) 37 _ (by rfl) w.heap.size 0 (by rfl) (cellsN n (.slice dA n.disk.length dc) (.slice lA n.L.length lc) (.slice tA n.T.length tc) (.slice A4 r.length c4)) _ (range_of_blk (t := 37) HX4.out) Try.underlying37 rfl info_N ?_; go_frame)
            | (refine wpl_store_blkA 37 (w.heap.size + 1) zeroV.toArray (cellsN n (.slice dA n.disk.length dc) (.slice lA n.L.length lc) (.slice tA n.T.length tc) (.slice A4 r.length c4)) cellsN_one info_N HR4.out (by rfl) (by rfl) _ _ (by rfl) (by rfl) (by rfl) ?_; intro W5 hb5 hB5 hf5 hs5 ht5; have HB5 := Aside0.mk (hB5 w (Nat.le_succ _) HB4.out); have HF5 := Aside0.mk hf5; clear hB5 hf5 hs5 ht5; go_frame))
          have HP5 := read_P rfl (own_move HO4.out (fun j hj => HF5.out j (by have := own_base HO4.out j hj; omega)))
          have e9 := HR9.out
          subst e9
          exact bodyPost_ret (results_N rfl hb5 rfl _ rfl rfl) rfl ⟨_, rfl, ⟨dA, dc, lA, lc, tA, tc, A4, c4, rfl, Kd.C_below H1.out HB5.out, Kd.C_below H2.out HB5.out, Kd.C_below H3.out HB5.out, HP5.1, HP5.2⟩, HB5.out⟩
end Go.Proofs.Ytameeejfkgoheaa.P
