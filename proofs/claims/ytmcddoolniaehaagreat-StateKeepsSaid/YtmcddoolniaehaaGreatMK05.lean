/- Several of the walk's texts in one: Sx4, SHCtrMay, SHCtrInc. -/
import Derived.Test.YtmcddoolniaehaaGreatMK03
import Derived.Test.YtmcddoolniaehaaGreatMK04
section
namespace Go.Proofs.YtmcddoolniaehaaGreat.S
open Go.RowKit Go.Proofs.YtmcddoolniaehaaGreatW.PrintWords Go.Proofs.YtmcddoolniaehaaGreatW.PrintLast Go.Proofs.YtmcddoolniaehaaGreatW.PrintMore
attribute [local go_sem] max2_int min2_int max_two min_two max_three min_three max_four min_four   -- for this text's walks alone
set_option linter.unusedVariables false
set_option linter.unusedSimpArgs false

def ctr_May.l0 : Nat → List (S73) → List (S73) → Int → Int → Option (Bool)
 | 0, _, _, _, _ => none
 | k + 1, x0, x5, x6, x7 => if x7 < x6 then (if 0 ≤ x7 then (if x7 < (x5.length : Int) then ((ops_Key.f ((rd_T73 x5 x7).f0)).bind fun t103 => (if t103 = true then (if ((rd_T73 x5 x7).f1) = 0 then (some false) else (if x7 > 0 then (if 0 ≤ (wrap64 (x7 - 1)) then (if (wrap64 (x7 - 1)) < (x0.length : Int) then (if ((Op.bytesLess (((rd_T73 x0 (wrap64 (x7 - 1))).f0).toList) (((rd_T73 x5 x7).f0).toList)) = true) then (ctr_May.l0 k x0 x5 x6 (wrap64 (x7 + 1))) else (some false)) else (none)) else (none)) else (ctr_May.l0 k x0 x5 x6 (wrap64 (x7 + 1))))) else (some false))) else (none)) else (none)) else (some true)
def ctr_May.f (k : Nat) (l0 : List (S73)) : Option (Bool) := ctr_May.l0 k l0 l0 (l0.length : Int) 0
theorem ctr_May.mono_l : ∀ k, (∀ y0 y1 y2 y3, LeO (ctr_May.l0 k y0 y1 y2 y3) (ctr_May.l0 (k + 1) y0 y1 y2 y3))
 | 0 => fun _ _ _ _ r h => by simp [ctr_May.l0] at h
 | k + 1 => by
  have ih0 := ctr_May.mono_l k
  ·intro y0 y1 y2 y3
   unfold ctr_May.l0
   repeat' first
   | (with_reducible exact ih0 _ _ _ _)
   | (with_reducible exact LeO.refl _)
   | (with_reducible exact LeO.none _)
   | (with_reducible refine LeO.ite ?_ ?_)
   | (with_reducible refine LeO.bind ?_ (fun _ => ?_))
   | exact ih0 _ _ _ _
   | exact LeO.none _
   | refine LeO.ite ?_ ?_
   | refine LeO.bind ?_ (fun _ => ?_)
theorem ctr_May.mono : ∀ a0 k, LeO (ctr_May.f k a0) (ctr_May.f (k + 1) a0) := by
 intro a0 k
 have ih0 := ctr_May.mono_l k
 unfold ctr_May.f
 repeat' first
   | (with_reducible exact ih0 _ _ _ _)
   | (with_reducible exact LeO.refl _)
   | (with_reducible exact LeO.none _)
   | (with_reducible refine LeO.ite ?_ ?_)
   | (with_reducible refine LeO.bind ?_ (fun _ => ?_))
   | exact ih0 _ _ _ _
   | exact LeO.none _
   | refine LeO.ite ?_ ?_
   | refine LeO.bind ?_ (fun _ => ?_)
set_option maxHeartbeats 8000000 in
set_option maxRecDepth 100000 in
theorem ctr_May.calls (k : Nat) (A0 : Option Addr) (c0 : Nat) (l0 : List (S73)) (r : Bool) (w : World) (hr0 : Kd.C k73 w A0 l0.length l0) (hc0 : l0.length ≤ c0) (h : ctr_May.f k l0 = some r) :
  Calls Tryz.prog 50 #[.slice A0 l0.length c0] w fun e w' => e = .returned (.bool r) ∧ Below w.heap.size w w' := by
 have hu73 := Tryz.underlying73
 have HR0 := Aside0.mk hr0
 have HC0 := Aside0.mk hc0
 clear hr0 hc0
 have HB := Aside0.mk (Below.refl w.heap.size w)
 have H : (ctr_May.l0 k l0 l0 (l0.length : Int) 0) = some r := h
 clear h
 have H' := Aside0.mk H
 clear H
 go_enter Tryz.func50, Tryz.ntmps50
 go_wp2
 repeat (go_quiet (fail); try go_wp2)
 go_loopg [7] k (fun kq v7 w' => ∃ (x7_1 : Int), v7 = .int .i64 x7_1 ∧ Aside0 (ctr_May.l0 kq l0 l0 (l0.length : Int) x7_1 = some r) ∧ Aside0 (kq ≤ k) ∧ Aside0 (Below w.heap.size w w'))
 case atStart => exact ⟨(0), (by first | rfl | (simp; done) | (simp [*]; done)), H', ⟨Nat.le_refl _⟩, ⟨by repeat (first | (with_reducible first | exact HB.out | apply below_alloc | apply pw_below_drewN | apply below_drew1) | exact HB.out)⟩⟩
 case round =>
  clear H'
  obtain ⟨x7_1, rfl, HA, HK1, HB⟩ := hrel
  cases gk with
  | zero => exact absurd HA.out (by simp [ctr_May.l0])
  | succ k1 =>
   have H := HA.out
   clear HA
   simp only [ctr_May.l0] at H
   by_cases c2 : x7_1 < (l0.length : Int)
   ·rw [if_pos c2] at H
    have c2b0 : decide (x7_1 < (l0.length : Int)) = true := decide_eq_true c2
    clear c2
    by_cases c3 : 0 ≤ x7_1
    ·rw [if_pos c3] at H
     have c3b0 : decide (0 ≤ x7_1) = true := decide_eq_true c3
     clear c3
     by_cases c4 : x7_1 < (l0.length : Int)
     ·rw [if_pos c4] at H
      have c4b0 : decide (x7_1 < (l0.length : Int)) = true := decide_eq_true c4
      clear c4
      replace H := Option.bind_eq_some_iff.mp H
      obtain ⟨t103, A50, H⟩ := H
      replace H : (if t103 = true then (if ((rd_T73 l0 x7_1).f1) = 0 then (some false) else (if x7_1 > 0 then (if 0 ≤ (wrap64 (x7_1 - 1)) then (if (wrap64 (x7_1 - 1)) < (l0.length : Int) then (if ((Op.bytesLess (((rd_T73 l0 (wrap64 (x7_1 - 1))).f0).toList) (((rd_T73 l0 x7_1).f0).toList)) = true) then (ctr_May.l0 k1 l0 l0 (l0.length : Int) (wrap64 (x7_1 + 1))) else (some false)) else (none)) else (none)) else (ctr_May.l0 k1 l0 l0 (l0.length : Int) (wrap64 (x7_1 + 1))))) else (some false)) = some r := H
      have A5 := Aside0.mk A50
      clear A50
      by_cases c6 : t103 = true
      ·subst c6
       have H1 : (if ((rd_T73 l0 x7_1).f1) = 0 then (some false) else (if x7_1 > 0 then (if 0 ≤ (wrap64 (x7_1 - 1)) then (if (wrap64 (x7_1 - 1)) < (l0.length : Int) then (if ((Op.bytesLess (((rd_T73 l0 (wrap64 (x7_1 - 1))).f0).toList) (((rd_T73 l0 x7_1).f0).toList)) = true) then (ctr_May.l0 k1 l0 l0 (l0.length : Int) (wrap64 (x7_1 + 1))) else (some false)) else (none)) else (none)) else (ctr_May.l0 k1 l0 l0 (l0.length : Int) (wrap64 (x7_1 + 1))))) = some r := by rw [if_pos rfl] at H; exact H
       clear H
       have H := H1
       clear H1
       by_cases c7 : ((rd_T73 l0 x7_1).f1) = 0
       ·rw [if_pos c7] at H
        have c7b0 : (((rd_T73 l0 x7_1).f1) == 0) = true := beq_iff_eq.mpr c7
        have c7b1 : (((rd_T73 l0 x7_1).f1) != 0) = false := bne_eq_false_iff_eq.mpr c7
        clear c7
        obtain rfl := Option.some.inj H
        have p101 : 0 ≤ (x7_1 : Int) := of_decide_eq_true (by first | (with_reducible assumption) | assumption)
        have q101 : x7_1 < (l0.length : Int) := of_decide_eq_true (by first | (with_reducible assumption) | assumption)
        obtain ⟨ad101, e101, hx101_0, hx101_1⟩ := at_T73 HR0.out x7_1 p101 q101
        cases e101
        replace hx101_0 := (HB.out.cell (World.block_lt_of_cell? w _ hx101_0)).trans hx101_0
        replace hx101_1 := (HB.out.cell (World.block_lt_of_cell? w _ hx101_1)).trans hx101_1
        replace p101 := eq_true p101
        replace q101 := eq_true q101
        go_wp2_with (first | ((with_reducible refine gate_dst (N := 4) rfl ?_); refine box_event ?hg (N := 4) ?hd (cs := #[.string (⟨#[]⟩ : ByteArray), .int .i64 0]) (t := 73) ?hr ?_; (case hd => rfl); (case hg => rfl); (case hr => first | (go_simp; done) | (go_simp; rfl)); intro gb102 hg w8 hbox hb; have n0_ := Aside0.mk (below_step (by repeat (first | (with_reducible first | exact HB.out | apply below_alloc | apply pw_below_drewN | apply below_drew1) | exact HB.out)) hb); have n1_ := Aside0.mk (hbox); have n2_ := Aside0.mk ((by rw [hg]; exact (below_size (by repeat (first | (with_reducible first | exact HB.out | apply below_alloc | apply pw_below_drewN | apply below_drew1) | exact HB.out))) : w.heap.size ≤ gb102)); have n3_ := Aside0.mk ((by rw [hg]; exact (below_size (by repeat (first | (with_reducible first | exact HB.out | apply below_alloc | apply pw_below_drewN | apply below_drew1) | exact HB.out))) : w.heap.size ≤ gb102)); clear HB; have HB := n0_; have BK102 := n1_; have GW102 := n2_; have GE102 := n3_; clear n0_ n1_ n2_ n3_; clear hb hbox hg; have hcz9_0 : w8.cell? ⟨gb102, 0, none⟩ = some (.string (⟨#[]⟩ : ByteArray)) := (blk_cell BK102.out 0).trans rfl; have hcz9_1 : w8.cell? ⟨gb102, 1, none⟩ = some (.int .i64 0) := (blk_cell BK102.out 1).trans rfl; have hfz9_0 := blk_frozen BK102.out 0; have hfz9_1 := blk_frozen BK102.out 1) | (go_at_call 76; (with_reducible refine (ops_Key.calls ((rd_T73 l0 x7_1).f0) true _ A5.out).mono ?_); rintro e w' ⟨rfl, ⟨nd, rfl⟩⟩; (try first | exact ⟨rfl, _, World.drewN_drewN _ _ _⟩ | exact ⟨rfl, _, Eq.trans (World.drewN_drewN _ _ _) (congrArg (World.drewN _) (Nat.add_assoc _ _ _))⟩)))
        repeat (go_quiet (first | ((with_reducible refine gate_dst (N := 4) rfl ?_); refine box_event ?hg (N := 4) ?hd (cs := #[.string (⟨#[]⟩ : ByteArray), .int .i64 0]) (t := 73) ?hr ?_; (case hd => rfl); (case hg => rfl); (case hr => first | (go_simp; done) | (go_simp; rfl)); intro gb102 hg w8 hbox hb; have n0_ := Aside0.mk (below_step (by repeat (first | (with_reducible first | exact HB.out | apply below_alloc | apply pw_below_drewN | apply below_drew1) | exact HB.out)) hb); have n1_ := Aside0.mk (hbox); have n2_ := Aside0.mk ((by rw [hg]; exact (below_size (by repeat (first | (with_reducible first | exact HB.out | apply below_alloc | apply pw_below_drewN | apply below_drew1) | exact HB.out))) : w.heap.size ≤ gb102)); have n3_ := Aside0.mk ((by rw [hg]; exact (below_size (by repeat (first | (with_reducible first | exact HB.out | apply below_alloc | apply pw_below_drewN | apply below_drew1) | exact HB.out))) : w.heap.size ≤ gb102)); clear HB; have HB := n0_; have BK102 := n1_; have GW102 := n2_; have GE102 := n3_; clear n0_ n1_ n2_ n3_; clear hb hbox hg; have hcz9_0 : w8.cell? ⟨gb102, 0, none⟩ = some (.string (⟨#[]⟩ : ByteArray)) := (blk_cell BK102.out 0).trans rfl; have hcz9_1 : w8.cell? ⟨gb102, 1, none⟩ = some (.int .i64 0) := (blk_cell BK102.out 1).trans rfl; have hfz9_0 := blk_frozen BK102.out 0; have hfz9_1 := blk_frozen BK102.out 1) | (go_at_call 76; (with_reducible refine (ops_Key.calls ((rd_T73 l0 x7_1).f0) true _ A5.out).mono ?_); rintro e w' ⟨rfl, ⟨nd, rfl⟩⟩; (try first | exact ⟨rfl, _, World.drewN_drewN _ _ _⟩ | exact ⟨rfl, _, Eq.trans (World.drewN_drewN _ _ _) (congrArg (World.drewN _) (Nat.add_assoc _ _ _))⟩))); try go_wp2_with (first | ((with_reducible refine gate_dst (N := 4) rfl ?_); refine box_event ?hg (N := 4) ?hd (cs := #[.string (⟨#[]⟩ : ByteArray), .int .i64 0]) (t := 73) ?hr ?_; (case hd => rfl); (case hg => rfl); (case hr => first | (go_simp; done) | (go_simp; rfl)); intro gb102 hg w8 hbox hb; have n0_ := Aside0.mk (below_step (by repeat (first | (with_reducible first | exact HB.out | apply below_alloc | apply pw_below_drewN | apply below_drew1) | exact HB.out)) hb); have n1_ := Aside0.mk (hbox); have n2_ := Aside0.mk ((by rw [hg]; exact (below_size (by repeat (first | (with_reducible first | exact HB.out | apply below_alloc | apply pw_below_drewN | apply below_drew1) | exact HB.out))) : w.heap.size ≤ gb102)); have n3_ := Aside0.mk ((by rw [hg]; exact (below_size (by repeat (first | (with_reducible first | exact HB.out | apply below_alloc | apply pw_below_drewN | apply below_drew1) | exact HB.out))) : w.heap.size ≤ gb102)); clear HB; have HB := n0_; have BK102 := n1_; have GW102 := n2_; have GE102 := n3_; clear n0_ n1_ n2_ n3_; clear hb hbox hg; have hcz9_0 : w8.cell? ⟨gb102, 0, none⟩ = some (.string (⟨#[]⟩ : ByteArray)) := (blk_cell BK102.out 0).trans rfl; have hcz9_1 : w8.cell? ⟨gb102, 1, none⟩ = some (.int .i64 0) := (blk_cell BK102.out 1).trans rfl; have hfz9_0 := blk_frozen BK102.out 0; have hfz9_1 := blk_frozen BK102.out 1) | (go_at_call 76; (with_reducible refine (ops_Key.calls ((rd_T73 l0 x7_1).f0) true _ A5.out).mono ?_); rintro e w' ⟨rfl, ⟨nd, rfl⟩⟩; (try first | exact ⟨rfl, _, World.drewN_drewN _ _ _⟩ | exact ⟨rfl, _, Eq.trans (World.drewN_drewN _ _ _) (congrArg (World.drewN _) (Nat.add_assoc _ _ _))⟩))))
        go_ret
        exact ⟨by first | rfl | (simp [errW_none, errW_some] <;> rfl) | (simp [*, errW_none, errW_some] <;> rfl), by repeat (first | (with_reducible first | exact HB.out | apply below_alloc | apply pw_below_drewN | apply below_drew1 | refine below_set ?_ GE102.out) | exact HB.out)⟩
       ·rw [if_neg c7] at H
        have c7b0 : (((rd_T73 l0 x7_1).f1) == 0) = false := beq_eq_false_iff_ne.mpr c7
        have c7b1 : (((rd_T73 l0 x7_1).f1) != 0) = true := bne_iff_ne.mpr c7
        by_cases c10 : x7_1 > 0
        ·rw [if_pos c10] at H
         have c10b0 : decide (0 < x7_1) = true := decide_eq_true c10
         clear c10
         obtain ⟨ji11, hji11⟩ : ∃ j_ : Int, (wrap64 (x7_1 - 1)) = j_ := ⟨_, rfl⟩
         replace H : (if 0 ≤ (ji11) then (if (ji11) < (l0.length : Int) then (if ((Op.bytesLess (((rd_T73 l0 (ji11)).f0).toList) (((rd_T73 l0 x7_1).f0).toList)) = true) then (ctr_May.l0 k1 l0 l0 (l0.length : Int) (wrap64 (x7_1 + 1))) else (some false)) else (none)) else (none)) = some r := by first | (rw [hji11] at H; exact H) | (simp only [hji11] at H ⊢; exact H)
         (try rw [hji11] at A5)
         have hji11w : (IntKind.i64.wrap (x7_1 - 1)) = ji11 := (i64_w _).trans hji11
         by_cases c12 : 0 ≤ (ji11)
         ·rw [if_pos c12] at H
          have c12b0 : decide (0 ≤ (ji11)) = true := decide_eq_true c12
          clear c12
          by_cases c13 : (ji11) < (l0.length : Int)
          ·rw [if_pos c13] at H
           have c13b0 : decide ((ji11) < (l0.length : Int)) = true := decide_eq_true c13
           clear c13
           by_cases c14 : ((Op.bytesLess (((rd_T73 l0 (ji11)).f0).toList) (((rd_T73 l0 x7_1).f0).toList)) = true)
           ·rw [if_pos c14] at H
            have c14b0 : (Op.bytesLess (((rd_T73 l0 (ji11)).f0).toList) (((rd_T73 l0 x7_1).f0).toList)) = true := c14
            clear c14
            have H' := Aside0.mk H
            clear H
            have p101 : 0 ≤ (x7_1 : Int) := of_decide_eq_true (by first | (with_reducible assumption) | assumption)
            have q101 : x7_1 < (l0.length : Int) := of_decide_eq_true (by first | (with_reducible assumption) | assumption)
            obtain ⟨ad101, e101, hx101_0, hx101_1⟩ := at_T73 HR0.out x7_1 p101 q101
            cases e101
            replace hx101_0 := (HB.out.cell (World.block_lt_of_cell? w _ hx101_0)).trans hx101_0
            replace hx101_1 := (HB.out.cell (World.block_lt_of_cell? w _ hx101_1)).trans hx101_1
            replace p101 := eq_true p101
            replace q101 := eq_true q101
            go_wp2_with (first | ((with_reducible refine gate_dst (N := 4) rfl ?_); refine box_event ?hg (N := 4) ?hd (cs := #[.string (⟨#[]⟩ : ByteArray), .int .i64 0]) (t := 73) ?hr ?_; (case hd => rfl); (case hg => rfl); (case hr => first | (go_simp; done) | (go_simp; rfl)); intro gb102 hg w15 hbox hb; have n0_ := Aside0.mk (below_step (by repeat (first | (with_reducible first | exact HB.out | apply below_alloc | apply pw_below_drewN | apply below_drew1) | exact HB.out)) hb); have n1_ := Aside0.mk (hbox); have n2_ := Aside0.mk ((by rw [hg]; exact (below_size (by repeat (first | (with_reducible first | exact HB.out | apply below_alloc | apply pw_below_drewN | apply below_drew1) | exact HB.out))) : w.heap.size ≤ gb102)); have n3_ := Aside0.mk ((by rw [hg]; exact (below_size (by repeat (first | (with_reducible first | exact HB.out | apply below_alloc | apply pw_below_drewN | apply below_drew1) | exact HB.out))) : w.heap.size ≤ gb102)); clear HB; have HB := n0_; have BK102 := n1_; have GW102 := n2_; have GE102 := n3_; clear n0_ n1_ n2_ n3_; clear hb hbox hg; have hcz16_0 : w15.cell? ⟨gb102, 0, none⟩ = some (.string (⟨#[]⟩ : ByteArray)) := (blk_cell BK102.out 0).trans rfl; have hcz16_1 : w15.cell? ⟨gb102, 1, none⟩ = some (.int .i64 0) := (blk_cell BK102.out 1).trans rfl; have hfz16_0 := blk_frozen BK102.out 0; have hfz16_1 := blk_frozen BK102.out 1) | (go_at_call 76; (with_reducible refine (ops_Key.calls ((rd_T73 l0 x7_1).f0) true _ A5.out).mono ?_); rintro e w' ⟨rfl, ⟨nd, rfl⟩⟩; (try first | exact ⟨rfl, _, World.drewN_drewN _ _ _⟩ | exact ⟨rfl, _, Eq.trans (World.drewN_drewN _ _ _) (congrArg (World.drewN _) (Nat.add_assoc _ _ _))⟩); have p104 : 0 ≤ ((ji11) : Int) := of_decide_eq_true (by first | (with_reducible assumption) | assumption); have q104 : (ji11) < (l0.length : Int) := of_decide_eq_true (by first | (with_reducible assumption) | assumption); obtain ⟨ad104, e104, hx104_0, hx104_1⟩ := at_T73 HR0.out (ji11) p104 q104; obtain rfl : ad101 = ad104 := (by injection e104); have hn104_0 : ad101.block ≠ gb102 := Nat.ne_of_lt (Nat.lt_of_lt_of_le (by have := World.block_lt_of_cell? _ _ hx104_0; first | rwa [add_block] at this | exact this) GW102.out); have hn104_1 : ad101.block ≠ gb102 := Nat.ne_of_lt (Nat.lt_of_lt_of_le (by have := World.block_lt_of_cell? _ _ hx104_0; first | rwa [add_block] at this | exact this) GW102.out); replace hx104_0 := (HB.out.cell (World.block_lt_of_cell? w _ hx104_0)).trans hx104_0; replace hx104_1 := (HB.out.cell (World.block_lt_of_cell? w _ hx104_1)).trans hx104_1; replace hx104_0 := (cell_far (p := ⟨gb102, 0, none⟩) (by first | (rw [add_block]; exact hn104_0) | (show (Addr.add _ _).block ≠ _; rw [add_block]; exact hn104_0) | exact hn104_0) (.string ((rd_T73 l0 x7_1).f0))).trans hx104_0; replace hx104_1 := (cell_far (p := ⟨gb102, 0, none⟩) (by first | (rw [add_block]; exact hn104_0) | (show (Addr.add _ _).block ≠ _; rw [add_block]; exact hn104_0) | exact hn104_0) (.string ((rd_T73 l0 x7_1).f0))).trans hx104_1; replace hx104_0 := (cell_far (p := ⟨gb102, 1, none⟩) (by first | (rw [add_block]; exact hn104_1) | (show (Addr.add _ _).block ≠ _; rw [add_block]; exact hn104_1) | exact hn104_1) (.int .i64 ((rd_T73 l0 x7_1).f1))).trans hx104_0; replace hx104_1 := (cell_far (p := ⟨gb102, 1, none⟩) (by first | (rw [add_block]; exact hn104_1) | (show (Addr.add _ _).block ≠ _; rw [add_block]; exact hn104_1) | exact hn104_1) (.int .i64 ((rd_T73 l0 x7_1).f1))).trans hx104_1; (try have hy104_0 := fun (n_ : Nat) => (show ((((w15.drewN n_).setCell ⟨gb102, 0, none⟩ (.string ((rd_T73 l0 x7_1).f0))).setCell ⟨gb102, 1, none⟩ (.int .i64 ((rd_T73 l0 x7_1).f1)))).cell? _ = some _ from hx104_0)); (try have hy104_1 := fun (n_ : Nat) => (show ((((w15.drewN n_).setCell ⟨gb102, 0, none⟩ (.string ((rd_T73 l0 x7_1).f0))).setCell ⟨gb102, 1, none⟩ (.int .i64 ((rd_T73 l0 x7_1).f1)))).cell? _ = some _ from hx104_1)); clear hn104_0; clear hn104_1; replace p104 := eq_true p104; replace q104 := eq_true q104))
            repeat (go_quiet (first | ((with_reducible refine gate_dst (N := 4) rfl ?_); refine box_event ?hg (N := 4) ?hd (cs := #[.string (⟨#[]⟩ : ByteArray), .int .i64 0]) (t := 73) ?hr ?_; (case hd => rfl); (case hg => rfl); (case hr => first | (go_simp; done) | (go_simp; rfl)); intro gb102 hg w15 hbox hb; have n0_ := Aside0.mk (below_step (by repeat (first | (with_reducible first | exact HB.out | apply below_alloc | apply pw_below_drewN | apply below_drew1) | exact HB.out)) hb); have n1_ := Aside0.mk (hbox); have n2_ := Aside0.mk ((by rw [hg]; exact (below_size (by repeat (first | (with_reducible first | exact HB.out | apply below_alloc | apply pw_below_drewN | apply below_drew1) | exact HB.out))) : w.heap.size ≤ gb102)); have n3_ := Aside0.mk ((by rw [hg]; exact (below_size (by repeat (first | (with_reducible first | exact HB.out | apply below_alloc | apply pw_below_drewN | apply below_drew1) | exact HB.out))) : w.heap.size ≤ gb102)); clear HB; have HB := n0_; have BK102 := n1_; have GW102 := n2_; have GE102 := n3_; clear n0_ n1_ n2_ n3_; clear hb hbox hg; have hcz16_0 : w15.cell? ⟨gb102, 0, none⟩ = some (.string (⟨#[]⟩ : ByteArray)) := (blk_cell BK102.out 0).trans rfl; have hcz16_1 : w15.cell? ⟨gb102, 1, none⟩ = some (.int .i64 0) := (blk_cell BK102.out 1).trans rfl; have hfz16_0 := blk_frozen BK102.out 0; have hfz16_1 := blk_frozen BK102.out 1) | (go_at_call 76; (with_reducible refine (ops_Key.calls ((rd_T73 l0 x7_1).f0) true _ A5.out).mono ?_); rintro e w' ⟨rfl, ⟨nd, rfl⟩⟩; (try first | exact ⟨rfl, _, World.drewN_drewN _ _ _⟩ | exact ⟨rfl, _, Eq.trans (World.drewN_drewN _ _ _) (congrArg (World.drewN _) (Nat.add_assoc _ _ _))⟩); have p104 : 0 ≤ ((ji11) : Int) := of_decide_eq_true (by first | (with_reducible assumption) | assumption); have q104 : (ji11) < (l0.length : Int) := of_decide_eq_true (by first | (with_reducible assumption) | assumption); obtain ⟨ad104, e104, hx104_0, hx104_1⟩ := at_T73 HR0.out (ji11) p104 q104; obtain rfl : ad101 = ad104 := (by injection e104); have hn104_0 : ad101.block ≠ gb102 := Nat.ne_of_lt (Nat.lt_of_lt_of_le (by have := World.block_lt_of_cell? _ _ hx104_0; first | rwa [add_block] at this | exact this) GW102.out); have hn104_1 : ad101.block ≠ gb102 := Nat.ne_of_lt (Nat.lt_of_lt_of_le (by have := World.block_lt_of_cell? _ _ hx104_0; first | rwa [add_block] at this | exact this) GW102.out); replace hx104_0 := (HB.out.cell (World.block_lt_of_cell? w _ hx104_0)).trans hx104_0; replace hx104_1 := (HB.out.cell (World.block_lt_of_cell? w _ hx104_1)).trans hx104_1; replace hx104_0 := (cell_far (p := ⟨gb102, 0, none⟩) (by first | (rw [add_block]; exact hn104_0) | (show (Addr.add _ _).block ≠ _; rw [add_block]; exact hn104_0) | exact hn104_0) (.string ((rd_T73 l0 x7_1).f0))).trans hx104_0; replace hx104_1 := (cell_far (p := ⟨gb102, 0, none⟩) (by first | (rw [add_block]; exact hn104_0) | (show (Addr.add _ _).block ≠ _; rw [add_block]; exact hn104_0) | exact hn104_0) (.string ((rd_T73 l0 x7_1).f0))).trans hx104_1; replace hx104_0 := (cell_far (p := ⟨gb102, 1, none⟩) (by first | (rw [add_block]; exact hn104_1) | (show (Addr.add _ _).block ≠ _; rw [add_block]; exact hn104_1) | exact hn104_1) (.int .i64 ((rd_T73 l0 x7_1).f1))).trans hx104_0; replace hx104_1 := (cell_far (p := ⟨gb102, 1, none⟩) (by first | (rw [add_block]; exact hn104_1) | (show (Addr.add _ _).block ≠ _; rw [add_block]; exact hn104_1) | exact hn104_1) (.int .i64 ((rd_T73 l0 x7_1).f1))).trans hx104_1; (try have hy104_0 := fun (n_ : Nat) => (show ((((w15.drewN n_).setCell ⟨gb102, 0, none⟩ (.string ((rd_T73 l0 x7_1).f0))).setCell ⟨gb102, 1, none⟩ (.int .i64 ((rd_T73 l0 x7_1).f1)))).cell? _ = some _ from hx104_0)); (try have hy104_1 := fun (n_ : Nat) => (show ((((w15.drewN n_).setCell ⟨gb102, 0, none⟩ (.string ((rd_T73 l0 x7_1).f0))).setCell ⟨gb102, 1, none⟩ (.int .i64 ((rd_T73 l0 x7_1).f1)))).cell? _ = some _ from hx104_1)); clear hn104_0; clear hn104_1; replace p104 := eq_true p104; replace q104 := eq_true q104)); try go_wp2_with (first | ((with_reducible refine gate_dst (N := 4) rfl ?_); refine box_event ?hg (N := 4) ?hd (cs := #[.string (⟨#[]⟩ : ByteArray), .int .i64 0]) (t := 73) ?hr ?_; (case hd => rfl); (case hg => rfl); (case hr => first | (go_simp; done) | (go_simp; rfl)); intro gb102 hg w15 hbox hb; have n0_ := Aside0.mk (below_step (by repeat (first | (with_reducible first | exact HB.out | apply below_alloc | apply pw_below_drewN | apply below_drew1) | exact HB.out)) hb); have n1_ := Aside0.mk (hbox); have n2_ := Aside0.mk ((by rw [hg]; exact (below_size (by repeat (first | (with_reducible first | exact HB.out | apply below_alloc | apply pw_below_drewN | apply below_drew1) | exact HB.out))) : w.heap.size ≤ gb102)); have n3_ := Aside0.mk ((by rw [hg]; exact (below_size (by repeat (first | (with_reducible first | exact HB.out | apply below_alloc | apply pw_below_drewN | apply below_drew1) | exact HB.out))) : w.heap.size ≤ gb102)); clear HB; have HB := n0_; have BK102 := n1_; have GW102 := n2_; have GE102 := n3_; clear n0_ n1_ n2_ n3_; clear hb hbox hg; have hcz16_0 : w15.cell? ⟨gb102, 0, none⟩ = some (.string (⟨#[]⟩ : ByteArray)) := (blk_cell BK102.out 0).trans rfl; have hcz16_1 : w15.cell? ⟨gb102, 1, none⟩ = some (.int .i64 0) := (blk_cell BK102.out 1).trans rfl; have hfz16_0 := blk_frozen BK102.out 0; have hfz16_1 := blk_frozen BK102.out 1) | (go_at_call 76; (with_reducible refine (ops_Key.calls ((rd_T73 l0 x7_1).f0) true _ A5.out).mono ?_); rintro e w' ⟨rfl, ⟨nd, rfl⟩⟩; (try first | exact ⟨rfl, _, World.drewN_drewN _ _ _⟩ | exact ⟨rfl, _, Eq.trans (World.drewN_drewN _ _ _) (congrArg (World.drewN _) (Nat.add_assoc _ _ _))⟩); have p104 : 0 ≤ ((ji11) : Int) := of_decide_eq_true (by first | (with_reducible assumption) | assumption); have q104 : (ji11) < (l0.length : Int) := of_decide_eq_true (by first | (with_reducible assumption) | assumption); obtain ⟨ad104, e104, hx104_0, hx104_1⟩ := at_T73 HR0.out (ji11) p104 q104; obtain rfl : ad101 = ad104 := (by injection e104); have hn104_0 : ad101.block ≠ gb102 := Nat.ne_of_lt (Nat.lt_of_lt_of_le (by have := World.block_lt_of_cell? _ _ hx104_0; first | rwa [add_block] at this | exact this) GW102.out); have hn104_1 : ad101.block ≠ gb102 := Nat.ne_of_lt (Nat.lt_of_lt_of_le (by have := World.block_lt_of_cell? _ _ hx104_0; first | rwa [add_block] at this | exact this) GW102.out); replace hx104_0 := (HB.out.cell (World.block_lt_of_cell? w _ hx104_0)).trans hx104_0; replace hx104_1 := (HB.out.cell (World.block_lt_of_cell? w _ hx104_1)).trans hx104_1; replace hx104_0 := (cell_far (p := ⟨gb102, 0, none⟩) (by first | (rw [add_block]; exact hn104_0) | (show (Addr.add _ _).block ≠ _; rw [add_block]; exact hn104_0) | exact hn104_0) (.string ((rd_T73 l0 x7_1).f0))).trans hx104_0; replace hx104_1 := (cell_far (p := ⟨gb102, 0, none⟩) (by first | (rw [add_block]; exact hn104_0) | (show (Addr.add _ _).block ≠ _; rw [add_block]; exact hn104_0) | exact hn104_0) (.string ((rd_T73 l0 x7_1).f0))).trans hx104_1; replace hx104_0 := (cell_far (p := ⟨gb102, 1, none⟩) (by first | (rw [add_block]; exact hn104_1) | (show (Addr.add _ _).block ≠ _; rw [add_block]; exact hn104_1) | exact hn104_1) (.int .i64 ((rd_T73 l0 x7_1).f1))).trans hx104_0; replace hx104_1 := (cell_far (p := ⟨gb102, 1, none⟩) (by first | (rw [add_block]; exact hn104_1) | (show (Addr.add _ _).block ≠ _; rw [add_block]; exact hn104_1) | exact hn104_1) (.int .i64 ((rd_T73 l0 x7_1).f1))).trans hx104_1; (try have hy104_0 := fun (n_ : Nat) => (show ((((w15.drewN n_).setCell ⟨gb102, 0, none⟩ (.string ((rd_T73 l0 x7_1).f0))).setCell ⟨gb102, 1, none⟩ (.int .i64 ((rd_T73 l0 x7_1).f1)))).cell? _ = some _ from hx104_0)); (try have hy104_1 := fun (n_ : Nat) => (show ((((w15.drewN n_).setCell ⟨gb102, 0, none⟩ (.string ((rd_T73 l0 x7_1).f0))).setCell ⟨gb102, 1, none⟩ (.int .i64 ((rd_T73 l0 x7_1).f1)))).cell? _ = some _ from hx104_1)); clear hn104_0; clear hn104_1; replace p104 := eq_true p104; replace q104 := eq_true q104)))
            go_roundg k1
            case measure => have := HK1.out; omega
            case rel => exact ⟨(wrap64 (x7_1 + 1)), (by first | rfl | (simp; done) | (simp [*]; done)), H', ⟨by have := HK1.out; omega⟩, ⟨by repeat (first | (with_reducible first | exact HB.out | apply below_alloc | apply pw_below_drewN | apply below_drew1 | refine below_set ?_ GE102.out) | exact HB.out)⟩⟩
           ·rw [if_neg c14] at H
            have c14b0 : (Op.bytesLess (((rd_T73 l0 (ji11)).f0).toList) (((rd_T73 l0 x7_1).f0).toList)) = false := by simpa using c14
            clear c14
            obtain rfl := Option.some.inj H
            have p101 : 0 ≤ (x7_1 : Int) := of_decide_eq_true (by first | (with_reducible assumption) | assumption)
            have q101 : x7_1 < (l0.length : Int) := of_decide_eq_true (by first | (with_reducible assumption) | assumption)
            obtain ⟨ad101, e101, hx101_0, hx101_1⟩ := at_T73 HR0.out x7_1 p101 q101
            cases e101
            replace hx101_0 := (HB.out.cell (World.block_lt_of_cell? w _ hx101_0)).trans hx101_0
            replace hx101_1 := (HB.out.cell (World.block_lt_of_cell? w _ hx101_1)).trans hx101_1
            replace p101 := eq_true p101
            replace q101 := eq_true q101
            go_wp2_with (first | ((with_reducible refine gate_dst (N := 4) rfl ?_); refine box_event ?hg (N := 4) ?hd (cs := #[.string (⟨#[]⟩ : ByteArray), .int .i64 0]) (t := 73) ?hr ?_; (case hd => rfl); (case hg => rfl); (case hr => first | (go_simp; done) | (go_simp; rfl)); intro gb102 hg w17 hbox hb; have n0_ := Aside0.mk (below_step (by repeat (first | (with_reducible first | exact HB.out | apply below_alloc | apply pw_below_drewN | apply below_drew1) | exact HB.out)) hb); have n1_ := Aside0.mk (hbox); have n2_ := Aside0.mk ((by rw [hg]; exact (below_size (by repeat (first | (with_reducible first | exact HB.out | apply below_alloc | apply pw_below_drewN | apply below_drew1) | exact HB.out))) : w.heap.size ≤ gb102)); have n3_ := Aside0.mk ((by rw [hg]; exact (below_size (by repeat (first | (with_reducible first | exact HB.out | apply below_alloc | apply pw_below_drewN | apply below_drew1) | exact HB.out))) : w.heap.size ≤ gb102)); clear HB; have HB := n0_; have BK102 := n1_; have GW102 := n2_; have GE102 := n3_; clear n0_ n1_ n2_ n3_; clear hb hbox hg; have hcz18_0 : w17.cell? ⟨gb102, 0, none⟩ = some (.string (⟨#[]⟩ : ByteArray)) := (blk_cell BK102.out 0).trans rfl; have hcz18_1 : w17.cell? ⟨gb102, 1, none⟩ = some (.int .i64 0) := (blk_cell BK102.out 1).trans rfl; have hfz18_0 := blk_frozen BK102.out 0; have hfz18_1 := blk_frozen BK102.out 1) | (go_at_call 76; (with_reducible refine (ops_Key.calls ((rd_T73 l0 x7_1).f0) true _ A5.out).mono ?_); rintro e w' ⟨rfl, ⟨nd, rfl⟩⟩; (try first | exact ⟨rfl, _, World.drewN_drewN _ _ _⟩ | exact ⟨rfl, _, Eq.trans (World.drewN_drewN _ _ _) (congrArg (World.drewN _) (Nat.add_assoc _ _ _))⟩); have p104 : 0 ≤ ((ji11) : Int) := of_decide_eq_true (by first | (with_reducible assumption) | assumption); have q104 : (ji11) < (l0.length : Int) := of_decide_eq_true (by first | (with_reducible assumption) | assumption); obtain ⟨ad104, e104, hx104_0, hx104_1⟩ := at_T73 HR0.out (ji11) p104 q104; obtain rfl : ad101 = ad104 := (by injection e104); have hn104_0 : ad101.block ≠ gb102 := Nat.ne_of_lt (Nat.lt_of_lt_of_le (by have := World.block_lt_of_cell? _ _ hx104_0; first | rwa [add_block] at this | exact this) GW102.out); have hn104_1 : ad101.block ≠ gb102 := Nat.ne_of_lt (Nat.lt_of_lt_of_le (by have := World.block_lt_of_cell? _ _ hx104_0; first | rwa [add_block] at this | exact this) GW102.out); replace hx104_0 := (HB.out.cell (World.block_lt_of_cell? w _ hx104_0)).trans hx104_0; replace hx104_1 := (HB.out.cell (World.block_lt_of_cell? w _ hx104_1)).trans hx104_1; replace hx104_0 := (cell_far (p := ⟨gb102, 0, none⟩) (by first | (rw [add_block]; exact hn104_0) | (show (Addr.add _ _).block ≠ _; rw [add_block]; exact hn104_0) | exact hn104_0) (.string ((rd_T73 l0 x7_1).f0))).trans hx104_0; replace hx104_1 := (cell_far (p := ⟨gb102, 0, none⟩) (by first | (rw [add_block]; exact hn104_0) | (show (Addr.add _ _).block ≠ _; rw [add_block]; exact hn104_0) | exact hn104_0) (.string ((rd_T73 l0 x7_1).f0))).trans hx104_1; replace hx104_0 := (cell_far (p := ⟨gb102, 1, none⟩) (by first | (rw [add_block]; exact hn104_1) | (show (Addr.add _ _).block ≠ _; rw [add_block]; exact hn104_1) | exact hn104_1) (.int .i64 ((rd_T73 l0 x7_1).f1))).trans hx104_0; replace hx104_1 := (cell_far (p := ⟨gb102, 1, none⟩) (by first | (rw [add_block]; exact hn104_1) | (show (Addr.add _ _).block ≠ _; rw [add_block]; exact hn104_1) | exact hn104_1) (.int .i64 ((rd_T73 l0 x7_1).f1))).trans hx104_1; (try have hy104_0 := fun (n_ : Nat) => (show ((((w17.drewN n_).setCell ⟨gb102, 0, none⟩ (.string ((rd_T73 l0 x7_1).f0))).setCell ⟨gb102, 1, none⟩ (.int .i64 ((rd_T73 l0 x7_1).f1)))).cell? _ = some _ from hx104_0)); (try have hy104_1 := fun (n_ : Nat) => (show ((((w17.drewN n_).setCell ⟨gb102, 0, none⟩ (.string ((rd_T73 l0 x7_1).f0))).setCell ⟨gb102, 1, none⟩ (.int .i64 ((rd_T73 l0 x7_1).f1)))).cell? _ = some _ from hx104_1)); clear hn104_0; clear hn104_1; replace p104 := eq_true p104; replace q104 := eq_true q104))
            repeat (go_quiet (first | ((with_reducible refine gate_dst (N := 4) rfl ?_); refine box_event ?hg (N := 4) ?hd (cs := #[.string (⟨#[]⟩ : ByteArray), .int .i64 0]) (t := 73) ?hr ?_; (case hd => rfl); (case hg => rfl); (case hr => first | (go_simp; done) | (go_simp; rfl)); intro gb102 hg w17 hbox hb; have n0_ := Aside0.mk (below_step (by repeat (first | (with_reducible first | exact HB.out | apply below_alloc | apply pw_below_drewN | apply below_drew1) | exact HB.out)) hb); have n1_ := Aside0.mk (hbox); have n2_ := Aside0.mk ((by rw [hg]; exact (below_size (by repeat (first | (with_reducible first | exact HB.out | apply below_alloc | apply pw_below_drewN | apply below_drew1) | exact HB.out))) : w.heap.size ≤ gb102)); have n3_ := Aside0.mk ((by rw [hg]; exact (below_size (by repeat (first | (with_reducible first | exact HB.out | apply below_alloc | apply pw_below_drewN | apply below_drew1) | exact HB.out))) : w.heap.size ≤ gb102)); clear HB; have HB := n0_; have BK102 := n1_; have GW102 := n2_; have GE102 := n3_; clear n0_ n1_ n2_ n3_; clear hb hbox hg; have hcz18_0 : w17.cell? ⟨gb102, 0, none⟩ = some (.string (⟨#[]⟩ : ByteArray)) := (blk_cell BK102.out 0).trans rfl; have hcz18_1 : w17.cell? ⟨gb102, 1, none⟩ = some (.int .i64 0) := (blk_cell BK102.out 1).trans rfl; have hfz18_0 := blk_frozen BK102.out 0; have hfz18_1 := blk_frozen BK102.out 1) | (go_at_call 76; (with_reducible refine (ops_Key.calls ((rd_T73 l0 x7_1).f0) true _ A5.out).mono ?_); rintro e w' ⟨rfl, ⟨nd, rfl⟩⟩; (try first | exact ⟨rfl, _, World.drewN_drewN _ _ _⟩ | exact ⟨rfl, _, Eq.trans (World.drewN_drewN _ _ _) (congrArg (World.drewN _) (Nat.add_assoc _ _ _))⟩); have p104 : 0 ≤ ((ji11) : Int) := of_decide_eq_true (by first | (with_reducible assumption) | assumption); have q104 : (ji11) < (l0.length : Int) := of_decide_eq_true (by first | (with_reducible assumption) | assumption); obtain ⟨ad104, e104, hx104_0, hx104_1⟩ := at_T73 HR0.out (ji11) p104 q104; obtain rfl : ad101 = ad104 := (by injection e104); have hn104_0 : ad101.block ≠ gb102 := Nat.ne_of_lt (Nat.lt_of_lt_of_le (by have := World.block_lt_of_cell? _ _ hx104_0; first | rwa [add_block] at this | exact this) GW102.out); have hn104_1 : ad101.block ≠ gb102 := Nat.ne_of_lt (Nat.lt_of_lt_of_le (by have := World.block_lt_of_cell? _ _ hx104_0; first | rwa [add_block] at this | exact this) GW102.out); replace hx104_0 := (HB.out.cell (World.block_lt_of_cell? w _ hx104_0)).trans hx104_0; replace hx104_1 := (HB.out.cell (World.block_lt_of_cell? w _ hx104_1)).trans hx104_1; replace hx104_0 := (cell_far (p := ⟨gb102, 0, none⟩) (by first | (rw [add_block]; exact hn104_0) | (show (Addr.add _ _).block ≠ _; rw [add_block]; exact hn104_0) | exact hn104_0) (.string ((rd_T73 l0 x7_1).f0))).trans hx104_0; replace hx104_1 := (cell_far (p := ⟨gb102, 0, none⟩) (by first | (rw [add_block]; exact hn104_0) | (show (Addr.add _ _).block ≠ _; rw [add_block]; exact hn104_0) | exact hn104_0) (.string ((rd_T73 l0 x7_1).f0))).trans hx104_1; replace hx104_0 := (cell_far (p := ⟨gb102, 1, none⟩) (by first | (rw [add_block]; exact hn104_1) | (show (Addr.add _ _).block ≠ _; rw [add_block]; exact hn104_1) | exact hn104_1) (.int .i64 ((rd_T73 l0 x7_1).f1))).trans hx104_0; replace hx104_1 := (cell_far (p := ⟨gb102, 1, none⟩) (by first | (rw [add_block]; exact hn104_1) | (show (Addr.add _ _).block ≠ _; rw [add_block]; exact hn104_1) | exact hn104_1) (.int .i64 ((rd_T73 l0 x7_1).f1))).trans hx104_1; (try have hy104_0 := fun (n_ : Nat) => (show ((((w17.drewN n_).setCell ⟨gb102, 0, none⟩ (.string ((rd_T73 l0 x7_1).f0))).setCell ⟨gb102, 1, none⟩ (.int .i64 ((rd_T73 l0 x7_1).f1)))).cell? _ = some _ from hx104_0)); (try have hy104_1 := fun (n_ : Nat) => (show ((((w17.drewN n_).setCell ⟨gb102, 0, none⟩ (.string ((rd_T73 l0 x7_1).f0))).setCell ⟨gb102, 1, none⟩ (.int .i64 ((rd_T73 l0 x7_1).f1)))).cell? _ = some _ from hx104_1)); clear hn104_0; clear hn104_1; replace p104 := eq_true p104; replace q104 := eq_true q104)); try go_wp2_with (first | ((with_reducible refine gate_dst (N := 4) rfl ?_); refine box_event ?hg (N := 4) ?hd (cs := #[.string (⟨#[]⟩ : ByteArray), .int .i64 0]) (t := 73) ?hr ?_; (case hd => rfl); (case hg => rfl); (case hr => first | (go_simp; done) | (go_simp; rfl)); intro gb102 hg w17 hbox hb; have n0_ := Aside0.mk (below_step (by repeat (first | (with_reducible first | exact HB.out | apply below_alloc | apply pw_below_drewN | apply below_drew1) | exact HB.out)) hb); have n1_ := Aside0.mk (hbox); have n2_ := Aside0.mk ((by rw [hg]; exact (below_size (by repeat (first | (with_reducible first | exact HB.out | apply below_alloc | apply pw_below_drewN | apply below_drew1) | exact HB.out))) : w.heap.size ≤ gb102)); have n3_ := Aside0.mk ((by rw [hg]; exact (below_size (by repeat (first | (with_reducible first | exact HB.out | apply below_alloc | apply pw_below_drewN | apply below_drew1) | exact HB.out))) : w.heap.size ≤ gb102)); clear HB; have HB := n0_; have BK102 := n1_; have GW102 := n2_; have GE102 := n3_; clear n0_ n1_ n2_ n3_; clear hb hbox hg; have hcz18_0 : w17.cell? ⟨gb102, 0, none⟩ = some (.string (⟨#[]⟩ : ByteArray)) := (blk_cell BK102.out 0).trans rfl; have hcz18_1 : w17.cell? ⟨gb102, 1, none⟩ = some (.int .i64 0) := (blk_cell BK102.out 1).trans rfl; have hfz18_0 := blk_frozen BK102.out 0; have hfz18_1 := blk_frozen BK102.out 1) | (go_at_call 76; (with_reducible refine (ops_Key.calls ((rd_T73 l0 x7_1).f0) true _ A5.out).mono ?_); rintro e w' ⟨rfl, ⟨nd, rfl⟩⟩; (try first | exact ⟨rfl, _, World.drewN_drewN _ _ _⟩ | exact ⟨rfl, _, Eq.trans (World.drewN_drewN _ _ _) (congrArg (World.drewN _) (Nat.add_assoc _ _ _))⟩); have p104 : 0 ≤ ((ji11) : Int) := of_decide_eq_true (by first | (with_reducible assumption) | assumption); have q104 : (ji11) < (l0.length : Int) := of_decide_eq_true (by first | (with_reducible assumption) | assumption); obtain ⟨ad104, e104, hx104_0, hx104_1⟩ := at_T73 HR0.out (ji11) p104 q104; obtain rfl : ad101 = ad104 := (by injection e104); have hn104_0 : ad101.block ≠ gb102 := Nat.ne_of_lt (Nat.lt_of_lt_of_le (by have := World.block_lt_of_cell? _ _ hx104_0; first | rwa [add_block] at this | exact this) GW102.out); have hn104_1 : ad101.block ≠ gb102 := Nat.ne_of_lt (Nat.lt_of_lt_of_le (by have := World.block_lt_of_cell? _ _ hx104_0; first | rwa [add_block] at this | exact this) GW102.out); replace hx104_0 := (HB.out.cell (World.block_lt_of_cell? w _ hx104_0)).trans hx104_0; replace hx104_1 := (HB.out.cell (World.block_lt_of_cell? w _ hx104_1)).trans hx104_1; replace hx104_0 := (cell_far (p := ⟨gb102, 0, none⟩) (by first | (rw [add_block]; exact hn104_0) | (show (Addr.add _ _).block ≠ _; rw [add_block]; exact hn104_0) | exact hn104_0) (.string ((rd_T73 l0 x7_1).f0))).trans hx104_0; replace hx104_1 := (cell_far (p := ⟨gb102, 0, none⟩) (by first | (rw [add_block]; exact hn104_0) | (show (Addr.add _ _).block ≠ _; rw [add_block]; exact hn104_0) | exact hn104_0) (.string ((rd_T73 l0 x7_1).f0))).trans hx104_1; replace hx104_0 := (cell_far (p := ⟨gb102, 1, none⟩) (by first | (rw [add_block]; exact hn104_1) | (show (Addr.add _ _).block ≠ _; rw [add_block]; exact hn104_1) | exact hn104_1) (.int .i64 ((rd_T73 l0 x7_1).f1))).trans hx104_0; replace hx104_1 := (cell_far (p := ⟨gb102, 1, none⟩) (by first | (rw [add_block]; exact hn104_1) | (show (Addr.add _ _).block ≠ _; rw [add_block]; exact hn104_1) | exact hn104_1) (.int .i64 ((rd_T73 l0 x7_1).f1))).trans hx104_1; (try have hy104_0 := fun (n_ : Nat) => (show ((((w17.drewN n_).setCell ⟨gb102, 0, none⟩ (.string ((rd_T73 l0 x7_1).f0))).setCell ⟨gb102, 1, none⟩ (.int .i64 ((rd_T73 l0 x7_1).f1)))).cell? _ = some _ from hx104_0)); (try have hy104_1 := fun (n_ : Nat) => (show ((((w17.drewN n_).setCell ⟨gb102, 0, none⟩ (.string ((rd_T73 l0 x7_1).f0))).setCell ⟨gb102, 1, none⟩ (.int .i64 ((rd_T73 l0 x7_1).f1)))).cell? _ = some _ from hx104_1)); clear hn104_0; clear hn104_1; replace p104 := eq_true p104; replace q104 := eq_true q104)))
            go_ret
            exact ⟨by first | rfl | (simp [errW_none, errW_some] <;> rfl) | (simp only [← hji11]; first | rfl | (simp [errW_none, errW_some] <;> rfl)) | (simp [*, errW_none, errW_some] <;> rfl), by repeat (first | (with_reducible first | exact HB.out | apply below_alloc | apply pw_below_drewN | apply below_drew1 | refine below_set ?_ GE102.out) | exact HB.out)⟩
          ·rw [if_neg c13] at H
           exact absurd H (by simp)
         ·rw [if_neg c12] at H
          exact absurd H (by simp)
        ·rw [if_neg c10] at H
         have c10b0 : decide (0 < x7_1) = false := decide_eq_false c10
         clear c10
         have H' := Aside0.mk H
         clear H
         have p101 : 0 ≤ (x7_1 : Int) := of_decide_eq_true (by first | (with_reducible assumption) | assumption)
         have q101 : x7_1 < (l0.length : Int) := of_decide_eq_true (by first | (with_reducible assumption) | assumption)
         obtain ⟨ad101, e101, hx101_0, hx101_1⟩ := at_T73 HR0.out x7_1 p101 q101
         cases e101
         replace hx101_0 := (HB.out.cell (World.block_lt_of_cell? w _ hx101_0)).trans hx101_0
         replace hx101_1 := (HB.out.cell (World.block_lt_of_cell? w _ hx101_1)).trans hx101_1
         replace p101 := eq_true p101
         replace q101 := eq_true q101
         go_wp2_with (first | ((with_reducible refine gate_dst (N := 4) rfl ?_); refine box_event ?hg (N := 4) ?hd (cs := #[.string (⟨#[]⟩ : ByteArray), .int .i64 0]) (t := 73) ?hr ?_; (case hd => rfl); (case hg => rfl); (case hr => first | (go_simp; done) | (go_simp; rfl)); intro gb102 hg w19 hbox hb; have n0_ := Aside0.mk (below_step (by repeat (first | (with_reducible first | exact HB.out | apply below_alloc | apply pw_below_drewN | apply below_drew1) | exact HB.out)) hb); have n1_ := Aside0.mk (hbox); have n2_ := Aside0.mk ((by rw [hg]; exact (below_size (by repeat (first | (with_reducible first | exact HB.out | apply below_alloc | apply pw_below_drewN | apply below_drew1) | exact HB.out))) : w.heap.size ≤ gb102)); have n3_ := Aside0.mk ((by rw [hg]; exact (below_size (by repeat (first | (with_reducible first | exact HB.out | apply below_alloc | apply pw_below_drewN | apply below_drew1) | exact HB.out))) : w.heap.size ≤ gb102)); clear HB; have HB := n0_; have BK102 := n1_; have GW102 := n2_; have GE102 := n3_; clear n0_ n1_ n2_ n3_; clear hb hbox hg; have hcz20_0 : w19.cell? ⟨gb102, 0, none⟩ = some (.string (⟨#[]⟩ : ByteArray)) := (blk_cell BK102.out 0).trans rfl; have hcz20_1 : w19.cell? ⟨gb102, 1, none⟩ = some (.int .i64 0) := (blk_cell BK102.out 1).trans rfl; have hfz20_0 := blk_frozen BK102.out 0; have hfz20_1 := blk_frozen BK102.out 1) | (go_at_call 76; (with_reducible refine (ops_Key.calls ((rd_T73 l0 x7_1).f0) true _ A5.out).mono ?_); rintro e w' ⟨rfl, ⟨nd, rfl⟩⟩; (try first | exact ⟨rfl, _, World.drewN_drewN _ _ _⟩ | exact ⟨rfl, _, Eq.trans (World.drewN_drewN _ _ _) (congrArg (World.drewN _) (Nat.add_assoc _ _ _))⟩)))
         repeat (go_quiet (first | ((with_reducible refine gate_dst (N := 4) rfl ?_); refine box_event ?hg (N := 4) ?hd (cs := #[.string (⟨#[]⟩ : ByteArray), .int .i64 0]) (t := 73) ?hr ?_; (case hd => rfl); (case hg => rfl); (case hr => first | (go_simp; done) | (go_simp; rfl)); intro gb102 hg w19 hbox hb; have n0_ := Aside0.mk (below_step (by repeat (first | (with_reducible first | exact HB.out | apply below_alloc | apply pw_below_drewN | apply below_drew1) | exact HB.out)) hb); have n1_ := Aside0.mk (hbox); have n2_ := Aside0.mk ((by rw [hg]; exact (below_size (by repeat (first | (with_reducible first | exact HB.out | apply below_alloc | apply pw_below_drewN | apply below_drew1) | exact HB.out))) : w.heap.size ≤ gb102)); have n3_ := Aside0.mk ((by rw [hg]; exact (below_size (by repeat (first | (with_reducible first | exact HB.out | apply below_alloc | apply pw_below_drewN | apply below_drew1) | exact HB.out))) : w.heap.size ≤ gb102)); clear HB; have HB := n0_; have BK102 := n1_; have GW102 := n2_; have GE102 := n3_; clear n0_ n1_ n2_ n3_; clear hb hbox hg; have hcz20_0 : w19.cell? ⟨gb102, 0, none⟩ = some (.string (⟨#[]⟩ : ByteArray)) := (blk_cell BK102.out 0).trans rfl; have hcz20_1 : w19.cell? ⟨gb102, 1, none⟩ = some (.int .i64 0) := (blk_cell BK102.out 1).trans rfl; have hfz20_0 := blk_frozen BK102.out 0; have hfz20_1 := blk_frozen BK102.out 1) | (go_at_call 76; (with_reducible refine (ops_Key.calls ((rd_T73 l0 x7_1).f0) true _ A5.out).mono ?_); rintro e w' ⟨rfl, ⟨nd, rfl⟩⟩; (try first | exact ⟨rfl, _, World.drewN_drewN _ _ _⟩ | exact ⟨rfl, _, Eq.trans (World.drewN_drewN _ _ _) (congrArg (World.drewN _) (Nat.add_assoc _ _ _))⟩))); try go_wp2_with (first | ((with_reducible refine gate_dst (N := 4) rfl ?_); refine box_event ?hg (N := 4) ?hd (cs := #[.string (⟨#[]⟩ : ByteArray), .int .i64 0]) (t := 73) ?hr ?_; (case hd => rfl); (case hg => rfl); (case hr => first | (go_simp; done) | (go_simp; rfl)); intro gb102 hg w19 hbox hb; have n0_ := Aside0.mk (below_step (by repeat (first | (with_reducible first | exact HB.out | apply below_alloc | apply pw_below_drewN | apply below_drew1) | exact HB.out)) hb); have n1_ := Aside0.mk (hbox); have n2_ := Aside0.mk ((by rw [hg]; exact (below_size (by repeat (first | (with_reducible first | exact HB.out | apply below_alloc | apply pw_below_drewN | apply below_drew1) | exact HB.out))) : w.heap.size ≤ gb102)); have n3_ := Aside0.mk ((by rw [hg]; exact (below_size (by repeat (first | (with_reducible first | exact HB.out | apply below_alloc | apply pw_below_drewN | apply below_drew1) | exact HB.out))) : w.heap.size ≤ gb102)); clear HB; have HB := n0_; have BK102 := n1_; have GW102 := n2_; have GE102 := n3_; clear n0_ n1_ n2_ n3_; clear hb hbox hg; have hcz20_0 : w19.cell? ⟨gb102, 0, none⟩ = some (.string (⟨#[]⟩ : ByteArray)) := (blk_cell BK102.out 0).trans rfl; have hcz20_1 : w19.cell? ⟨gb102, 1, none⟩ = some (.int .i64 0) := (blk_cell BK102.out 1).trans rfl; have hfz20_0 := blk_frozen BK102.out 0; have hfz20_1 := blk_frozen BK102.out 1) | (go_at_call 76; (with_reducible refine (ops_Key.calls ((rd_T73 l0 x7_1).f0) true _ A5.out).mono ?_); rintro e w' ⟨rfl, ⟨nd, rfl⟩⟩; (try first | exact ⟨rfl, _, World.drewN_drewN _ _ _⟩ | exact ⟨rfl, _, Eq.trans (World.drewN_drewN _ _ _) (congrArg (World.drewN _) (Nat.add_assoc _ _ _))⟩))))
         go_roundg k1
         case measure => have := HK1.out; omega
         case rel => exact ⟨(wrap64 (x7_1 + 1)), (by first | rfl | (simp; done) | (simp [*]; done)), H', ⟨by have := HK1.out; omega⟩, ⟨by repeat (first | (with_reducible first | exact HB.out | apply below_alloc | apply pw_below_drewN | apply below_drew1 | refine below_set ?_ GE102.out) | exact HB.out)⟩⟩
      ·replace c6 := Bool.eq_false_iff.mpr c6
       subst c6
       have H1 : (some false) = some r := by rw [if_neg (show ¬ (false = true) by decide)] at H; exact H
       clear H
       have H := H1
       clear H1
       obtain rfl := Option.some.inj H
       have p101 : 0 ≤ (x7_1 : Int) := of_decide_eq_true (by first | (with_reducible assumption) | assumption)
       have q101 : x7_1 < (l0.length : Int) := of_decide_eq_true (by first | (with_reducible assumption) | assumption)
       obtain ⟨ad101, e101, hx101_0, hx101_1⟩ := at_T73 HR0.out x7_1 p101 q101
       cases e101
       replace hx101_0 := (HB.out.cell (World.block_lt_of_cell? w _ hx101_0)).trans hx101_0
       replace hx101_1 := (HB.out.cell (World.block_lt_of_cell? w _ hx101_1)).trans hx101_1
       replace p101 := eq_true p101
       replace q101 := eq_true q101
       go_wp2_with (first | ((with_reducible refine gate_dst (N := 4) rfl ?_); refine box_event ?hg (N := 4) ?hd (cs := #[.string (⟨#[]⟩ : ByteArray), .int .i64 0]) (t := 73) ?hr ?_; (case hd => rfl); (case hg => rfl); (case hr => first | (go_simp; done) | (go_simp; rfl)); intro gb102 hg w21 hbox hb; have n0_ := Aside0.mk (below_step (by repeat (first | (with_reducible first | exact HB.out | apply below_alloc | apply pw_below_drewN | apply below_drew1) | exact HB.out)) hb); have n1_ := Aside0.mk (hbox); have n2_ := Aside0.mk ((by rw [hg]; exact (below_size (by repeat (first | (with_reducible first | exact HB.out | apply below_alloc | apply pw_below_drewN | apply below_drew1) | exact HB.out))) : w.heap.size ≤ gb102)); have n3_ := Aside0.mk ((by rw [hg]; exact (below_size (by repeat (first | (with_reducible first | exact HB.out | apply below_alloc | apply pw_below_drewN | apply below_drew1) | exact HB.out))) : w.heap.size ≤ gb102)); clear HB; have HB := n0_; have BK102 := n1_; have GW102 := n2_; have GE102 := n3_; clear n0_ n1_ n2_ n3_; clear hb hbox hg; have hcz22_0 : w21.cell? ⟨gb102, 0, none⟩ = some (.string (⟨#[]⟩ : ByteArray)) := (blk_cell BK102.out 0).trans rfl; have hcz22_1 : w21.cell? ⟨gb102, 1, none⟩ = some (.int .i64 0) := (blk_cell BK102.out 1).trans rfl; have hfz22_0 := blk_frozen BK102.out 0; have hfz22_1 := blk_frozen BK102.out 1) | (go_at_call 76; (with_reducible refine (ops_Key.calls ((rd_T73 l0 x7_1).f0) false _ A5.out).mono ?_); rintro e w' ⟨rfl, ⟨nd, rfl⟩⟩; (try first | exact ⟨rfl, _, World.drewN_drewN _ _ _⟩ | exact ⟨rfl, _, Eq.trans (World.drewN_drewN _ _ _) (congrArg (World.drewN _) (Nat.add_assoc _ _ _))⟩)))
       repeat (go_quiet (first | ((with_reducible refine gate_dst (N := 4) rfl ?_); refine box_event ?hg (N := 4) ?hd (cs := #[.string (⟨#[]⟩ : ByteArray), .int .i64 0]) (t := 73) ?hr ?_; (case hd => rfl); (case hg => rfl); (case hr => first | (go_simp; done) | (go_simp; rfl)); intro gb102 hg w21 hbox hb; have n0_ := Aside0.mk (below_step (by repeat (first | (with_reducible first | exact HB.out | apply below_alloc | apply pw_below_drewN | apply below_drew1) | exact HB.out)) hb); have n1_ := Aside0.mk (hbox); have n2_ := Aside0.mk ((by rw [hg]; exact (below_size (by repeat (first | (with_reducible first | exact HB.out | apply below_alloc | apply pw_below_drewN | apply below_drew1) | exact HB.out))) : w.heap.size ≤ gb102)); have n3_ := Aside0.mk ((by rw [hg]; exact (below_size (by repeat (first | (with_reducible first | exact HB.out | apply below_alloc | apply pw_below_drewN | apply below_drew1) | exact HB.out))) : w.heap.size ≤ gb102)); clear HB; have HB := n0_; have BK102 := n1_; have GW102 := n2_; have GE102 := n3_; clear n0_ n1_ n2_ n3_; clear hb hbox hg; have hcz22_0 : w21.cell? ⟨gb102, 0, none⟩ = some (.string (⟨#[]⟩ : ByteArray)) := (blk_cell BK102.out 0).trans rfl; have hcz22_1 : w21.cell? ⟨gb102, 1, none⟩ = some (.int .i64 0) := (blk_cell BK102.out 1).trans rfl; have hfz22_0 := blk_frozen BK102.out 0; have hfz22_1 := blk_frozen BK102.out 1) | (go_at_call 76; (with_reducible refine (ops_Key.calls ((rd_T73 l0 x7_1).f0) false _ A5.out).mono ?_); rintro e w' ⟨rfl, ⟨nd, rfl⟩⟩; (try first | exact ⟨rfl, _, World.drewN_drewN _ _ _⟩ | exact ⟨rfl, _, Eq.trans (World.drewN_drewN _ _ _) (congrArg (World.drewN _) (Nat.add_assoc _ _ _))⟩))); try go_wp2_with (first | ((with_reducible refine gate_dst (N := 4) rfl ?_); refine box_event ?hg (N := 4) ?hd (cs := #[.string (⟨#[]⟩ : ByteArray), .int .i64 0]) (t := 73) ?hr ?_; (case hd => rfl); (case hg => rfl); (case hr => first | (go_simp; done) | (go_simp; rfl)); intro gb102 hg w21 hbox hb; have n0_ := Aside0.mk (below_step (by repeat (first | (with_reducible first | exact HB.out | apply below_alloc | apply pw_below_drewN | apply below_drew1) | exact HB.out)) hb); have n1_ := Aside0.mk (hbox); have n2_ := Aside0.mk ((by rw [hg]; exact (below_size (by repeat (first | (with_reducible first | exact HB.out | apply below_alloc | apply pw_below_drewN | apply below_drew1) | exact HB.out))) : w.heap.size ≤ gb102)); have n3_ := Aside0.mk ((by rw [hg]; exact (below_size (by repeat (first | (with_reducible first | exact HB.out | apply below_alloc | apply pw_below_drewN | apply below_drew1) | exact HB.out))) : w.heap.size ≤ gb102)); clear HB; have HB := n0_; have BK102 := n1_; have GW102 := n2_; have GE102 := n3_; clear n0_ n1_ n2_ n3_; clear hb hbox hg; have hcz22_0 : w21.cell? ⟨gb102, 0, none⟩ = some (.string (⟨#[]⟩ : ByteArray)) := (blk_cell BK102.out 0).trans rfl; have hcz22_1 : w21.cell? ⟨gb102, 1, none⟩ = some (.int .i64 0) := (blk_cell BK102.out 1).trans rfl; have hfz22_0 := blk_frozen BK102.out 0; have hfz22_1 := blk_frozen BK102.out 1) | (go_at_call 76; (with_reducible refine (ops_Key.calls ((rd_T73 l0 x7_1).f0) false _ A5.out).mono ?_); rintro e w' ⟨rfl, ⟨nd, rfl⟩⟩; (try first | exact ⟨rfl, _, World.drewN_drewN _ _ _⟩ | exact ⟨rfl, _, Eq.trans (World.drewN_drewN _ _ _) (congrArg (World.drewN _) (Nat.add_assoc _ _ _))⟩))))
       go_ret
       exact ⟨by first | rfl | (simp [errW_none, errW_some] <;> rfl) | (simp [*, errW_none, errW_some] <;> rfl), by repeat (first | (with_reducible first | exact HB.out | apply below_alloc | apply pw_below_drewN | apply below_drew1 | refine below_set ?_ GE102.out) | exact HB.out)⟩
     ·rw [if_neg c4] at H
      exact absurd H (by simp)
    ·rw [if_neg c3] at H
     exact absurd H (by simp)
   ·rw [if_neg c2] at H
    have c2b0 : decide (x7_1 < (l0.length : Int)) = false := decide_eq_false c2
    clear c2
    obtain rfl := Option.some.inj H
    go_wp2
    repeat (go_quiet (fail); try go_wp2)
    go_ret
    exact ⟨by first | rfl | (simp [errW_none, errW_some] <;> rfl) | (simp [*, errW_none, errW_some] <;> rfl), by repeat (first | (with_reducible first | exact HB.out | apply below_alloc | apply pw_below_drewN | apply below_drew1) | exact HB.out)⟩

end Go.Proofs.YtmcddoolniaehaaGreat.S
end
section
namespace Go.Proofs.YtmcddoolniaehaaGreat.S
open Go.RowKit Go.Proofs.YtmcddoolniaehaaGreatW.PrintWords Go.Proofs.YtmcddoolniaehaaGreatW.PrintLast Go.Proofs.YtmcddoolniaehaaGreatW.PrintMore Go.Proofs.YtmcddoolniaehaaGreatW
set_option linter.unusedVariables false
set_option linter.unusedSimpArgs false
abbrev Ct := S73
theorem wrapS {n : Nat} (h : n < 4611686018427387904) : wrap64 ((n : Int) + 1) = ((n + 1 : Nat) : Int) := by unfold wrap64; omega
theorem wrapP {n : Nat} (h : n < 4611686018427387904) : wrap64 (((n + 1 : Nat) : Int) - 1) = (n : Int) := by unfold wrap64; omega
theorem rdC_mid (pre suf : List Ct) (x : Ct) : rd_T73 (pre ++ x :: suf) ((pre.length : Nat) : Int) = x := by
  simp [rd_T73, List.getD_eq_getElem?_getD]
theorem lenS {α : Type} (pre : List α) (x : α) : (pre ++ [x]).length = pre.length + 1 := by simp
theorem appS {α : Type} (pre suf : List α) (x : α) : (pre ++ [x]) ++ suf = pre ++ x :: suf := by simp
def kSmall (a : ByteArray) : Bool := decide (a.size ≤ 140737488351232)
theorem keyS {a : ByteArray} (h : kSmall a = true) : ops_Key.f a = some (keyB a.data.toList) := by
  unfold ops_Key.f
  unfold kSmall at h
  rw [if_pos (by simp at h; omega)]
def oneC (c : Ct) : Bool := keyB c.f0.data.toList && decide (c.f1 ≠ 0)
def mayCP : Option Ct → List Ct → Bool
  | _, [] => true
  | p, x :: l => oneC x && ((match p with | none => true | some y => Op.bytesLess y.f0.toList x.f0.toList) && mayCP (some x) l)
def mayC (l : List Ct) : Bool := mayCP none l
def cLt (x y : Ct) : Prop := Op.bytesLess x.f0.toList y.f0.toList = true
theorem mayC_loop : ∀ (suf pre : List Ct) (k : Nat), suf.length < k → (pre ++ suf).length < 4611686018427387904 → (∀ x ∈ suf, kSmall x.f0 = true) →
    ctr_May.l0 k (pre ++ suf) (pre ++ suf) (((pre ++ suf).length : Nat) : Int) ((pre.length : Nat) : Int) = some (mayCP pre.getLast? suf)
  | suf, pre, 0, hk, _, _ => by omega
  | [], pre, k + 1, _, _, _ => by
    simp only [ctr_May.l0]
    rw [if_neg (by simp)]
    rfl
  | x :: suf, pre, k + 1, hk, hl, ho => by
    have hlt : ((pre.length : Nat) : Int) < (((pre ++ x :: suf).length : Nat) : Int) := by simp; omega
    have hpl : pre.length < 4611686018427387904 := by simp at hl; omega
    have ih := mayC_loop suf (pre ++ [x]) k (by simp at hk; omega) (by simpa using hl) (fun y hy => ho y (List.mem_cons_of_mem _ hy))
    rw [appS, List.getLast?_concat, lenS] at ih
    simp only [ctr_May.l0]
    rw [if_pos hlt, if_pos (by omega), if_pos hlt, rdC_mid, keyS (ho x List.mem_cons_self), Option.bind_some, wrapS hpl]
    unfold mayCP oneC
    cases h1 : keyB x.f0.data.toList with
    | false => rfl
    | true =>
      simp only [if_true, Bool.true_and]
      by_cases h0 : x.f1 = 0
      · rw [if_pos h0]; simp [h0]
      · rw [if_neg h0]
        simp only [ne_eq, h0, not_false_eq_true, decide_true, Bool.true_and]
        rcases List.eq_nil_or_concat pre with rfl | ⟨p, y, rfl⟩
        · rw [if_neg (by simp)]
          simpa using ih
        · rw [List.concat_eq_append] at *
          have hw : wrap64 ((((p ++ [y]).length : Nat) : Int) - 1) = ((p.length : Nat) : Int) := by
            rw [List.length_append, List.length_singleton]; exact wrapP (by simp at hpl; omega)
          rw [if_pos (by simp), hw, if_pos (by omega), if_pos (by simp; omega), appS, rdC_mid, List.getLast?_concat]
          rw [appS] at ih
          cases h2 : Op.bytesLess y.f0.toList x.f0.toList with
          | false => simp [h2]
          | true =>
            simp only [if_true]
            rw [ih, h2]; rfl
theorem mayC_f (k : Nat) (l : List Ct) (hk : l.length < k) (hl : l.length < 4611686018427387904) (ho : ∀ x ∈ l, kSmall x.f0 = true) : ctr_May.f k l = some (mayC l) := by
  have := mayC_loop l [] k hk (by simpa using hl) ho
  simpa [ctr_May.f, mayC] using this
theorem mayCP_iff : ∀ (l : List Ct) (p : Option Ct), mayCP p l = true ↔ (∀ x ∈ l, oneC x = true) ∧ (p.toList ++ l).Pairwise cLt
  | [], none => by simp [mayCP]
  | [], some y => by simp [mayCP]
  | x :: l, none => by
    have ih := mayCP_iff l (some x)
    unfold mayCP
    simp only [Bool.true_and, Bool.and_eq_true, ih, List.mem_cons, forall_eq_or_imp, Option.toList, List.nil_append, List.cons_append]
    exact and_assoc.symm
  | x :: l, some y => by
    have ih := mayCP_iff l (some x)
    unfold mayCP
    simp only [Bool.and_eq_true, ih, List.mem_cons, forall_eq_or_imp, Option.toList, List.nil_append, List.cons_append]
    constructor
    · rintro ⟨h1, h2, h3, h4⟩
      refine ⟨⟨h1, h3⟩, ?_⟩
      rw [List.pairwise_cons]
      refine ⟨fun z hz => ?_, h4⟩
      rcases List.mem_cons.1 hz with rfl | hz
      · exact h2
      · exact less_trans h2 ((List.pairwise_cons.1 h4).1 z hz)
    · rintro ⟨⟨h1, h3⟩, h4⟩
      rw [List.pairwise_cons] at h4
      exact ⟨h1, h4.1 x List.mem_cons_self, h3, h4.2⟩
theorem mayC_iff (l : List Ct) : mayC l = true ↔ (∀ x ∈ l, oneC x = true) ∧ l.Pairwise cLt := by
  have := mayCP_iff l none
  simpa [mayC] using this
theorem setM_len (es : MapL) (k : ByteArray) (n : Int) : (setM es k n).length ≤ es.length + 1 := by
  induction es with
  | nil => simp [setM]
  | cons y l ih =>
    unfold setM
    split
    · simp; exact ih
    · split <;> simp
theorem addM_len (t : Int) : ∀ (l : List Ct) (es : MapL), (addM t es l).length ≤ es.length + l.length
  | [], es => by simp [addM]
  | c :: l, es => by
    have h1 := addM_len t l (incM es c.f0 (wrap64 (t * c.f1)))
    have h2 := setM_len es c.f0 (wrap64 (getM es c.f0 + wrap64 (t * c.f1)))
    show (addM t (incM es c.f0 (wrap64 (t * c.f1))) l).length ≤ _
    unfold incM at *
    simp only [List.length_cons]
    omega
end Go.Proofs.YtmcddoolniaehaaGreat.S
end
section
namespace Go.Proofs.YtmcddoolniaehaaGreat.S
open Go.RowKit Go.Maps Go.Sort Go.Proofs.YtmcddoolniaehaaGreatW.PrintWords Go.Proofs.YtmcddoolniaehaaGreatW.PrintLast Go.Proofs.YtmcddoolniaehaaGreatW.PrintMore Go.Proofs.YtmcddoolniaehaaGreatW
set_option linter.unusedVariables false
set_option linter.unusedSimpArgs false
theorem own_lower' {w : World} {base base' : Nat} {e : TypeId} {size n : Nat} {v : Value} {xs : List Value} (h : w.ownsRow base e size v n xs) (hb : base' ≤ base) : w.ownsRow base' e size v n xs := by
  obtain ⟨h1, h2⟩ := h
  refine ⟨h1, ?_⟩
  rcases h2 with h2 | ⟨g, cap, cur, rfl, hg, hh, r⟩
  · exact .inl h2
  · exact .inr ⟨g, cap, cur, rfl, Nat.le_trans hb hg, hh, r⟩
theorem ctrCells_length (x : S73) : (ctrCells x).length = k73.sz := rfl
theorem R_ctr {w : World} {base : Nat} {v : Value} {xs : List S73} (h : w.ownsRow base 73 2 v xs.length (ctrRow xs)) : k73.R 73 w base (fun _ => True) v xs :=
  R_of_cells (d := k73) (enc := ctrCells) ctrCells_length (fun w base ok x => k73_mkM w base ok x) h (fun _ _ => trivial)
set_option maxHeartbeats 1000000 in
set_option maxRecDepth 100000 in
theorem list_calls (gb n : Nat) (es : MapL) (w : World) (hown : OwnsM w gb n es) (hup : es.Pairwise mLt) (hlim : es.length * 32 ≤ 140737488355328) :
    Calls Tryz.prog 81 #[.map (some gb)] w fun e w' => ∃ v, e = .returned v ∧ w'.ownsRow w.heap.size 73 2 v (outM es).length (ctrRow (outM es)) ∧ Below w.heap.size w w' := by
  have H := Aside0.mk (sorted_calls gb n es w hown hup hlim)
  clear hown hup hlim
  go_enter Tryz.func81, Tryz.ntmps81
  go_wp2_with fail
  refine H.out.mono ?_
  rintro e w1 ⟨v, rfl, ho, hb⟩
  obtain ⟨A', c', rfl⟩ := own_slice ho
  have HO := Aside0.mk ho
  have HB := Aside0.mk hb
  clear ho hb
  go_wp2
  go_ret
  exact ⟨_, rfl, HO.out, HB.out⟩
def smallC (l : List Ct) : Bool := decide ((l.length + 1) * 256 ≤ 140737488351232) && l.all (fun x => kSmall x.f0)
theorem smallC_len {l : List Ct} (h : smallC l = true) : (l.length + 1) * 256 ≤ 140737488351232 := by
  unfold smallC at h; simp at h; exact h.1
theorem smallC_all {l : List Ct} (h : smallC l = true) : ∀ x ∈ l, kSmall x.f0 = true := by
  unfold smallC at h; simp at h; exact h.2
theorem kSmall_le {a : ByteArray} (h : kSmall a = true) : a.size ≤ maxLen := by
  unfold kSmall at h; simp at h; unfold maxLen; omega
def incO (l : List Ct) (key : ByteArray) (n : Int) : List Ct := if mayC l && keyB key.data.toList then outM (incM (addM 1 [] l) key n) else []
def ctr_Inc.f (l0 : List (S73)) (a1 : ByteArray) (a2 : Int) : Option ((List (S73))) :=
  if smallC l0 = true ∧ kSmall a1 = true then some (incO l0 a1 a2) else none
set_option maxHeartbeats 4000000 in
set_option maxRecDepth 100000 in
theorem ctr_Inc.calls (A0 : Option Addr) (c0 : Nat) (l0 : List (S73)) (a1 : ByteArray) (a2 : Int) (r : List (S73)) (w : World) (hr0 : Kd.C k73 w A0 l0.length l0) (hc0 : l0.length ≤ c0) (h : ctr_Inc.f l0 a1 a2 = some r) :
    Calls Tryz.prog 31 #[.slice A0 l0.length c0, .string a1, .int .i64 a2] w fun e w' => ∃ v0_ : Value, e = .returned (v0_) ∧ Kd.R k73 73 w' w.heap.size (fun _ => True) v0_ r ∧ Below w.heap.size w w' := by
  unfold ctr_Inc.f at h
  split at h
  case isFalse => cases h
  case isTrue hh =>
  cases h
  have hlen := smallC_len hh.1
  have hl64 : l0.length < 4611686018427387904 := by omega
  have HMAY := Aside0.mk (ctr_May.calls (l0.length + 1) A0 c0 l0 (mayC l0) w hr0 hc0 (mayC_f (l0.length + 1) l0 (by omega) hl64 (smallC_all hh.1)))
  have HKEY := Aside0.mk (fun (W : World) => ops_Key.calls a1 _ W (keyS hh.2))
  have HR := Aside0.mk hr0
  have HS := Aside0.mk (smallC_all hh.1)
  have HA := Aside0.mk (kSmall_le hh.2)
  clear hr0 hh
  have hum := Tryz.underlying100
  have hmm := @run_makeMap Tryz.prog
  go_enter Tryz.func31, Tryz.ntmps31
  go_wp2_with fail
  refine HMAY.out.mono ?_
  rintro e w1 ⟨rfl, hb1⟩
  have HB1 := Aside0.mk hb1
  clear hb1 HMAY
  cases hm : mayC l0 with
  | false =>
    have HI := Aside0.mk (show incO l0 a1 a2 = [] by simp [incO, hm])
    clear hm
    go_wp2
    go_ret
    exact ⟨_, rfl, by rw [HI.out]; exact Kd.R_nil _ _ _ _ _, HB1.out⟩
  | true =>
    go_wp2_with fail
    refine (HKEY.out _).mono ?_
    rintro e w2 ⟨rfl, hd2⟩
    have HB2 := Aside0.mk (below_then HB1.out HB1.out.size (Drawn0.below hd2))
    clear hd2 HB1 HKEY
    cases hkb : keyB a1.data.toList with
    | false =>
      have HI := Aside0.mk (show incO l0 a1 a2 = [] by simp [incO, hkb])
      clear hm hkb
      go_wp2
      go_ret
      exact ⟨_, rfl, by rw [HI.out]; exact Kd.R_nil _ _ _ _ _, HB2.out⟩
    | true =>
      have HI := Aside0.mk (show incO l0 a1 a2 = outM (incM (addM 1 [] l0) a1 a2) by simp [incO, hkb, hm])
      clear hm hkb
      have hw2 := HB2.out.size
      have hlm : 0 + l0.length ≤ maxLen := by unfold maxLen; omega
      have HADD := Aside0.mk (sums_add w w2.heap.size 0 [] A0 c0 l0 1 (w2.alloc (.map #[] 0)) (below_alloc HB2.out _) hw2 (World.ownsMap_made w2 Tryz.prog 9 (plainElem (H := Unit) Tryz.prog 3)) List.Pairwise.nil HR.out hlm (fun x hx => kSmall_le (HS.out x hx)))
      go_wp2_with fail
      refine HADD.out.mono ?_
      rintro e w3 ⟨rfl, ho3, hb3⟩
      have HO3 := Aside0.mk ho3
      have HB3 := Aside0.mk hb3
      have hkl := HA.out
      have hn3 : 0 + l0.length < maxLen := by unfold maxLen; omega
      have hlenA := addM_len 1 l0 []
      have HUPA := Aside0.mk (addM_up 1 l0 [] List.Pairwise.nil)
      clear ho3 hb3 HADD hmm
      go_wp2_with (first
        | (at_lookup; refine wpList_lookup_own_int _ rfl _ _ 100 rfl 9 3 .i64 lawS Tryz.underlying100 Tryz.underlying3 (zeroI _) w2.heap.size _ _ rfl HO3.out _ _ rfl (Go.WideMaps.keyOf_string_mk Tryz.underlying9 hkl) ?_; intro c hat hwc; have HC := Aside0.mk hat; clear hat hwc)
        | (at_mapUpdate; refine wpList_mapUpdate_own _ rfl _ _ _ 100 rfl 9 3 lawS Tryz.underlying100 _ w2.heap.size _ _ rfl HO3.out hn3 _ _ _ rfl rfl (Go.WideMaps.keyOf_string_mk Tryz.underlying9 hkl) _ [] (plainElem_int Tryz.underlying3 (wrap64_wf _)) ?_; intro w4 hown4 hgrow4; have HO4 := Aside0.mk hown4; have HG4 := Aside0.mk hgrow4; clear hown4 hgrow4))
      have HO5 : Aside0 (OwnsM w4 w2.heap.size (0 + l0.length + 1) (incM (addM 1 [] l0) a1 a2)) := by
        have h1 := HO4.out
        have h2 := HC.out
        rw [at_dat] at h2
        injection h2 with h2
        injection h2 with _ h2
        rw [put_dat _ _ HUPA.out] at h1
        unfold incM
        rw [h2]
        exact ⟨h1⟩
      have HB5 := Aside0.mk (HB3.out.grown HG4.out HB3.out.size (fun j hj => by simp at hj; subst hj; exact hw2))
      have hlenI : (incM (addM 1 [] l0) a1 a2).length * 32 ≤ 140737488355328 := by
        have h1 := setM_len (addM 1 [] l0) a1 (wrap64 (getM (addM 1 [] l0) a1 + a2))
        have h2 : (incM (addM 1 [] l0) a1 a2).length ≤ l0.length + 1 := by
          unfold incM
          simp only [List.length_nil] at hlenA
          omega
        exact Nat.le_trans (Nat.mul_le_mul_right 32 h2) (by omega)
      have HL := Aside0.mk (list_calls w2.heap.size _ (incM (addM 1 [] l0) a1 a2) w4 HO5.out (incM_up _ _ HUPA.out) hlenI)
      clear HO4 HG4 HC HO3 HB3 HO5 hlenA hlenI
      go_wp2_with fail
      refine HL.out.mono ?_
      rintro e w5 ⟨v, rfl, ho5, hb5⟩
      obtain ⟨A', c', rfl⟩ := own_slice ho5
      have HO6 := Aside0.mk (own_lower' ho5 HB5.out.size)
      have HB6 := Aside0.mk (below_step HB5.out hb5)
      clear ho5 hb5 HL HB5
      go_wp2
      go_ret
      exact ⟨_, rfl, by rw [HI.out]; exact R_ctr HO6.out, HB6.out⟩
end Go.Proofs.YtmcddoolniaehaaGreat.S
end
