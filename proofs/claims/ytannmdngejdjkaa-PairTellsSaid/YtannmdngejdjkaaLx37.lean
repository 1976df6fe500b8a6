-- PRINTED by print.py (a twelfth state) out of the translation. Not trusted: Lean checks it.
import Derived.Test.YtannmdngejdjkaaLSq
import Derived.Test.YtannmdngejdjkaaLx0
import Derived.Test.YtannmdngejdjkaaLx11
import Derived.Test.YtannmdngejdjkaaLx36
namespace Go.Proofs.Ytannmdngejdjkaa.L
open Go.RowKit Go.Proofs.YtannmdngejdjkaaW.PrintWords Go.Proofs.YtannmdngejdjkaaW.PrintLast Go.Proofs.YtannmdngejdjkaaW.PrintMore
attribute [local go_sem] max2_int min2_int max_two min_two max_three min_three max_four min_four   -- for this text's walks alone
set_option linter.unusedVariables false
set_option linter.unusedSimpArgs false

/-! ### ref08_May: function 47 -/
mutual
def ref08_May.l0 : Nat → List (S57) → Int → Option (Bool)
 | 0, _, _ => none
 | k + 1, x0, x3 => if x3 < (x0.length : Int) then (if 0 ≤ x3 then ((ref05_Key.f k ((rd_T57 x0 x3).f0)).bind fun t677 => ((ref05_Key.f k ((rd_T57 x0 x3).f1)).bind fun t678 => (if t677 = true then (if t678 = true then (if ((rd_T57 x0 x3).f2.f0) < 0 then (ref08_May.j1 k x0 x3 true ((rd_T57 x0 x3).f0) ((rd_T57 x0 x3).f1) ((rd_T57 x0 x3).f2.f0) ((rd_T57 x0 x3).f2.f1)) else (if ((rd_T57 x0 x3).f2.f0) ≥ 8 then (ref08_May.j1 k x0 x3 true ((rd_T57 x0 x3).f0) ((rd_T57 x0 x3).f1) ((rd_T57 x0 x3).f2.f0) ((rd_T57 x0 x3).f2.f1)) else (ref08_May.j1 k x0 x3 (decide (((rd_T57 x0 x3).f2.f1) < 1)) ((rd_T57 x0 x3).f0) ((rd_T57 x0 x3).f1) ((rd_T57 x0 x3).f2.f0) ((rd_T57 x0 x3).f2.f1)))) else (ref08_May.j1 k x0 x3 true ((rd_T57 x0 x3).f0) ((rd_T57 x0 x3).f1) ((rd_T57 x0 x3).f2.f0) ((rd_T57 x0 x3).f2.f1))) else (ref08_May.j1 k x0 x3 true ((rd_T57 x0 x3).f0) ((rd_T57 x0 x3).f1) ((rd_T57 x0 x3).f2.f0) ((rd_T57 x0 x3).f2.f1))))) else (none)) else (some true)
def ref08_May.j1 : Nat → List (S57) → Int → Bool → ByteArray → ByteArray → Int → Int → Option (Bool)
 | 0, _, _, _, _, _, _, _ => none
 | k + 1, x0, x3, x47, x677000, x677001, x677002, x677003 => if x47 = true then (some false) else (if x3 > 0 then (if 0 ≤ (wrap64 (x3 - 1)) then (if (wrap64 (x3 - 1)) < (x0.length : Int) then ((ref08_Less.f ((rd_T57 x0 (wrap64 (x3 - 1))).f0) ((rd_T57 x0 (wrap64 (x3 - 1))).f1) ((rd_T57 x0 (wrap64 (x3 - 1))).f2.f0) ((rd_T57 x0 (wrap64 (x3 - 1))).f2.f1) x677000 x677001 x677002 x677003).bind fun t680 => (if t680 = true then (ref08_May.l0 k x0 (wrap64 (x3 + 1))) else (some false))) else (none)) else (none)) else (ref08_May.l0 k x0 (wrap64 (x3 + 1))))
end
def ref08_May.f (k : Nat) (l0 : List (S57)) : Option (Bool) := ref08_May.l0 k l0 0
theorem ref08_May.mono_l : ∀ k, (∀ y0 y1, LeO (ref08_May.l0 k y0 y1) (ref08_May.l0 (k + 1) y0 y1)) ∧ (∀ y0 y1 y2 y3 y4 y5 y6, LeO (ref08_May.j1 k y0 y1 y2 y3 y4 y5 y6) (ref08_May.j1 (k + 1) y0 y1 y2 y3 y4 y5 y6))
 | 0 => ⟨fun _ _ r h => by simp [ref08_May.l0] at h, fun _ _ _ _ _ _ _ r h => by simp [ref08_May.j1] at h⟩
 | k + 1 => by
  obtain ⟨ih0, ih1⟩ := ref08_May.mono_l k
  refine ⟨?_, ?_⟩
  ·intro y0 y1
   unfold ref08_May.l0
   repeat' first
   | (with_reducible exact ih0 _ _)
   | (with_reducible exact ih1 _ _ _ _ _ _ _)
   | (with_reducible exact ref05_Key.mono _ _)
   | (with_reducible exact LeO.refl _)
   | (with_reducible exact LeO.none _)
   | (with_reducible refine LeO.ite ?_ ?_)
   | (with_reducible refine LeO.bind ?_ (fun _ => ?_))
   | exact ih0 _ _
   | exact ih1 _ _ _ _ _ _ _
   | exact ref05_Key.mono _ _
   | exact LeO.none _
   | refine LeO.ite ?_ ?_
   | refine LeO.bind ?_ (fun _ => ?_)
  ·intro y0 y1 y2 y3 y4 y5 y6
   unfold ref08_May.j1
   repeat' first
   | (with_reducible exact ih0 _ _)
   | (with_reducible exact ih1 _ _ _ _ _ _ _)
   | (with_reducible exact ref05_Key.mono _ _)
   | (with_reducible exact LeO.refl _)
   | (with_reducible exact LeO.none _)
   | (with_reducible refine LeO.ite ?_ ?_)
   | (with_reducible refine LeO.bind ?_ (fun _ => ?_))
   | exact ih0 _ _
   | exact ih1 _ _ _ _ _ _ _
   | exact ref05_Key.mono _ _
   | exact LeO.none _
   | refine LeO.ite ?_ ?_
   | refine LeO.bind ?_ (fun _ => ?_)
theorem ref08_May.mono : ∀ a0 k, LeO (ref08_May.f k a0) (ref08_May.f (k + 1) a0) := by
 intro a0 k
 obtain ⟨ih0, ih1⟩ := ref08_May.mono_l k
 unfold ref08_May.f
 repeat' first
   | (with_reducible exact ih0 _ _)
   | (with_reducible exact ih1 _ _ _ _ _ _ _)
   | (with_reducible exact ref05_Key.mono _ _)
   | (with_reducible exact LeO.refl _)
   | (with_reducible exact LeO.none _)
   | (with_reducible refine LeO.ite ?_ ?_)
   | (with_reducible refine LeO.bind ?_ (fun _ => ?_))
   | exact ih0 _ _
   | exact ih1 _ _ _ _ _ _ _
   | exact ref05_Key.mono _ _
   | exact LeO.none _
   | refine LeO.ite ?_ ?_
   | refine LeO.bind ?_ (fun _ => ?_)
def ref08_May.T10 : Bool × List (List Nat × List Nat) := (true, [([], []), ([], []), ([1], [1]), ([0, 2], [0, 2]), ([3], [3]), ([], []), ([4, 5], [4, 5]), ([6, 6, 0, 1, 2, 3, 4, 5, 6], [6])])
def ref08_May.B10 : List Nat := [0, 0, 2, 7, 15, 0, 63, 127]
theorem ref08_May.tab10 : rtab .any (opsOf Try.f47 10) = ref08_May.T10 := by kernel_rfl
theorem ref08_May.bits10 : waitsOk ref08_May.T10.2 ref08_May.B10 = true := by kernel_rfl
set_option maxHeartbeats 8000000 in
set_option maxRecDepth 100000 in
theorem ref08_May.calls (k : Nat) (A0 : Option Addr) (c0 : Nat) (l0 : List (S57)) (r : Bool) (w : World) (hr0 : Kd.C k57 w A0 l0.length l0) (hc0 : l0.length ≤ c0) (h : ref08_May.f k l0 = some r) :
  Calls Try.prog 47 #[.slice A0 l0.length c0] w fun e w' => e = .returned (.bool r) ∧ Below w.heap.size w w' := by
 have hu57 := Try.underlying57
 have HR0 := Aside0.mk hr0
 have HC0 := Aside0.mk hc0
 clear hr0 hc0
 have HB := Aside0.mk (Below.refl w.heap.size w)
 have H : (ref08_May.l0 k l0 0) = some r := h
 clear h
 have H' := Aside0.mk H
 clear H
 go_enter Try.func47, Try.ntmps47
 go_wp2
 go_loopg [3] k (fun kq v3 w' => ∃ (x3_1 : Int), v3 = .int .i64 x3_1 ∧ Aside0 (ref08_May.l0 kq l0 x3_1 = some r) ∧ Aside0 (kq ≤ k) ∧ Aside0 (Below w.heap.size w w'))
 case atStart => exact ⟨(0), (by first | rfl | (simp; done) | (simp [*]; done)), H', ⟨Nat.le_refl _⟩, ⟨by repeat (first | (with_reducible first | exact HB.out | apply below_alloc | apply pw_below_drewN | apply below_drew1) | exact HB.out)⟩⟩
 case round =>
  clear H'
  obtain ⟨x3_1, rfl, HA, HK1, HB⟩ := hrel
  cases gk with
  | zero => exact absurd HA.out (by simp [ref08_May.l0])
  | succ k1 =>
   have H := HA.out
   clear HA
   simp only [ref08_May.l0] at H
   by_cases c2 : x3_1 < (l0.length : Int)
   ·rw [if_pos c2] at H
    have c2b0 : decide (x3_1 < (l0.length : Int)) = true := decide_eq_true c2
    clear c2
    by_cases c3 : 0 ≤ x3_1
    ·rw [if_pos c3] at H
     have c3b0 : decide (0 ≤ x3_1) = true := decide_eq_true c3
     clear c3
     replace H := Option.bind_eq_some_iff.mp H
     obtain ⟨t677, A40, H⟩ := H
     replace H : ((ref05_Key.f k1 ((rd_T57 l0 x3_1).f1)).bind fun t678 => (if t677 = true then (if t678 = true then (if ((rd_T57 l0 x3_1).f2.f0) < 0 then (ref08_May.j1 k1 l0 x3_1 true ((rd_T57 l0 x3_1).f0) ((rd_T57 l0 x3_1).f1) ((rd_T57 l0 x3_1).f2.f0) ((rd_T57 l0 x3_1).f2.f1)) else (if ((rd_T57 l0 x3_1).f2.f0) ≥ 8 then (ref08_May.j1 k1 l0 x3_1 true ((rd_T57 l0 x3_1).f0) ((rd_T57 l0 x3_1).f1) ((rd_T57 l0 x3_1).f2.f0) ((rd_T57 l0 x3_1).f2.f1)) else (ref08_May.j1 k1 l0 x3_1 (decide (((rd_T57 l0 x3_1).f2.f1) < 1)) ((rd_T57 l0 x3_1).f0) ((rd_T57 l0 x3_1).f1) ((rd_T57 l0 x3_1).f2.f0) ((rd_T57 l0 x3_1).f2.f1)))) else (ref08_May.j1 k1 l0 x3_1 true ((rd_T57 l0 x3_1).f0) ((rd_T57 l0 x3_1).f1) ((rd_T57 l0 x3_1).f2.f0) ((rd_T57 l0 x3_1).f2.f1))) else (ref08_May.j1 k1 l0 x3_1 true ((rd_T57 l0 x3_1).f0) ((rd_T57 l0 x3_1).f1) ((rd_T57 l0 x3_1).f2.f0) ((rd_T57 l0 x3_1).f2.f1)))) = some r := H
     have A4 := Aside0.mk A40
     clear A40
     replace H := Option.bind_eq_some_iff.mp H
     obtain ⟨t678, A50, H⟩ := H
     replace H : (if t677 = true then (if t678 = true then (if ((rd_T57 l0 x3_1).f2.f0) < 0 then (ref08_May.j1 k1 l0 x3_1 true ((rd_T57 l0 x3_1).f0) ((rd_T57 l0 x3_1).f1) ((rd_T57 l0 x3_1).f2.f0) ((rd_T57 l0 x3_1).f2.f1)) else (if ((rd_T57 l0 x3_1).f2.f0) ≥ 8 then (ref08_May.j1 k1 l0 x3_1 true ((rd_T57 l0 x3_1).f0) ((rd_T57 l0 x3_1).f1) ((rd_T57 l0 x3_1).f2.f0) ((rd_T57 l0 x3_1).f2.f1)) else (ref08_May.j1 k1 l0 x3_1 (decide (((rd_T57 l0 x3_1).f2.f1) < 1)) ((rd_T57 l0 x3_1).f0) ((rd_T57 l0 x3_1).f1) ((rd_T57 l0 x3_1).f2.f0) ((rd_T57 l0 x3_1).f2.f1)))) else (ref08_May.j1 k1 l0 x3_1 true ((rd_T57 l0 x3_1).f0) ((rd_T57 l0 x3_1).f1) ((rd_T57 l0 x3_1).f2.f0) ((rd_T57 l0 x3_1).f2.f1))) else (ref08_May.j1 k1 l0 x3_1 true ((rd_T57 l0 x3_1).f0) ((rd_T57 l0 x3_1).f1) ((rd_T57 l0 x3_1).f2.f0) ((rd_T57 l0 x3_1).f2.f1))) = some r := H
     have A5 := Aside0.mk A50
     clear A50
     have HC6 := Aside0.mk H
     clear H
     have p675 : 0 ≤ (x3_1 : Int) := of_decide_eq_true (by first | (with_reducible assumption) | assumption)
     have q675 : x3_1 < (l0.length : Int) := of_decide_eq_true (by first | (with_reducible assumption) | assumption)
     obtain ⟨ad675, e675, hx675_0, hx675_1, hx675_2, hx675_3⟩ := at_T57 HR0.out x3_1 p675 q675
     cases e675
     replace hx675_0 := (HB.out.cell (World.block_lt_of_cell? w _ hx675_0)).trans hx675_0
     replace hx675_1 := (HB.out.cell (World.block_lt_of_cell? w _ hx675_1)).trans hx675_1
     replace hx675_2 := (HB.out.cell (World.block_lt_of_cell? w _ hx675_2)).trans hx675_2
     replace hx675_3 := (HB.out.cell (World.block_lt_of_cell? w _ hx675_3)).trans hx675_3
     replace p675 := eq_true p675
     replace q675 := eq_true q675
     go_upto_region 7 with (first | ((with_reducible refine gate_dst (N := 4) rfl ?_); refine box_event ?hg (N := 4) ?hd (cs := #[.string (⟨#[]⟩ : ByteArray), .string (⟨#[]⟩ : ByteArray), .int .i64 0, .int .i64 0]) (t := 57) ?hr ?_; (case hd => rfl); (case hg => rfl); (case hr => first | (go_simp; done) | (go_simp; rfl)); intro gb676 hg w7 hbox hb; have n0_ := Aside0.mk (below_step (by repeat (first | (with_reducible first | exact HB.out | apply below_alloc | apply pw_below_drewN | apply below_drew1) | exact HB.out)) hb); have n1_ := Aside0.mk (hbox); have n2_ := Aside0.mk ((by rw [hg]; exact (below_size (by repeat (first | (with_reducible first | exact HB.out | apply below_alloc | apply pw_below_drewN | apply below_drew1) | exact HB.out))) : w.heap.size ≤ gb676)); have n3_ := Aside0.mk ((by rw [hg]; exact (below_size (by repeat (first | (with_reducible first | exact HB.out | apply below_alloc | apply pw_below_drewN | apply below_drew1) | exact HB.out))) : w.heap.size ≤ gb676)); clear HB; have HB := n0_; have BK676 := n1_; have GW676 := n2_; have GE676 := n3_; clear n0_ n1_ n2_ n3_; clear hb hbox hg; have hcz8_0 : w7.cell? ⟨gb676, 0, none⟩ = some (.string (⟨#[]⟩ : ByteArray)) := (blk_cell BK676.out 0).trans rfl; have hcz8_1 : w7.cell? ⟨gb676, 1, none⟩ = some (.string (⟨#[]⟩ : ByteArray)) := (blk_cell BK676.out 1).trans rfl; have hcz8_2 : w7.cell? ⟨gb676, 2, none⟩ = some (.int .i64 0) := (blk_cell BK676.out 2).trans rfl; have hcz8_3 : w7.cell? ⟨gb676, 3, none⟩ = some (.int .i64 0) := (blk_cell BK676.out 3).trans rfl; have hfz8_0 := blk_frozen BK676.out 0; have hfz8_1 := blk_frozen BK676.out 1; have hfz8_2 := blk_frozen BK676.out 2; have hfz8_3 := blk_frozen BK676.out 3) | ((with_reducible refine gate_callee (f := 44) rfl ?_); refine goesL_ (some 20) rfl rfl Try.func44 (by kernel_rfl) rfl #[.string ((rd_T57 l0 x3_1).f0)] rfl (by (try simp only [List.map_toArray, List.map_cons, List.map_nil]); first | done | rfl | (simp only [List.length_drop, List.length_take]; rfl)) ?_; (with_reducible refine (ref05_Key.calls k1 ((rd_T57 l0 x3_1).f0) t677 _ A4.out).mono ?_); rintro e w' ⟨rfl, ⟨nd, rfl⟩⟩; refine ⟨_, rfl, ?_⟩) | ((with_reducible refine gate_callee (f := 44) rfl ?_); refine goesL_ (some 23) rfl rfl Try.func44 (by kernel_rfl) rfl #[.string ((rd_T57 l0 x3_1).f1)] rfl (by (try simp only [List.map_toArray, List.map_cons, List.map_nil]); first | done | rfl | (simp only [List.length_drop, List.length_take]; rfl)) ?_; (with_reducible refine (ref05_Key.calls k1 ((rd_T57 l0 x3_1).f1) t678 _ A5.out).mono ?_); rintro e w' ⟨rfl, ⟨nd, rfl⟩⟩; refine ⟨_, rfl, ?_⟩))
     (try simp only [Act.put, List.setIfInBounds_toArray, List.set_cons_zero, List.set_cons_succ])
     go_cut [47] (fun v47 wc => ∃ (kq : Nat) (x47_5 : Bool), v47 = .bool x47_5 ∧ Aside0 (ref08_May.j1 kq l0 x3_1 x47_5 ((rd_T57 l0 x3_1).f0) ((rd_T57 l0 x3_1).f1) ((rd_T57 l0 x3_1).f2.f0) ((rd_T57 l0 x3_1).f2.f1) = some r) ∧ Aside0 (kq ≤ k1) ∧ Aside0 (wc.heap[gb676]? = some (.cells #[.string ((rd_T57 l0 x3_1).f0), .string ((rd_T57 l0 x3_1).f1), .int .i64 ((rd_T57 l0 x3_1).f2.f0), .int .i64 ((rd_T57 l0 x3_1).f2.f1)] 57 (0, 0))) ∧ Aside0 (Below w.heap.size w wc))
     case first =>
      have H := HC6.out
      clear HC6
      by_cases c9 : t677 = true
      ·subst c9
       have H1 : (if t678 = true then (if ((rd_T57 l0 x3_1).f2.f0) < 0 then (ref08_May.j1 k1 l0 x3_1 true ((rd_T57 l0 x3_1).f0) ((rd_T57 l0 x3_1).f1) ((rd_T57 l0 x3_1).f2.f0) ((rd_T57 l0 x3_1).f2.f1)) else (if ((rd_T57 l0 x3_1).f2.f0) ≥ 8 then (ref08_May.j1 k1 l0 x3_1 true ((rd_T57 l0 x3_1).f0) ((rd_T57 l0 x3_1).f1) ((rd_T57 l0 x3_1).f2.f0) ((rd_T57 l0 x3_1).f2.f1)) else (ref08_May.j1 k1 l0 x3_1 (decide (((rd_T57 l0 x3_1).f2.f1) < 1)) ((rd_T57 l0 x3_1).f0) ((rd_T57 l0 x3_1).f1) ((rd_T57 l0 x3_1).f2.f0) ((rd_T57 l0 x3_1).f2.f1)))) else (ref08_May.j1 k1 l0 x3_1 true ((rd_T57 l0 x3_1).f0) ((rd_T57 l0 x3_1).f1) ((rd_T57 l0 x3_1).f2.f0) ((rd_T57 l0 x3_1).f2.f1))) = some r := by rw [if_pos rfl] at H; exact H
       clear H
       have H := H1
       clear H1
       by_cases c10 : t678 = true
       ·subst c10
        have H1 : (if ((rd_T57 l0 x3_1).f2.f0) < 0 then (ref08_May.j1 k1 l0 x3_1 true ((rd_T57 l0 x3_1).f0) ((rd_T57 l0 x3_1).f1) ((rd_T57 l0 x3_1).f2.f0) ((rd_T57 l0 x3_1).f2.f1)) else (if ((rd_T57 l0 x3_1).f2.f0) ≥ 8 then (ref08_May.j1 k1 l0 x3_1 true ((rd_T57 l0 x3_1).f0) ((rd_T57 l0 x3_1).f1) ((rd_T57 l0 x3_1).f2.f0) ((rd_T57 l0 x3_1).f2.f1)) else (ref08_May.j1 k1 l0 x3_1 (decide (((rd_T57 l0 x3_1).f2.f1) < 1)) ((rd_T57 l0 x3_1).f0) ((rd_T57 l0 x3_1).f1) ((rd_T57 l0 x3_1).f2.f0) ((rd_T57 l0 x3_1).f2.f1)))) = some r := by rw [if_pos rfl] at H; exact H
        clear H
        have H := H1
        clear H1
        by_cases c11 : ((rd_T57 l0 x3_1).f2.f0) < 0
        ·rw [if_pos c11] at H
         have c11b0 : decide (((rd_T57 l0 x3_1).f2.f0) < 0) = true := decide_eq_true c11
         clear c11
         (first | rw [c11b0] | (simp only [i64_w, i32_w]; rw [c11b0]) | skip)
         have H' := Aside0.mk H
         clear H
         have hcz12_0 : w7.cell? ⟨gb676, 0, none⟩ = some (.string (⟨#[]⟩ : ByteArray)) := (blk_cell BK676.out 0).trans rfl
         have hcz12_1 : w7.cell? ⟨gb676, 1, none⟩ = some (.string (⟨#[]⟩ : ByteArray)) := (blk_cell BK676.out 1).trans rfl
         have hcz12_2 : w7.cell? ⟨gb676, 2, none⟩ = some (.int .i64 0) := (blk_cell BK676.out 2).trans rfl
         have hcz12_3 : w7.cell? ⟨gb676, 3, none⟩ = some (.int .i64 0) := (blk_cell BK676.out 3).trans rfl
         have hfz12_0 := blk_frozen BK676.out 0
         have hfz12_1 := blk_frozen BK676.out 1
         have hfz12_2 := blk_frozen BK676.out 2
         have hfz12_3 := blk_frozen BK676.out 3
         go_wp2
         go_meet
         case rel => exact ⟨_, (true), (by first | rfl | (simp; done) | (simp [*]; done)), H', ⟨by have := HK1.out; first | omega | exact Nat.le_refl _⟩, ⟨by (with_reducible repeat (first | apply blN | apply blD | apply blA)); refine blk_put (cs := #[.string ((rd_T57 l0 x3_1).f0), .string ((rd_T57 l0 x3_1).f1), .int .i64 ((rd_T57 l0 x3_1).f2.f0), .int .i64 0]) ?_ 3 _ rfl; (with_reducible repeat (first | apply blN | apply blD | apply blA)); refine blk_put (cs := #[.string ((rd_T57 l0 x3_1).f0), .string ((rd_T57 l0 x3_1).f1), .int .i64 0, .int .i64 0]) ?_ 2 _ rfl; (with_reducible repeat (first | apply blN | apply blD | apply blA)); refine blk_put (cs := #[.string ((rd_T57 l0 x3_1).f0), .string (⟨#[]⟩ : ByteArray), .int .i64 0, .int .i64 0]) ?_ 1 _ rfl; (with_reducible repeat (first | apply blN | apply blD | apply blA)); refine blk_put (cs := #[.string (⟨#[]⟩ : ByteArray), .string (⟨#[]⟩ : ByteArray), .int .i64 0, .int .i64 0]) ?_ 0 _ rfl; (with_reducible repeat (first | apply blN | apply blD | apply blA)); exact BK676.out⟩, ⟨by repeat (first | (with_reducible first | exact HB.out | apply below_alloc | apply pw_below_drewN | apply below_drew1 | refine below_set ?_ GE676.out) | exact HB.out)⟩⟩
        ·rw [if_neg c11] at H
         have c11b0 : decide (((rd_T57 l0 x3_1).f2.f0) < 0) = false := decide_eq_false c11
         clear c11
         (first | rw [c11b0] | (simp only [i64_w, i32_w]; rw [c11b0]) | skip)
         by_cases c13 : ((rd_T57 l0 x3_1).f2.f0) ≥ 8
         ·rw [if_pos c13] at H
          have c13b0 : decide (8 ≤ ((rd_T57 l0 x3_1).f2.f0)) = true := decide_eq_true c13
          clear c13
          have H' := Aside0.mk H
          clear H
          have hcz14_0 : w7.cell? ⟨gb676, 0, none⟩ = some (.string (⟨#[]⟩ : ByteArray)) := (blk_cell BK676.out 0).trans rfl
          have hcz14_1 : w7.cell? ⟨gb676, 1, none⟩ = some (.string (⟨#[]⟩ : ByteArray)) := (blk_cell BK676.out 1).trans rfl
          have hcz14_2 : w7.cell? ⟨gb676, 2, none⟩ = some (.int .i64 0) := (blk_cell BK676.out 2).trans rfl
          have hcz14_3 : w7.cell? ⟨gb676, 3, none⟩ = some (.int .i64 0) := (blk_cell BK676.out 3).trans rfl
          have hfz14_0 := blk_frozen BK676.out 0
          have hfz14_1 := blk_frozen BK676.out 1
          have hfz14_2 := blk_frozen BK676.out 2
          have hfz14_3 := blk_frozen BK676.out 3
          go_wp2
          go_meet
          case rel => exact ⟨_, (true), (by first | rfl | (simp; done) | (simp [*]; done)), H', ⟨by have := HK1.out; first | omega | exact Nat.le_refl _⟩, ⟨by (with_reducible repeat (first | apply blN | apply blD | apply blA)); refine blk_put (cs := #[.string ((rd_T57 l0 x3_1).f0), .string ((rd_T57 l0 x3_1).f1), .int .i64 ((rd_T57 l0 x3_1).f2.f0), .int .i64 0]) ?_ 3 _ rfl; (with_reducible repeat (first | apply blN | apply blD | apply blA)); refine blk_put (cs := #[.string ((rd_T57 l0 x3_1).f0), .string ((rd_T57 l0 x3_1).f1), .int .i64 0, .int .i64 0]) ?_ 2 _ rfl; (with_reducible repeat (first | apply blN | apply blD | apply blA)); refine blk_put (cs := #[.string ((rd_T57 l0 x3_1).f0), .string (⟨#[]⟩ : ByteArray), .int .i64 0, .int .i64 0]) ?_ 1 _ rfl; (with_reducible repeat (first | apply blN | apply blD | apply blA)); refine blk_put (cs := #[.string (⟨#[]⟩ : ByteArray), .string (⟨#[]⟩ : ByteArray), .int .i64 0, .int .i64 0]) ?_ 0 _ rfl; (with_reducible repeat (first | apply blN | apply blD | apply blA)); exact BK676.out⟩, ⟨by repeat (first | (with_reducible first | exact HB.out | apply below_alloc | apply pw_below_drewN | apply below_drew1 | refine below_set ?_ GE676.out) | exact HB.out)⟩⟩
         ·rw [if_neg c13] at H
          have c13b0 : decide (8 ≤ ((rd_T57 l0 x3_1).f2.f0)) = false := decide_eq_false c13
          clear c13
          have H' := Aside0.mk H
          clear H
          have hcz15_0 : w7.cell? ⟨gb676, 0, none⟩ = some (.string (⟨#[]⟩ : ByteArray)) := (blk_cell BK676.out 0).trans rfl
          have hcz15_1 : w7.cell? ⟨gb676, 1, none⟩ = some (.string (⟨#[]⟩ : ByteArray)) := (blk_cell BK676.out 1).trans rfl
          have hcz15_2 : w7.cell? ⟨gb676, 2, none⟩ = some (.int .i64 0) := (blk_cell BK676.out 2).trans rfl
          have hcz15_3 : w7.cell? ⟨gb676, 3, none⟩ = some (.int .i64 0) := (blk_cell BK676.out 3).trans rfl
          have hfz15_0 := blk_frozen BK676.out 0
          have hfz15_1 := blk_frozen BK676.out 1
          have hfz15_2 := blk_frozen BK676.out 2
          have hfz15_3 := blk_frozen BK676.out 3
          go_wp2
          go_meet
          case rel => exact ⟨_, (decide (((rd_T57 l0 x3_1).f2.f1) < 1)), (by first | rfl | (simp; done) | (simp [*]; done)), H', ⟨by have := HK1.out; first | omega | exact Nat.le_refl _⟩, ⟨by (with_reducible repeat (first | apply blN | apply blD | apply blA)); refine blk_put (cs := #[.string ((rd_T57 l0 x3_1).f0), .string ((rd_T57 l0 x3_1).f1), .int .i64 ((rd_T57 l0 x3_1).f2.f0), .int .i64 0]) ?_ 3 _ rfl; (with_reducible repeat (first | apply blN | apply blD | apply blA)); refine blk_put (cs := #[.string ((rd_T57 l0 x3_1).f0), .string ((rd_T57 l0 x3_1).f1), .int .i64 0, .int .i64 0]) ?_ 2 _ rfl; (with_reducible repeat (first | apply blN | apply blD | apply blA)); refine blk_put (cs := #[.string ((rd_T57 l0 x3_1).f0), .string (⟨#[]⟩ : ByteArray), .int .i64 0, .int .i64 0]) ?_ 1 _ rfl; (with_reducible repeat (first | apply blN | apply blD | apply blA)); refine blk_put (cs := #[.string (⟨#[]⟩ : ByteArray), .string (⟨#[]⟩ : ByteArray), .int .i64 0, .int .i64 0]) ?_ 0 _ rfl; (with_reducible repeat (first | apply blN | apply blD | apply blA)); exact BK676.out⟩, ⟨by repeat (first | (with_reducible first | exact HB.out | apply below_alloc | apply pw_below_drewN | apply below_drew1 | refine below_set ?_ GE676.out) | exact HB.out)⟩⟩
       ·replace c10 := Bool.eq_false_iff.mpr c10
        subst c10
        have H1 : (ref08_May.j1 k1 l0 x3_1 true ((rd_T57 l0 x3_1).f0) ((rd_T57 l0 x3_1).f1) ((rd_T57 l0 x3_1).f2.f0) ((rd_T57 l0 x3_1).f2.f1)) = some r := by rw [if_neg (show ¬ (false = true) by decide)] at H; exact H
        clear H
        have H := H1
        clear H1
        have H' := Aside0.mk H
        clear H
        go_wp2
        go_meet
        case rel => exact ⟨_, (true), (by first | rfl | (simp; done) | (simp [*]; done)), H', ⟨by have := HK1.out; first | omega | exact Nat.le_refl _⟩, ⟨by (with_reducible repeat (first | apply blN | apply blD | apply blA)); refine blk_put (cs := #[.string ((rd_T57 l0 x3_1).f0), .string ((rd_T57 l0 x3_1).f1), .int .i64 ((rd_T57 l0 x3_1).f2.f0), .int .i64 0]) ?_ 3 _ rfl; (with_reducible repeat (first | apply blN | apply blD | apply blA)); refine blk_put (cs := #[.string ((rd_T57 l0 x3_1).f0), .string ((rd_T57 l0 x3_1).f1), .int .i64 0, .int .i64 0]) ?_ 2 _ rfl; (with_reducible repeat (first | apply blN | apply blD | apply blA)); refine blk_put (cs := #[.string ((rd_T57 l0 x3_1).f0), .string (⟨#[]⟩ : ByteArray), .int .i64 0, .int .i64 0]) ?_ 1 _ rfl; (with_reducible repeat (first | apply blN | apply blD | apply blA)); refine blk_put (cs := #[.string (⟨#[]⟩ : ByteArray), .string (⟨#[]⟩ : ByteArray), .int .i64 0, .int .i64 0]) ?_ 0 _ rfl; (with_reducible repeat (first | apply blN | apply blD | apply blA)); exact BK676.out⟩, ⟨by repeat (first | (with_reducible first | exact HB.out | apply below_alloc | apply pw_below_drewN | apply below_drew1 | refine below_set ?_ GE676.out) | exact HB.out)⟩⟩
      ·replace c9 := Bool.eq_false_iff.mpr c9
       subst c9
       have H1 : (ref08_May.j1 k1 l0 x3_1 true ((rd_T57 l0 x3_1).f0) ((rd_T57 l0 x3_1).f1) ((rd_T57 l0 x3_1).f2.f0) ((rd_T57 l0 x3_1).f2.f1)) = some r := by rw [if_neg (show ¬ (false = true) by decide)] at H; exact H
       clear H
       have H := H1
       clear H1
       have H' := Aside0.mk H
       clear H
       go_wp2
       go_meet
       case rel => exact ⟨_, (true), (by first | rfl | (simp; done) | (simp [*]; done)), H', ⟨by have := HK1.out; first | omega | exact Nat.le_refl _⟩, ⟨by (with_reducible repeat (first | apply blN | apply blD | apply blA)); refine blk_put (cs := #[.string ((rd_T57 l0 x3_1).f0), .string ((rd_T57 l0 x3_1).f1), .int .i64 ((rd_T57 l0 x3_1).f2.f0), .int .i64 0]) ?_ 3 _ rfl; (with_reducible repeat (first | apply blN | apply blD | apply blA)); refine blk_put (cs := #[.string ((rd_T57 l0 x3_1).f0), .string ((rd_T57 l0 x3_1).f1), .int .i64 0, .int .i64 0]) ?_ 2 _ rfl; (with_reducible repeat (first | apply blN | apply blD | apply blA)); refine blk_put (cs := #[.string ((rd_T57 l0 x3_1).f0), .string (⟨#[]⟩ : ByteArray), .int .i64 0, .int .i64 0]) ?_ 1 _ rfl; (with_reducible repeat (first | apply blN | apply blD | apply blA)); refine blk_put (cs := #[.string (⟨#[]⟩ : ByteArray), .string (⟨#[]⟩ : ByteArray), .int .i64 0, .int .i64 0]) ?_ 0 _ rfl; (with_reducible repeat (first | apply blN | apply blD | apply blA)); exact BK676.out⟩, ⟨by repeat (first | (with_reducible first | exact HB.out | apply below_alloc | apply pw_below_drewN | apply below_drew1 | refine below_set ?_ GE676.out) | exact HB.out)⟩⟩
     case rest =>
      clear HC6
      try clear c1
      try clear c2
      try clear c2b0
      try clear p2
      try clear c3
      try clear c3b0
      try clear c4
      try clear p6
      try clear q6
      try clear hx6
      try clear c9
      try clear c10
      try clear c11
      try clear c11b0
      try clear c13
      try clear c13b0
      try clear hcz12_0
      try clear hcz12_1
      try clear hcz12_2
      try clear hcz12_3
      try clear hcz14_0
      try clear hcz14_1
      try clear hcz14_2
      try clear hcz14_3
      try clear hcz15_0
      try clear hcz15_1
      try clear hcz15_2
      try clear hcz15_3
      try clear hcz8_0
      try clear hcz8_1
      try clear hcz8_2
      try clear hcz8_3
      try clear hfz12_0
      try clear hfz12_1
      try clear hfz12_2
      try clear hfz12_3
      try clear hfz14_0
      try clear hfz14_1
      try clear hfz14_2
      try clear hfz14_3
      try clear hfz15_0
      try clear hfz15_1
      try clear hfz15_2
      try clear hfz15_3
      try clear hfz8_0
      try clear hfz8_1
      try clear hfz8_2
      try clear hfz8_3
      try clear hx675_0
      try clear hx675_1
      try clear hx675_2
      try clear hx675_3
      try clear p675
      try clear q675
      obtain ⟨kq, x47_5, rfl, HA, HJ5, BK676, HB⟩ := hcut
      cases kq with
      | zero => exact absurd HA.out (by simp [ref08_May.j1])
      | succ kj5 =>
       have H := HA.out
       clear HA
       simp only [ref08_May.j1] at H
       by_cases c16 : x47_5 = true
       ·subst c16
        have H1 : (some false) = some r := by rw [if_pos rfl] at H; exact H
        clear H
        have H := H1
        clear H1
        obtain rfl := Option.some.inj H
        go_wp2
        go_ret
        exact ⟨by first | rfl | (simp [errW_none, errW_some] <;> rfl) | (simp [*, errW_none, errW_some] <;> rfl), by repeat (first | (with_reducible first | exact HB.out | apply below_alloc | apply pw_below_drewN | apply below_drew1 | refine below_set ?_ GE676.out) | exact HB.out)⟩
       ·replace c16 := Bool.eq_false_iff.mpr c16
        subst c16
        have H1 : (if x3_1 > 0 then (if 0 ≤ (wrap64 (x3_1 - 1)) then (if (wrap64 (x3_1 - 1)) < (l0.length : Int) then ((ref08_Less.f ((rd_T57 l0 (wrap64 (x3_1 - 1))).f0) ((rd_T57 l0 (wrap64 (x3_1 - 1))).f1) ((rd_T57 l0 (wrap64 (x3_1 - 1))).f2.f0) ((rd_T57 l0 (wrap64 (x3_1 - 1))).f2.f1) ((rd_T57 l0 x3_1).f0) ((rd_T57 l0 x3_1).f1) ((rd_T57 l0 x3_1).f2.f0) ((rd_T57 l0 x3_1).f2.f1)).bind fun t680 => (if t680 = true then (ref08_May.l0 kj5 l0 (wrap64 (x3_1 + 1))) else (some false))) else (none)) else (none)) else (ref08_May.l0 kj5 l0 (wrap64 (x3_1 + 1)))) = some r := by rw [if_neg (show ¬ (false = true) by decide)] at H; exact H
        clear H
        have H := H1
        clear H1
        by_cases c17 : x3_1 > 0
        ·rw [if_pos c17] at H
         have c17b0 : decide (0 < x3_1) = true := decide_eq_true c17
         clear c17
         obtain ⟨ji18, hji18⟩ : ∃ j_ : Int, (wrap64 (x3_1 - 1)) = j_ := ⟨_, rfl⟩
         replace H : (if 0 ≤ (ji18) then (if (ji18) < (l0.length : Int) then ((ref08_Less.f ((rd_T57 l0 (ji18)).f0) ((rd_T57 l0 (ji18)).f1) ((rd_T57 l0 (ji18)).f2.f0) ((rd_T57 l0 (ji18)).f2.f1) ((rd_T57 l0 x3_1).f0) ((rd_T57 l0 x3_1).f1) ((rd_T57 l0 x3_1).f2.f0) ((rd_T57 l0 x3_1).f2.f1)).bind fun t680 => (if t680 = true then (ref08_May.l0 kj5 l0 (wrap64 (x3_1 + 1))) else (some false))) else (none)) else (none)) = some r := by first | (rw [hji18] at H; exact H) | (simp only [hji18] at H ⊢; exact H)
         have hji18w : (IntKind.i64.wrap (x3_1 - 1)) = ji18 := (i64_w _).trans hji18
         by_cases c19 : 0 ≤ (ji18)
         ·rw [if_pos c19] at H
          have c19b0 : decide (0 ≤ (ji18)) = true := decide_eq_true c19
          clear c19
          by_cases c20 : (ji18) < (l0.length : Int)
          ·rw [if_pos c20] at H
           have c20b0 : decide ((ji18) < (l0.length : Int)) = true := decide_eq_true c20
           clear c20
           replace H := Option.bind_eq_some_iff.mp H
           obtain ⟨t680, A210, H⟩ := H
           replace H : (if t680 = true then (ref08_May.l0 kj5 l0 (wrap64 (x3_1 + 1))) else (some false)) = some r := H
           have A21 := Aside0.mk A210
           clear A210
           by_cases c22 : t680 = true
           ·subst c22
            have H1 : (ref08_May.l0 kj5 l0 (wrap64 (x3_1 + 1))) = some r := by rw [if_pos rfl] at H; exact H
            clear H
            have H := H1
            clear H1
            have H' := Aside0.mk H
            clear H
            try go_wp2
            have n0_ := Aside0.mk (blk_drew BK676.out)
            have n1_ := Aside0.mk (below_drew1 HB.out)
            clear BK676
            clear HB
            have BK676 := n0_
            have HB := n1_
            clear n0_ n1_
            have p679 : 0 ≤ ((ji18) : Int) := of_decide_eq_true (by first | (with_reducible assumption) | assumption)
            have q679 : (ji18) < (l0.length : Int) := of_decide_eq_true (by first | (with_reducible assumption) | assumption)
            obtain ⟨ad679, e679, hx679_0, hx679_1, hx679_2, hx679_3⟩ := at_T57 HR0.out (ji18) p679 q679
            have hw679_3 := hx679_3
            have hw679_2 := hx679_2
            have hw679_1 := hx679_1
            have hw679_0 := hx679_0
            obtain rfl : ad675 = ad679 := (by injection e679)
            replace hx679_0 := (HB.out.cell (World.block_lt_of_cell? w _ hx679_0)).trans hx679_0
            replace hx679_1 := (HB.out.cell (World.block_lt_of_cell? w _ hx679_1)).trans hx679_1
            replace hx679_2 := (HB.out.cell (World.block_lt_of_cell? w _ hx679_2)).trans hx679_2
            replace hx679_3 := (HB.out.cell (World.block_lt_of_cell? w _ hx679_3)).trans hx679_3
            replace p679 := eq_true p679
            replace q679 := eq_true q679
            refine start_ (n := 8) (S := fun w' => w'.cell? ⟨gb676, 0, none⟩ = some (.string ((rd_T57 l0 x3_1).f0)) ∧ w'.cell? ⟨gb676, 1, none⟩ = some (.string ((rd_T57 l0 x3_1).f1)) ∧ w'.cell? ⟨gb676, 2, none⟩ = some (.int .i64 ((rd_T57 l0 x3_1).f2.f0)) ∧ w'.cell? ⟨gb676, 3, none⟩ = some (.int .i64 ((rd_T57 l0 x3_1).f2.f1)) ∧ w'.cell? (ad675.add (((ji18)).toNat * 4)) = some (.string ((rd_T57 l0 (ji18)).f0)) ∧ w'.cell? ⟨(ad675.add (((ji18)).toNat * 4)).block, (ad675.add (((ji18)).toNat * 4)).off + 1, none⟩ = some (.string ((rd_T57 l0 (ji18)).f1)) ∧ w'.cell? ⟨(ad675.add (((ji18)).toNat * 4)).block, (ad675.add (((ji18)).toNat * 4)).off + 2, none⟩ = some (.int .i64 ((rd_T57 l0 (ji18)).f2.f0)) ∧ w'.cell? ⟨(ad675.add (((ji18)).toNat * 4)).block, (ad675.add (((ji18)).toNat * 4)).off + 3, none⟩ = some (.int .i64 ((rd_T57 l0 (ji18)).f2.f1))) (ds := []) #[O,O,O,O,O,O,O,O] (by kernel_rfl) rfl rfl ⟨(blk_cell BK676.out 0).trans rfl, (blk_cell BK676.out 1).trans rfl, (blk_cell BK676.out 2).trans rfl, (blk_cell BK676.out 3).trans rfl, ((HB.out.cell (World.block_lt_of_cell? w _ hw679_0)).trans hw679_0), ((HB.out.cell (World.block_lt_of_cell? w _ hw679_1)).trans hw679_1), ((HB.out.cell (World.block_lt_of_cell? w _ hw679_2)).trans hw679_2), ((HB.out.cell (World.block_lt_of_cell? w _ hw679_3)).trans hw679_3)⟩ (fun hHeld => ?_); refine with_tabW ref08_May.tab10 ref08_May.bits10 (fun HT_ HW_ => ?_)
            generalize wc.drew = w23 at BK676 HB hx679_0 hx679_1 hx679_2 hx679_3 hHeld ⊢
            refine sqP (i := 0) (N := some 50) (v := ?_) (a' := ?_) #[I,O,O,O,O,O,O,O] rfl rfl HT_.out (Or.inl ⟨by rfl, ?_⟩) ?_ ?_
            rotate_left
            ·intro w'
             go_simp
             with_reducible rfl
            rotate_left
            ·simp only [Act.put, sqA, sqB, sqC, i64_w, i32_w]
             rfl
            refine sqP (i := 1) (N := some 51) (v := ?_) (a' := ?_) #[I,I,O,O,O,O,O,O] rfl rfl HT_.out (Or.inl ⟨by rfl, ?_⟩) ?_ ?_
            rotate_left
            ·intro w'
             go_simp
             with_reducible rfl
            rotate_left
            ·simp only [Act.put, sqA, sqB, sqC, i64_w, i32_w]
             rfl
            refine sqP (i := 2) (N := some 52) (v := ?_) (a' := ?_) #[I,I,I,O,O,O,O,O] rfl rfl HT_.out (Or.inl ⟨by rfl, ?_⟩) ?_ ?_
            rotate_left
            ·intro w'
             go_simp
             with_reducible rfl
            rotate_left
            ·simp only [Act.put, sqA, sqB, sqC, i64_w, i32_w]
             rfl
            refine sqP (i := 3) (N := some 53) (v := ?_) (a' := ?_) #[I,I,I,I,O,O,O,O] rfl rfl HT_.out (Or.inl ⟨by rfl, ?_⟩) ?_ ?_
            rotate_left
            ·intro w'
             go_simp
             with_reducible rfl
            rotate_left
            ·simp only [Act.put, sqA, sqB, sqC, i64_w, i32_w]
             rfl
            refine take_ (i := 4) (N := some 54) (v := ?_) (a' := ?_) #[I,I,I,I,I,O,O,O] rfl rfl (take_ofW HT_.out HW_.out (by kernel_rfl)) (fun _ _ _ h => h) (Or.inl ⟨by rfl, ?_⟩) hHeld ?_ ?_
            rotate_left
            ·rintro w' ⟨s0, s1, s2, s3, s4, s5, s6, s7⟩
             go_simp
             with_reducible rfl
            rotate_left
            ·simp only [Act.put, sqA, sqB, sqC, i64_w, i32_w]
             rfl
            refine take_ (i := 5) (N := some 55) (v := ?_) (a' := ?_) #[I,I,I,I,I,I,O,O] rfl rfl (take_ofW HT_.out HW_.out (by kernel_rfl)) (fun _ _ _ h => h) (Or.inl ⟨by rfl, ?_⟩) hHeld ?_ ?_
            rotate_left
            ·rintro w' ⟨s0, s1, s2, s3, s4, s5, s6, s7⟩
             go_simp
             with_reducible rfl
            rotate_left
            ·simp only [Act.put, sqA, sqB, sqC, i64_w, i32_w]
             rfl
            refine one_ (i := 6) (N := some 56) #[I,I,I,I,I,I,I,O] rfl rfl (one_of HT_.out (by kernel_rfl)) (by decide) (fun K hK => ?_)
            refine goes_ Try.func58 (by kernel_rfl) rfl #[.agg #[.string ((rd_T57 l0 (ji18)).f0), .string ((rd_T57 l0 (ji18)).f1), .int .i64 ((rd_T57 l0 (ji18)).f2.f0), .int .i64 ((rd_T57 l0 (ji18)).f2.f1)], .agg #[.string ((rd_T57 l0 x3_1).f0), .string ((rd_T57 l0 x3_1).f1), .int .i64 ((rd_T57 l0 x3_1).f2.f0), .int .i64 ((rd_T57 l0 x3_1).f2.f1)]] (by rfl) rfl rfl (by (try simp only [List.map_toArray, List.map_cons, List.map_nil]); first | done | (simp only [hji18]; rfl) | rfl | (simp only [List.length_drop, List.length_take]; rfl)) ?_
            with_reducible refine (ref08_Less.calls ((rd_T57 l0 (ji18)).f0) ((rd_T57 l0 (ji18)).f1) ((rd_T57 l0 (ji18)).f2.f0) ((rd_T57 l0 (ji18)).f2.f1) ((rd_T57 l0 x3_1).f0) ((rd_T57 l0 x3_1).f1) ((rd_T57 l0 x3_1).f2.f0) ((rd_T57 l0 x3_1).f2.f1) true _ A21.out).mono ?_
            rintro e w24 ⟨rfl, hb⟩
            refine ⟨_, rfl, ?_⟩
            have n0_ := Aside0.mk (blk_below (g := gb676) (o := .cells #[.string ((rd_T57 l0 x3_1).f0), .string ((rd_T57 l0 x3_1).f1), .int .i64 ((rd_T57 l0 x3_1).f2.f0), .int .i64 ((rd_T57 l0 x3_1).f2.f1)] 57 (0, 0)) (by (with_reducible repeat (first | apply blN | apply blD | apply blA)); exact BK676.out) hb)
            have n1_ := Aside0.mk (below_step (by repeat (first | (with_reducible first | exact HB.out | apply below_alloc | apply pw_below_drewN | apply below_drew1 | refine below_set ?_ GE676.out) | exact HB.out)) hb)
            clear BK676
            clear HB
            have BK676 := n0_
            have HB := n1_
            clear n0_ n1_
            (try clear hb)
            (try clear hb2)
            (try clear hk)
            (try clear hi)
            refine hK.out _ _ ⟨(blk_cell BK676.out 0).trans rfl, (blk_cell BK676.out 1).trans rfl, (blk_cell BK676.out 2).trans rfl, (blk_cell BK676.out 3).trans rfl, ((HB.out.cell (World.block_lt_of_cell? w _ hw679_0)).trans hw679_0), ((HB.out.cell (World.block_lt_of_cell? w _ hw679_1)).trans hw679_1), ((HB.out.cell (World.block_lt_of_cell? w _ hw679_2)).trans hw679_2), ((HB.out.cell (World.block_lt_of_cell? w _ hw679_3)).trans hw679_3)⟩ (fun hHeld => ?_)
            clear hK K
            refine norm_ (a' := ?_) ?_ ?_
            rotate_left
            ·show Act.put _ (some 56) _ = _
             simp only [Act.put, sqA, sqB, sqC, i64_w, i32_w]
             rfl
            refine sqP (i := 7) (N := some 7) (v := ?_) (a' := ?_) #[I,I,I,I,I,I,I,I] rfl rfl HT_.out (Or.inl ⟨by rfl, ?_⟩) ?_ ?_
            rotate_left
            ·intro w'
             go_simp
             with_reducible rfl
            rotate_left
            ·simp only [Act.put, sqA, sqB, sqC, i64_w, i32_w]
             rfl
            refine done_ (done_of HT_.out (by kernel_rfl)) ?_
            try go_wp2
            go_roundg kj5
            case measure => have := HK1.out; have := HJ5.out; omega
            case rel => exact ⟨(wrap64 (x3_1 + 1)), (by first | rfl | (simp; done) | (simp [*]; done)), H', ⟨by have := HK1.out; have := HJ5.out; omega⟩, ⟨by repeat (first | (with_reducible first | exact HB.out | apply below_alloc | apply pw_below_drewN | apply below_drew1 | refine below_set ?_ GE676.out) | exact HB.out)⟩⟩
           ·replace c22 := Bool.eq_false_iff.mpr c22
            subst c22
            have H1 : (some false) = some r := by rw [if_neg (show ¬ (false = true) by decide)] at H; exact H
            clear H
            have H := H1
            clear H1
            obtain rfl := Option.some.inj H
            try go_wp2
            have n0_ := Aside0.mk (blk_drew BK676.out)
            have n1_ := Aside0.mk (below_drew1 HB.out)
            clear BK676
            clear HB
            have BK676 := n0_
            have HB := n1_
            clear n0_ n1_
            have p679 : 0 ≤ ((ji18) : Int) := of_decide_eq_true (by first | (with_reducible assumption) | assumption)
            have q679 : (ji18) < (l0.length : Int) := of_decide_eq_true (by first | (with_reducible assumption) | assumption)
            obtain ⟨ad679, e679, hx679_0, hx679_1, hx679_2, hx679_3⟩ := at_T57 HR0.out (ji18) p679 q679
            have hw679_3 := hx679_3
            have hw679_2 := hx679_2
            have hw679_1 := hx679_1
            have hw679_0 := hx679_0
            obtain rfl : ad675 = ad679 := (by injection e679)
            replace hx679_0 := (HB.out.cell (World.block_lt_of_cell? w _ hx679_0)).trans hx679_0
            replace hx679_1 := (HB.out.cell (World.block_lt_of_cell? w _ hx679_1)).trans hx679_1
            replace hx679_2 := (HB.out.cell (World.block_lt_of_cell? w _ hx679_2)).trans hx679_2
            replace hx679_3 := (HB.out.cell (World.block_lt_of_cell? w _ hx679_3)).trans hx679_3
            replace p679 := eq_true p679
            replace q679 := eq_true q679
            refine start_ (n := 8) (S := fun w' => w'.cell? ⟨gb676, 0, none⟩ = some (.string ((rd_T57 l0 x3_1).f0)) ∧ w'.cell? ⟨gb676, 1, none⟩ = some (.string ((rd_T57 l0 x3_1).f1)) ∧ w'.cell? ⟨gb676, 2, none⟩ = some (.int .i64 ((rd_T57 l0 x3_1).f2.f0)) ∧ w'.cell? ⟨gb676, 3, none⟩ = some (.int .i64 ((rd_T57 l0 x3_1).f2.f1)) ∧ w'.cell? (ad675.add (((ji18)).toNat * 4)) = some (.string ((rd_T57 l0 (ji18)).f0)) ∧ w'.cell? ⟨(ad675.add (((ji18)).toNat * 4)).block, (ad675.add (((ji18)).toNat * 4)).off + 1, none⟩ = some (.string ((rd_T57 l0 (ji18)).f1)) ∧ w'.cell? ⟨(ad675.add (((ji18)).toNat * 4)).block, (ad675.add (((ji18)).toNat * 4)).off + 2, none⟩ = some (.int .i64 ((rd_T57 l0 (ji18)).f2.f0)) ∧ w'.cell? ⟨(ad675.add (((ji18)).toNat * 4)).block, (ad675.add (((ji18)).toNat * 4)).off + 3, none⟩ = some (.int .i64 ((rd_T57 l0 (ji18)).f2.f1))) (ds := []) #[O,O,O,O,O,O,O,O] (by kernel_rfl) rfl rfl ⟨(blk_cell BK676.out 0).trans rfl, (blk_cell BK676.out 1).trans rfl, (blk_cell BK676.out 2).trans rfl, (blk_cell BK676.out 3).trans rfl, ((HB.out.cell (World.block_lt_of_cell? w _ hw679_0)).trans hw679_0), ((HB.out.cell (World.block_lt_of_cell? w _ hw679_1)).trans hw679_1), ((HB.out.cell (World.block_lt_of_cell? w _ hw679_2)).trans hw679_2), ((HB.out.cell (World.block_lt_of_cell? w _ hw679_3)).trans hw679_3)⟩ (fun hHeld => ?_); refine with_tabW ref08_May.tab10 ref08_May.bits10 (fun HT_ HW_ => ?_)
            generalize wc.drew = w25 at BK676 HB hx679_0 hx679_1 hx679_2 hx679_3 hHeld ⊢
            refine sqP (i := 0) (N := some 50) (v := ?_) (a' := ?_) #[I,O,O,O,O,O,O,O] rfl rfl HT_.out (Or.inl ⟨by rfl, ?_⟩) ?_ ?_
            rotate_left
            ·intro w'
             go_simp
             with_reducible rfl
            rotate_left
            ·simp only [Act.put, sqA, sqB, sqC, i64_w, i32_w]
             rfl
            refine sqP (i := 1) (N := some 51) (v := ?_) (a' := ?_) #[I,I,O,O,O,O,O,O] rfl rfl HT_.out (Or.inl ⟨by rfl, ?_⟩) ?_ ?_
            rotate_left
            ·intro w'
             go_simp
             with_reducible rfl
            rotate_left
            ·simp only [Act.put, sqA, sqB, sqC, i64_w, i32_w]
             rfl
            refine sqP (i := 2) (N := some 52) (v := ?_) (a' := ?_) #[I,I,I,O,O,O,O,O] rfl rfl HT_.out (Or.inl ⟨by rfl, ?_⟩) ?_ ?_
            rotate_left
            ·intro w'
             go_simp
             with_reducible rfl
            rotate_left
            ·simp only [Act.put, sqA, sqB, sqC, i64_w, i32_w]
             rfl
            refine sqP (i := 3) (N := some 53) (v := ?_) (a' := ?_) #[I,I,I,I,O,O,O,O] rfl rfl HT_.out (Or.inl ⟨by rfl, ?_⟩) ?_ ?_
            rotate_left
            ·intro w'
             go_simp
             with_reducible rfl
            rotate_left
            ·simp only [Act.put, sqA, sqB, sqC, i64_w, i32_w]
             rfl
            refine take_ (i := 4) (N := some 54) (v := ?_) (a' := ?_) #[I,I,I,I,I,O,O,O] rfl rfl (take_ofW HT_.out HW_.out (by kernel_rfl)) (fun _ _ _ h => h) (Or.inl ⟨by rfl, ?_⟩) hHeld ?_ ?_
            rotate_left
            ·rintro w' ⟨s0, s1, s2, s3, s4, s5, s6, s7⟩
             go_simp
             with_reducible rfl
            rotate_left
            ·simp only [Act.put, sqA, sqB, sqC, i64_w, i32_w]
             rfl
            refine take_ (i := 5) (N := some 55) (v := ?_) (a' := ?_) #[I,I,I,I,I,I,O,O] rfl rfl (take_ofW HT_.out HW_.out (by kernel_rfl)) (fun _ _ _ h => h) (Or.inl ⟨by rfl, ?_⟩) hHeld ?_ ?_
            rotate_left
            ·rintro w' ⟨s0, s1, s2, s3, s4, s5, s6, s7⟩
             go_simp
             with_reducible rfl
            rotate_left
            ·simp only [Act.put, sqA, sqB, sqC, i64_w, i32_w]
             rfl
            refine one_ (i := 6) (N := some 56) #[I,I,I,I,I,I,I,O] rfl rfl (one_of HT_.out (by kernel_rfl)) (by decide) (fun K hK => ?_)
            refine goes_ Try.func58 (by kernel_rfl) rfl #[.agg #[.string ((rd_T57 l0 (ji18)).f0), .string ((rd_T57 l0 (ji18)).f1), .int .i64 ((rd_T57 l0 (ji18)).f2.f0), .int .i64 ((rd_T57 l0 (ji18)).f2.f1)], .agg #[.string ((rd_T57 l0 x3_1).f0), .string ((rd_T57 l0 x3_1).f1), .int .i64 ((rd_T57 l0 x3_1).f2.f0), .int .i64 ((rd_T57 l0 x3_1).f2.f1)]] (by rfl) rfl rfl (by (try simp only [List.map_toArray, List.map_cons, List.map_nil]); first | done | (simp only [hji18]; rfl) | rfl | (simp only [List.length_drop, List.length_take]; rfl)) ?_
            with_reducible refine (ref08_Less.calls ((rd_T57 l0 (ji18)).f0) ((rd_T57 l0 (ji18)).f1) ((rd_T57 l0 (ji18)).f2.f0) ((rd_T57 l0 (ji18)).f2.f1) ((rd_T57 l0 x3_1).f0) ((rd_T57 l0 x3_1).f1) ((rd_T57 l0 x3_1).f2.f0) ((rd_T57 l0 x3_1).f2.f1) false _ A21.out).mono ?_
            rintro e w26 ⟨rfl, hb⟩
            refine ⟨_, rfl, ?_⟩
            have n0_ := Aside0.mk (blk_below (g := gb676) (o := .cells #[.string ((rd_T57 l0 x3_1).f0), .string ((rd_T57 l0 x3_1).f1), .int .i64 ((rd_T57 l0 x3_1).f2.f0), .int .i64 ((rd_T57 l0 x3_1).f2.f1)] 57 (0, 0)) (by (with_reducible repeat (first | apply blN | apply blD | apply blA)); exact BK676.out) hb)
            have n1_ := Aside0.mk (below_step (by repeat (first | (with_reducible first | exact HB.out | apply below_alloc | apply pw_below_drewN | apply below_drew1 | refine below_set ?_ GE676.out) | exact HB.out)) hb)
            clear BK676
            clear HB
            have BK676 := n0_
            have HB := n1_
            clear n0_ n1_
            (try clear hb)
            (try clear hb2)
            (try clear hk)
            (try clear hi)
            refine hK.out _ _ ⟨(blk_cell BK676.out 0).trans rfl, (blk_cell BK676.out 1).trans rfl, (blk_cell BK676.out 2).trans rfl, (blk_cell BK676.out 3).trans rfl, ((HB.out.cell (World.block_lt_of_cell? w _ hw679_0)).trans hw679_0), ((HB.out.cell (World.block_lt_of_cell? w _ hw679_1)).trans hw679_1), ((HB.out.cell (World.block_lt_of_cell? w _ hw679_2)).trans hw679_2), ((HB.out.cell (World.block_lt_of_cell? w _ hw679_3)).trans hw679_3)⟩ (fun hHeld => ?_)
            clear hK K
            refine norm_ (a' := ?_) ?_ ?_
            rotate_left
            ·show Act.put _ (some 56) _ = _
             simp only [Act.put, sqA, sqB, sqC, i64_w, i32_w]
             rfl
            refine sqP (i := 7) (N := some 7) (v := ?_) (a' := ?_) #[I,I,I,I,I,I,I,I] rfl rfl HT_.out (Or.inl ⟨by rfl, ?_⟩) ?_ ?_
            rotate_left
            ·intro w'
             go_simp
             with_reducible rfl
            rotate_left
            ·simp only [Act.put, sqA, sqB, sqC, i64_w, i32_w]
             rfl
            refine done_ (done_of HT_.out (by kernel_rfl)) ?_
            try go_wp2
            go_ret
            exact ⟨by first | rfl | (simp [errW_none, errW_some] <;> rfl) | (simp only [← hji18]; first | rfl | (simp [errW_none, errW_some] <;> rfl)) | (simp [*, errW_none, errW_some] <;> rfl), by repeat (first | (with_reducible first | exact HB.out | apply below_alloc | apply pw_below_drewN | apply below_drew1 | refine below_set ?_ GE676.out) | exact HB.out)⟩
          ·rw [if_neg c20] at H
           exact absurd H (by simp)
         ·rw [if_neg c19] at H
          exact absurd H (by simp)
        ·rw [if_neg c17] at H
         have c17b0 : decide (0 < x3_1) = false := decide_eq_false c17
         clear c17
         have H' := Aside0.mk H
         clear H
         go_wp2
         go_roundg kj5
         case measure => have := HK1.out; have := HJ5.out; omega
         case rel => exact ⟨(wrap64 (x3_1 + 1)), (by first | rfl | (simp; done) | (simp [*]; done)), H', ⟨by have := HK1.out; have := HJ5.out; omega⟩, ⟨by repeat (first | (with_reducible first | exact HB.out | apply below_alloc | apply pw_below_drewN | apply below_drew1 | refine below_set ?_ GE676.out) | exact HB.out)⟩⟩
    ·rw [if_neg c3] at H
     exact absurd H (by simp)
   ·rw [if_neg c2] at H
    have c2b0 : decide (x3_1 < (l0.length : Int)) = false := decide_eq_false c2
    clear c2
    obtain rfl := Option.some.inj H
    go_wp2
    go_ret
    exact ⟨by first | rfl | (simp [errW_none, errW_some] <;> rfl) | (simp [*, errW_none, errW_some] <;> rfl), by repeat (first | (with_reducible first | exact HB.out | apply below_alloc | apply pw_below_drewN | apply below_drew1) | exact HB.out)⟩

end Go.Proofs.Ytannmdngejdjkaa.L
