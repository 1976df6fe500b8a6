-- PRINTED by print.py (a twelfth state) out of the translation. Not trusted: Lean checks it.
import Derived.Test.YtannmdngejdjkaaLSq
import Derived.Test.YtannmdngejdjkaaLx0
namespace Go.Proofs.Ytannmdngejdjkaa.L
open Go.RowKit Go.Proofs.YtannmdngejdjkaaW.PrintWords Go.Proofs.YtannmdngejdjkaaW.PrintLast Go.Proofs.YtannmdngejdjkaaW.PrintMore
attribute [local go_sem] max2_int min2_int max_two min_two max_three min_three max_four min_four   -- for this text's walks alone
set_option linter.unusedVariables false
set_option linter.unusedSimpArgs false

/-! ### ref08_Elems: function 57 -/
def ref08_Elems.l0 : Nat → List (S57) → ByteArray → List ByteArray → Int → Option (List ByteArray)
 | 0, _, _, _, _ => none
 | k + 1, x0, x1, x5, x6 => if x6 < (x0.length : Int) then (if 0 ≤ x6 then (if ((rd_T57 x0 x6).f0).toList = x1.toList then (if (x5.length : Int) > 0 then (if 0 ≤ (wrap64 ((x5.length : Int) - 1)) then (if (wrap64 ((x5.length : Int) - 1)) < (x5.length : Int) then (if (rdOf ByteArray.empty x5 (wrap64 ((x5.length : Int) - 1))).toList = ((rd_T57 x0 x6).f1).toList then (ref08_Elems.l0 k x0 x1 x5 (wrap64 (x6 + 1))) else (if x5.length < 8796093022208 then (ref08_Elems.l0 k x0 x1 (x5 ++ [(rd_T57 x0 x6).f1]) (wrap64 (x6 + 1))) else (none))) else (none)) else (none)) else (if x5.length < 8796093022208 then (ref08_Elems.l0 k x0 x1 (x5 ++ [(rd_T57 x0 x6).f1]) (wrap64 (x6 + 1))) else (none))) else (ref08_Elems.l0 k x0 x1 x5 (wrap64 (x6 + 1)))) else (none)) else (some x5)
def ref08_Elems.f (k : Nat) (l0 : List (S57)) (a1 : ByteArray) : Option (List ByteArray) := ref08_Elems.l0 k l0 a1 ([] : List ByteArray) 0
theorem ref08_Elems.mono_l : ∀ k, (∀ y0 y1 y2 y3, LeO (ref08_Elems.l0 k y0 y1 y2 y3) (ref08_Elems.l0 (k + 1) y0 y1 y2 y3))
 | 0 => fun _ _ _ _ r h => by simp [ref08_Elems.l0] at h
 | k + 1 => by
  have ih0 := ref08_Elems.mono_l k
  ·intro y0 y1 y2 y3
   unfold ref08_Elems.l0
   repeat' first
   | (with_reducible exact ih0 _ _ _ _)
   | (with_reducible exact LeO.refl _)
   | (with_reducible exact LeO.none _)
   | (with_reducible refine LeO.ite ?_ ?_)
   | (with_reducible refine LeO.bind ?_ (fun _ => ?_))
   | exact ih0 _ _ _ _
   | exact LeO.none _
   | refine LeO.ite ?_ ?_
   | refine LeO.bind ?_ (fun _ => ?_)
theorem ref08_Elems.mono : ∀ a0 a1 k, LeO (ref08_Elems.f k a0 a1) (ref08_Elems.f (k + 1) a0 a1) := by
 intro a0 a1 k
 have ih0 := ref08_Elems.mono_l k
 unfold ref08_Elems.f
 repeat' first
   | (with_reducible exact ih0 _ _ _ _)
   | (with_reducible exact LeO.refl _)
   | (with_reducible exact LeO.none _)
   | (with_reducible refine LeO.ite ?_ ?_)
   | (with_reducible refine LeO.bind ?_ (fun _ => ?_))
   | exact ih0 _ _ _ _
   | exact LeO.none _
   | refine LeO.ite ?_ ?_
   | refine LeO.bind ?_ (fun _ => ?_)
set_option maxHeartbeats 8000000 in
set_option maxRecDepth 100000 in
theorem ref08_Elems.calls (k : Nat) (A0 : Option Addr) (c0 : Nat) (l0 : List (S57)) (a1 : ByteArray) (r : List ByteArray) (w : World) (hr0 : Kd.C k57 w A0 l0.length l0) (hc0 : l0.length ≤ c0) (h : ref08_Elems.f k l0 a1 = some r) :
  Calls Try.prog 57 #[.slice A0 l0.length c0, .string a1] w fun e w' => ∃ v0_ : Value, e = .returned (v0_) ∧ Kd.R Kd.string 9 w' w.heap.size (fun _ => True) v0_ r ∧ Below w.heap.size w w' := by
 have HR0 := Aside0.mk hr0
 have HC0 := Aside0.mk hc0
 clear hr0 hc0
 have HB := Aside0.mk (Below.refl w.heap.size w)
 have H : (ref08_Elems.l0 k l0 a1 ([] : List ByteArray) 0) = some r := h
 clear h
 have H' := Aside0.mk H
 clear H
 go_enter Try.func57, Try.ntmps57
 go_wp2
 repeat (go_quiet (fail); try go_wp2)
 go_loopg [5, 6] k (fun kq v5 v6 w' => ∃ (x5_1 : List ByteArray) (x6_1 : Int), v6 = .int .i64 x6_1 ∧ Aside0 (ref08_Elems.l0 kq l0 a1 x5_1 x6_1 = some r) ∧ Aside0 (kq ≤ k) ∧ Aside0 (Kd.R Kd.string 9 w' w.heap.size (fun _ => True) v5 x5_1) ∧ Aside0 (Below w.heap.size w w'))
 case atStart => exact ⟨(([] : List ByteArray)), (0), (by first | rfl | (simp; done) | (simp [*]; done)), H', ⟨Nat.le_refl _⟩, ⟨by first | exact Kd.R_nil _ _ _ _ _ | exact Kd.N_nil _ _ _ _ _ | exact Kd.V_nil _ _ _ _ _ | exact Kd.Q_nil _ _ _ _ _ | exact Kd.S_nil _ _ _ _ _⟩, ⟨by repeat (first | (with_reducible first | exact HB.out | apply below_alloc | apply pw_below_drewN | apply below_drew1) | exact HB.out)⟩⟩
 case round =>
  clear H'
  try clear p2
  obtain ⟨x5_1, x6_1, rfl, HA, HK1, HO_5, HB⟩ := hrel
  cases gk with
  | zero => exact absurd HA.out (by simp [ref08_Elems.l0])
  | succ k1 =>
   have H := HA.out
   clear HA
   simp only [ref08_Elems.l0] at H
   by_cases c3 : x6_1 < (l0.length : Int)
   ·rw [if_pos c3] at H
    have c3b0 : decide (x6_1 < (l0.length : Int)) = true := decide_eq_true c3
    clear c3
    by_cases c4 : 0 ≤ x6_1
    ·rw [if_pos c4] at H
     have c4b0 : decide (0 ≤ x6_1) = true := decide_eq_true c4
     clear c4
     by_cases c5 : ((rd_T57 l0 x6_1).f0).toList = a1.toList
     ·rw [if_pos c5] at H
      have c5b0 : (((rd_T57 l0 x6_1).f0).toList == a1.toList) = true := beq_iff_eq.mpr c5
      have c5b1 : (((rd_T57 l0 x6_1).f0).toList != a1.toList) = false := bne_eq_false_iff_eq.mpr c5
      clear c5
      by_cases c6 : (x5_1.length : Int) > 0
      ·rw [if_pos c6] at H
       have c6b0 : decide (0 < (x5_1.length : Int)) = true := decide_eq_true c6
       have c6b1 : decide (0 < x5_1.length) = true := decide_eq_true (by omega)
       clear c6
       obtain ⟨ji7, hji7⟩ : ∃ j_ : Int, (wrap64 ((x5_1.length : Int) - 1)) = j_ := ⟨_, rfl⟩
       replace H : (if 0 ≤ (ji7) then (if (ji7) < (x5_1.length : Int) then (if (rdOf ByteArray.empty x5_1 (ji7)).toList = ((rd_T57 l0 x6_1).f1).toList then (ref08_Elems.l0 k1 l0 a1 x5_1 (wrap64 (x6_1 + 1))) else (if x5_1.length < 8796093022208 then (ref08_Elems.l0 k1 l0 a1 (x5_1 ++ [(rd_T57 l0 x6_1).f1]) (wrap64 (x6_1 + 1))) else (none))) else (none)) else (none)) = some r := by first | (rw [hji7] at H; exact H) | (simp only [hji7] at H ⊢; exact H)
       have hji7w : (IntKind.i64.wrap ((x5_1.length : Int) - 1)) = ji7 := (i64_w _).trans hji7
       by_cases c8 : 0 ≤ (ji7)
       ·rw [if_pos c8] at H
        have c8b0 : decide (0 ≤ (ji7)) = true := decide_eq_true c8
        clear c8
        by_cases c9 : (ji7) < (x5_1.length : Int)
        ·rw [if_pos c9] at H
         have c9b0 : decide ((ji7) < (x5_1.length : Int)) = true := decide_eq_true c9
         clear c9
         by_cases c10 : (rdOf ByteArray.empty x5_1 (ji7)).toList = ((rd_T57 l0 x6_1).f1).toList
         ·rw [if_pos c10] at H
          have c10b0 : ((rdOf ByteArray.empty x5_1 (ji7)).toList == ((rd_T57 l0 x6_1).f1).toList) = true := beq_iff_eq.mpr c10
          have c10b1 : ((rdOf ByteArray.empty x5_1 (ji7)).toList != ((rd_T57 l0 x6_1).f1).toList) = false := bne_eq_false_iff_eq.mpr c10
          clear c10
          have H' := Aside0.mk H
          clear H
          have p771 : 0 ≤ (x6_1 : Int) := of_decide_eq_true (by first | (with_reducible assumption) | assumption)
          have q771 : x6_1 < (l0.length : Int) := of_decide_eq_true (by first | (with_reducible assumption) | assumption)
          obtain ⟨ad771, e771, hx771_0, hx771_1, hx771_2, hx771_3⟩ := at_T57 HR0.out x6_1 p771 q771
          cases e771
          replace hx771_0 := (HB.out.cell (World.block_lt_of_cell? w _ hx771_0)).trans hx771_0
          replace hx771_1 := (HB.out.cell (World.block_lt_of_cell? w _ hx771_1)).trans hx771_1
          replace hx771_2 := (HB.out.cell (World.block_lt_of_cell? w _ hx771_2)).trans hx771_2
          replace hx771_3 := (HB.out.cell (World.block_lt_of_cell? w _ hx771_3)).trans hx771_3
          replace p771 := eq_true p771
          replace q771 := eq_true q771
          obtain ⟨Ao11, co11, eo11⟩ := Kd.R_slice HO_5.out
          subst eo11
          have p772 : 0 ≤ ((ji7) : Int) := of_decide_eq_true (by first | (with_reducible assumption) | assumption)
          have q772 : (ji7) < (x5_1.length : Int) := of_decide_eq_true (by first | (with_reducible assumption) | assumption)
          obtain ⟨ad772, e772, hx772_0⟩ := Kd.at_string (Kd.R_reads' HO_5.out).2.2 (ji7) p772 q772
          cases e772
          replace p772 := eq_true p772
          replace q772 := eq_true q772
          have p773 : 0 ≤ (x6_1 : Int) := of_decide_eq_true (by first | (with_reducible assumption) | assumption)
          have q773 : x6_1 < (l0.length : Int) := of_decide_eq_true (by first | (with_reducible assumption) | assumption)
          obtain ⟨ad773, e773, hx773_0, hx773_1, hx773_2, hx773_3⟩ := at_T57 HR0.out x6_1 p773 q773
          obtain rfl : ad771 = ad773 := (by injection e773)
          replace hx773_0 := (HB.out.cell (World.block_lt_of_cell? w _ hx773_0)).trans hx773_0
          replace hx773_1 := (HB.out.cell (World.block_lt_of_cell? w _ hx773_1)).trans hx773_1
          replace hx773_2 := (HB.out.cell (World.block_lt_of_cell? w _ hx773_2)).trans hx773_2
          replace hx773_3 := (HB.out.cell (World.block_lt_of_cell? w _ hx773_3)).trans hx773_3
          replace p773 := eq_true p773
          replace q773 := eq_true q773
          go_wp2
          repeat (go_quiet (fail); try go_wp2)
          go_roundg k1
          case measure => have := HK1.out; omega
          case rel => exact ⟨(x5_1), (wrap64 (x6_1 + 1)), (by first | rfl | (simp; done) | (simp [*]; done)), H', ⟨by have := HK1.out; omega⟩, ⟨by (with_reducible repeat (first | apply Kd.R_alloc | apply Kd.R_drewN | apply Kd.R_drew)); exact HO_5.out⟩, ⟨by repeat (first | (with_reducible first | exact HB.out | apply below_alloc | apply pw_below_drewN | apply below_drew1) | exact HB.out)⟩⟩
         ·rw [if_neg c10] at H
          have c10b0 : ((rdOf ByteArray.empty x5_1 (ji7)).toList == ((rd_T57 l0 x6_1).f1).toList) = false := beq_eq_false_iff_ne.mpr c10
          have c10b1 : ((rdOf ByteArray.empty x5_1 (ji7)).toList != ((rd_T57 l0 x6_1).f1).toList) = true := bne_iff_ne.mpr c10
          by_cases c12 : x5_1.length < 8796093022208
          ·rw [if_pos c12] at H
           have LMc12 := Aside0.mk c12
           clear c12
           obtain ⟨y775, hy775⟩ : ∃ y_ : List ByteArray, y_ = (x5_1 ++ [(rd_T57 l0 x6_1).f1]) := ⟨_, rfl⟩
           replace H : (ref08_Elems.l0 k1 l0 a1 y775 (wrap64 (x6_1 + 1))) = some r := by first | (rw [hy775]; with_reducible exact H) | (have H2_ := (Option.bind_some _ _).symm.trans H; rw [hy775]; with_reducible exact H2_) | (have H2_ := (Option.bind_some _ _).symm.trans H; with_reducible exact H2_) | with_reducible exact H | (rw [hy775]; exact H) | exact H
           have Ny775 := Aside0.mk hy775
           clear hy775
           have H' := Aside0.mk H
           clear H
           have p771 : 0 ≤ (x6_1 : Int) := of_decide_eq_true (by first | (with_reducible assumption) | assumption)
           have q771 : x6_1 < (l0.length : Int) := of_decide_eq_true (by first | (with_reducible assumption) | assumption)
           obtain ⟨ad771, e771, hx771_0, hx771_1, hx771_2, hx771_3⟩ := at_T57 HR0.out x6_1 p771 q771
           cases e771
           replace hx771_0 := (HB.out.cell (World.block_lt_of_cell? w _ hx771_0)).trans hx771_0
           replace hx771_1 := (HB.out.cell (World.block_lt_of_cell? w _ hx771_1)).trans hx771_1
           replace hx771_2 := (HB.out.cell (World.block_lt_of_cell? w _ hx771_2)).trans hx771_2
           replace hx771_3 := (HB.out.cell (World.block_lt_of_cell? w _ hx771_3)).trans hx771_3
           replace p771 := eq_true p771
           replace q771 := eq_true q771
           obtain ⟨Ao13, co13, eo13⟩ := Kd.R_slice HO_5.out
           subst eo13
           have p772 : 0 ≤ ((ji7) : Int) := of_decide_eq_true (by first | (with_reducible assumption) | assumption)
           have q772 : (ji7) < (x5_1.length : Int) := of_decide_eq_true (by first | (with_reducible assumption) | assumption)
           obtain ⟨ad772, e772, hx772_0⟩ := Kd.at_string (Kd.R_reads' HO_5.out).2.2 (ji7) p772 q772
           cases e772
           replace p772 := eq_true p772
           replace q772 := eq_true q772
           have p773 : 0 ≤ (x6_1 : Int) := of_decide_eq_true (by first | (with_reducible assumption) | assumption)
           have q773 : x6_1 < (l0.length : Int) := of_decide_eq_true (by first | (with_reducible assumption) | assumption)
           obtain ⟨ad773, e773, hx773_0, hx773_1, hx773_2, hx773_3⟩ := at_T57 HR0.out x6_1 p773 q773
           obtain rfl : ad771 = ad773 := (by injection e773)
           replace hx773_0 := (HB.out.cell (World.block_lt_of_cell? w _ hx773_0)).trans hx773_0
           replace hx773_1 := (HB.out.cell (World.block_lt_of_cell? w _ hx773_1)).trans hx773_1
           replace hx773_2 := (HB.out.cell (World.block_lt_of_cell? w _ hx773_2)).trans hx773_2
           replace hx773_3 := (HB.out.cell (World.block_lt_of_cell? w _ hx773_3)).trans hx773_3
           replace p773 := eq_true p773
           replace q773 := eq_true q773
           have p774 : 0 ≤ (x6_1 : Int) := of_decide_eq_true (by first | (with_reducible assumption) | assumption)
           have q774 : x6_1 < (l0.length : Int) := of_decide_eq_true (by first | (with_reducible assumption) | assumption)
           obtain ⟨ad774, e774, hx774_0, hx774_1, hx774_2, hx774_3⟩ := at_T57 HR0.out x6_1 p774 q774
           obtain rfl : ad771 = ad774 := (by injection e774)
           replace hx774_0 := (HB.out.cell (World.block_lt_of_cell? w _ hx774_0)).trans hx774_0
           replace hx774_1 := (HB.out.cell (World.block_lt_of_cell? w _ hx774_1)).trans hx774_1
           replace hx774_2 := (HB.out.cell (World.block_lt_of_cell? w _ hx774_2)).trans hx774_2
           replace hx774_3 := (HB.out.cell (World.block_lt_of_cell? w _ hx774_3)).trans hx774_3
           replace p774 := eq_true p774
           replace q774 := eq_true q774
           go_wp2_with (first | ((with_reducible refine gate_builtin (b := .append) (xs := #[.tmp 39, .tmp 45]) rfl ?_); (try (refine gate_guard (by rfl) ?_; dsimp only)); at_builtin; refine Kd.R_append Kd.string (w0 := w) w.heap.size rfl (.tmp 39) (.tmp 45) 64 9 (.string ⟨#[]⟩) 16 rfl Try.underlying64 info9 rfl (by decide) (by omega) (.slice (some ad772) x5_1.length co13) x5_1 ((rd_T57 l0 x6_1).f1) [.string ((rd_T57 l0 x6_1).f1)] (fun _ => True) (fun _ => False) rfl rfl ?aP (fun _ hk => hk.elim) ?aF ?aO ?aB ?aS ?aL ?_; (case aP => exact rfl); (case aB => exact (by repeat (first | (with_reducible first | exact HB.out | apply below_alloc | apply pw_below_drewN | apply below_drew1) | exact HB.out))); (case aF => exact (fun _ _ => trivial)); (case aO => exact (by (with_reducible repeat (first | apply Kd.R_alloc | apply Kd.R_drewN | apply Kd.R_drew)); exact HO_5.out)); (case aS => exact (below_size (by repeat (first | (with_reducible first | exact HB.out | apply below_alloc | apply pw_below_drewN | apply below_drew1) | exact HB.out)))); (case aL => have := LMc12.out; omega); intro v776 w14 ho hb hg hat; rw [← Ny775.out] at ho; have n0_ := Aside0.mk (hb); have n1_ := Aside0.mk (ho); clear HB; clear HO_5; have HB := n0_; have HO777 := n1_; clear n0_ n1_; clear ho hb hg hat))
           repeat (go_quiet (first | ((with_reducible refine gate_builtin (b := .append) (xs := #[.tmp 39, .tmp 45]) rfl ?_); (try (refine gate_guard (by rfl) ?_; dsimp only)); at_builtin; refine Kd.R_append Kd.string (w0 := w) w.heap.size rfl (.tmp 39) (.tmp 45) 64 9 (.string ⟨#[]⟩) 16 rfl Try.underlying64 info9 rfl (by decide) (by omega) (.slice (some ad772) x5_1.length co13) x5_1 ((rd_T57 l0 x6_1).f1) [.string ((rd_T57 l0 x6_1).f1)] (fun _ => True) (fun _ => False) rfl rfl ?aP (fun _ hk => hk.elim) ?aF ?aO ?aB ?aS ?aL ?_; (case aP => exact rfl); (case aB => exact (by repeat (first | (with_reducible first | exact HB.out | apply below_alloc | apply pw_below_drewN | apply below_drew1) | exact HB.out))); (case aF => exact (fun _ _ => trivial)); (case aO => exact (by (with_reducible repeat (first | apply Kd.R_alloc | apply Kd.R_drewN | apply Kd.R_drew)); exact HO_5.out)); (case aS => exact (below_size (by repeat (first | (with_reducible first | exact HB.out | apply below_alloc | apply pw_below_drewN | apply below_drew1) | exact HB.out)))); (case aL => have := LMc12.out; omega); intro v776 w14 ho hb hg hat; rw [← Ny775.out] at ho; have n0_ := Aside0.mk (hb); have n1_ := Aside0.mk (ho); clear HB; clear HO_5; have HB := n0_; have HO777 := n1_; clear n0_ n1_; clear ho hb hg hat)); try go_wp2_with (first | ((with_reducible refine gate_builtin (b := .append) (xs := #[.tmp 39, .tmp 45]) rfl ?_); (try (refine gate_guard (by rfl) ?_; dsimp only)); at_builtin; refine Kd.R_append Kd.string (w0 := w) w.heap.size rfl (.tmp 39) (.tmp 45) 64 9 (.string ⟨#[]⟩) 16 rfl Try.underlying64 info9 rfl (by decide) (by omega) (.slice (some ad772) x5_1.length co13) x5_1 ((rd_T57 l0 x6_1).f1) [.string ((rd_T57 l0 x6_1).f1)] (fun _ => True) (fun _ => False) rfl rfl ?aP (fun _ hk => hk.elim) ?aF ?aO ?aB ?aS ?aL ?_; (case aP => exact rfl); (case aB => exact (by repeat (first | (with_reducible first | exact HB.out | apply below_alloc | apply pw_below_drewN | apply below_drew1) | exact HB.out))); (case aF => exact (fun _ _ => trivial)); (case aO => exact (by (with_reducible repeat (first | apply Kd.R_alloc | apply Kd.R_drewN | apply Kd.R_drew)); exact HO_5.out)); (case aS => exact (below_size (by repeat (first | (with_reducible first | exact HB.out | apply below_alloc | apply pw_below_drewN | apply below_drew1) | exact HB.out)))); (case aL => have := LMc12.out; omega); intro v776 w14 ho hb hg hat; rw [← Ny775.out] at ho; have n0_ := Aside0.mk (hb); have n1_ := Aside0.mk (ho); clear HB; clear HO_5; have HB := n0_; have HO777 := n1_; clear n0_ n1_; clear ho hb hg hat)))
           go_roundg k1
           case measure => have := HK1.out; omega
           case rel => exact ⟨(y775), (wrap64 (x6_1 + 1)), (by first | rfl | (simp; done) | (simp [*]; done)), H', ⟨by have := HK1.out; omega⟩, ⟨by (with_reducible repeat (first | apply Kd.R_alloc | apply Kd.R_drewN | apply Kd.R_drew)); exact HO777.out⟩, ⟨by repeat (first | (with_reducible first | exact HB.out | apply below_alloc | apply pw_below_drewN | apply below_drew1) | exact HB.out)⟩⟩
          ·rw [if_neg c12] at H
           exact absurd H (by simp)
        ·rw [if_neg c9] at H
         exact absurd H (by simp)
       ·rw [if_neg c8] at H
        exact absurd H (by simp)
      ·rw [if_neg c6] at H
       have c6b0 : decide (0 < (x5_1.length : Int)) = false := decide_eq_false c6
       have c6b1 : decide (0 < x5_1.length) = false := decide_eq_false (by omega)
       clear c6
       by_cases c15 : x5_1.length < 8796093022208
       ·rw [if_pos c15] at H
        have LMc15 := Aside0.mk c15
        clear c15
        obtain ⟨y779, hy779⟩ : ∃ y_ : List ByteArray, y_ = (x5_1 ++ [(rd_T57 l0 x6_1).f1]) := ⟨_, rfl⟩
        replace H : (ref08_Elems.l0 k1 l0 a1 y779 (wrap64 (x6_1 + 1))) = some r := by first | (rw [hy779]; with_reducible exact H) | (have H2_ := (Option.bind_some _ _).symm.trans H; rw [hy779]; with_reducible exact H2_) | (have H2_ := (Option.bind_some _ _).symm.trans H; with_reducible exact H2_) | with_reducible exact H | (rw [hy779]; exact H) | exact H
        have Ny779 := Aside0.mk hy779
        clear hy779
        have H' := Aside0.mk H
        clear H
        have p771 : 0 ≤ (x6_1 : Int) := of_decide_eq_true (by first | (with_reducible assumption) | assumption)
        have q771 : x6_1 < (l0.length : Int) := of_decide_eq_true (by first | (with_reducible assumption) | assumption)
        obtain ⟨ad771, e771, hx771_0, hx771_1, hx771_2, hx771_3⟩ := at_T57 HR0.out x6_1 p771 q771
        cases e771
        replace hx771_0 := (HB.out.cell (World.block_lt_of_cell? w _ hx771_0)).trans hx771_0
        replace hx771_1 := (HB.out.cell (World.block_lt_of_cell? w _ hx771_1)).trans hx771_1
        replace hx771_2 := (HB.out.cell (World.block_lt_of_cell? w _ hx771_2)).trans hx771_2
        replace hx771_3 := (HB.out.cell (World.block_lt_of_cell? w _ hx771_3)).trans hx771_3
        replace p771 := eq_true p771
        replace q771 := eq_true q771
        obtain ⟨Ao16, co16, eo16⟩ := Kd.R_slice HO_5.out
        subst eo16
        have p778 : 0 ≤ (x6_1 : Int) := of_decide_eq_true (by first | (with_reducible assumption) | assumption)
        have q778 : x6_1 < (l0.length : Int) := of_decide_eq_true (by first | (with_reducible assumption) | assumption)
        obtain ⟨ad778, e778, hx778_0, hx778_1, hx778_2, hx778_3⟩ := at_T57 HR0.out x6_1 p778 q778
        obtain rfl : ad771 = ad778 := (by injection e778)
        replace hx778_0 := (HB.out.cell (World.block_lt_of_cell? w _ hx778_0)).trans hx778_0
        replace hx778_1 := (HB.out.cell (World.block_lt_of_cell? w _ hx778_1)).trans hx778_1
        replace hx778_2 := (HB.out.cell (World.block_lt_of_cell? w _ hx778_2)).trans hx778_2
        replace hx778_3 := (HB.out.cell (World.block_lt_of_cell? w _ hx778_3)).trans hx778_3
        replace p778 := eq_true p778
        replace q778 := eq_true q778
        go_wp2_with (first | ((with_reducible refine gate_builtin (b := .append) (xs := #[.tmp 39, .tmp 45]) rfl ?_); (try (refine gate_guard (by rfl) ?_; dsimp only)); at_builtin; refine Kd.R_append Kd.string (w0 := w) w.heap.size rfl (.tmp 39) (.tmp 45) 64 9 (.string ⟨#[]⟩) 16 rfl Try.underlying64 info9 rfl (by decide) (by omega) (.slice Ao16 x5_1.length co16) x5_1 ((rd_T57 l0 x6_1).f1) [.string ((rd_T57 l0 x6_1).f1)] (fun _ => True) (fun _ => False) rfl rfl ?aP (fun _ hk => hk.elim) ?aF ?aO ?aB ?aS ?aL ?_; (case aP => exact rfl); (case aB => exact (by repeat (first | (with_reducible first | exact HB.out | apply below_alloc | apply pw_below_drewN | apply below_drew1) | exact HB.out))); (case aF => exact (fun _ _ => trivial)); (case aO => exact (by (with_reducible repeat (first | apply Kd.R_alloc | apply Kd.R_drewN | apply Kd.R_drew)); exact HO_5.out)); (case aS => exact (below_size (by repeat (first | (with_reducible first | exact HB.out | apply below_alloc | apply pw_below_drewN | apply below_drew1) | exact HB.out)))); (case aL => have := LMc15.out; omega); intro v780 w17 ho hb hg hat; rw [← Ny779.out] at ho; have n0_ := Aside0.mk (hb); have n1_ := Aside0.mk (ho); clear HB; clear HO_5; have HB := n0_; have HO781 := n1_; clear n0_ n1_; clear ho hb hg hat))
        repeat (go_quiet (first | ((with_reducible refine gate_builtin (b := .append) (xs := #[.tmp 39, .tmp 45]) rfl ?_); (try (refine gate_guard (by rfl) ?_; dsimp only)); at_builtin; refine Kd.R_append Kd.string (w0 := w) w.heap.size rfl (.tmp 39) (.tmp 45) 64 9 (.string ⟨#[]⟩) 16 rfl Try.underlying64 info9 rfl (by decide) (by omega) (.slice Ao16 x5_1.length co16) x5_1 ((rd_T57 l0 x6_1).f1) [.string ((rd_T57 l0 x6_1).f1)] (fun _ => True) (fun _ => False) rfl rfl ?aP (fun _ hk => hk.elim) ?aF ?aO ?aB ?aS ?aL ?_; (case aP => exact rfl); (case aB => exact (by repeat (first | (with_reducible first | exact HB.out | apply below_alloc | apply pw_below_drewN | apply below_drew1) | exact HB.out))); (case aF => exact (fun _ _ => trivial)); (case aO => exact (by (with_reducible repeat (first | apply Kd.R_alloc | apply Kd.R_drewN | apply Kd.R_drew)); exact HO_5.out)); (case aS => exact (below_size (by repeat (first | (with_reducible first | exact HB.out | apply below_alloc | apply pw_below_drewN | apply below_drew1) | exact HB.out)))); (case aL => have := LMc15.out; omega); intro v780 w17 ho hb hg hat; rw [← Ny779.out] at ho; have n0_ := Aside0.mk (hb); have n1_ := Aside0.mk (ho); clear HB; clear HO_5; have HB := n0_; have HO781 := n1_; clear n0_ n1_; clear ho hb hg hat)); try go_wp2_with (first | ((with_reducible refine gate_builtin (b := .append) (xs := #[.tmp 39, .tmp 45]) rfl ?_); (try (refine gate_guard (by rfl) ?_; dsimp only)); at_builtin; refine Kd.R_append Kd.string (w0 := w) w.heap.size rfl (.tmp 39) (.tmp 45) 64 9 (.string ⟨#[]⟩) 16 rfl Try.underlying64 info9 rfl (by decide) (by omega) (.slice Ao16 x5_1.length co16) x5_1 ((rd_T57 l0 x6_1).f1) [.string ((rd_T57 l0 x6_1).f1)] (fun _ => True) (fun _ => False) rfl rfl ?aP (fun _ hk => hk.elim) ?aF ?aO ?aB ?aS ?aL ?_; (case aP => exact rfl); (case aB => exact (by repeat (first | (with_reducible first | exact HB.out | apply below_alloc | apply pw_below_drewN | apply below_drew1) | exact HB.out))); (case aF => exact (fun _ _ => trivial)); (case aO => exact (by (with_reducible repeat (first | apply Kd.R_alloc | apply Kd.R_drewN | apply Kd.R_drew)); exact HO_5.out)); (case aS => exact (below_size (by repeat (first | (with_reducible first | exact HB.out | apply below_alloc | apply pw_below_drewN | apply below_drew1) | exact HB.out)))); (case aL => have := LMc15.out; omega); intro v780 w17 ho hb hg hat; rw [← Ny779.out] at ho; have n0_ := Aside0.mk (hb); have n1_ := Aside0.mk (ho); clear HB; clear HO_5; have HB := n0_; have HO781 := n1_; clear n0_ n1_; clear ho hb hg hat)))
        go_roundg k1
        case measure => have := HK1.out; omega
        case rel => exact ⟨(y779), (wrap64 (x6_1 + 1)), (by first | rfl | (simp; done) | (simp [*]; done)), H', ⟨by have := HK1.out; omega⟩, ⟨by (with_reducible repeat (first | apply Kd.R_alloc | apply Kd.R_drewN | apply Kd.R_drew)); exact HO781.out⟩, ⟨by repeat (first | (with_reducible first | exact HB.out | apply below_alloc | apply pw_below_drewN | apply below_drew1) | exact HB.out)⟩⟩
       ·rw [if_neg c15] at H
        exact absurd H (by simp)
     ·rw [if_neg c5] at H
      have c5b0 : (((rd_T57 l0 x6_1).f0).toList == a1.toList) = false := beq_eq_false_iff_ne.mpr c5
      have c5b1 : (((rd_T57 l0 x6_1).f0).toList != a1.toList) = true := bne_iff_ne.mpr c5
      have H' := Aside0.mk H
      clear H
      have p771 : 0 ≤ (x6_1 : Int) := of_decide_eq_true (by first | (with_reducible assumption) | assumption)
      have q771 : x6_1 < (l0.length : Int) := of_decide_eq_true (by first | (with_reducible assumption) | assumption)
      obtain ⟨ad771, e771, hx771_0, hx771_1, hx771_2, hx771_3⟩ := at_T57 HR0.out x6_1 p771 q771
      cases e771
      replace hx771_0 := (HB.out.cell (World.block_lt_of_cell? w _ hx771_0)).trans hx771_0
      replace hx771_1 := (HB.out.cell (World.block_lt_of_cell? w _ hx771_1)).trans hx771_1
      replace hx771_2 := (HB.out.cell (World.block_lt_of_cell? w _ hx771_2)).trans hx771_2
      replace hx771_3 := (HB.out.cell (World.block_lt_of_cell? w _ hx771_3)).trans hx771_3
      replace p771 := eq_true p771
      replace q771 := eq_true q771
      go_wp2
      repeat (go_quiet (fail); try go_wp2)
      go_roundg k1
      case measure => have := HK1.out; omega
      case rel => exact ⟨(x5_1), (wrap64 (x6_1 + 1)), (by first | rfl | (simp; done) | (simp [*]; done)), H', ⟨by have := HK1.out; omega⟩, ⟨by (with_reducible repeat (first | apply Kd.R_alloc | apply Kd.R_drewN | apply Kd.R_drew)); exact HO_5.out⟩, ⟨by repeat (first | (with_reducible first | exact HB.out | apply below_alloc | apply pw_below_drewN | apply below_drew1) | exact HB.out)⟩⟩
    ·rw [if_neg c4] at H
     exact absurd H (by simp)
   ·rw [if_neg c3] at H
    have c3b0 : decide (x6_1 < (l0.length : Int)) = false := decide_eq_false c3
    clear c3
    obtain rfl := Option.some.inj H
    go_wp2
    repeat (go_quiet (fail); try go_wp2)
    go_ret
    exact ⟨_, by first | rfl | (simp [errW_none, errW_some] <;> rfl) | (simp [*, errW_none, errW_some] <;> rfl), by (with_reducible repeat (first | apply Kd.R_alloc | apply Kd.R_drewN | apply Kd.R_drew)); exact HO_5.out, by repeat (first | (with_reducible first | exact HB.out | apply below_alloc | apply pw_below_drewN | apply below_drew1) | exact HB.out)⟩

end Go.Proofs.Ytannmdngejdjkaa.L
