/- Several of the walk's texts in one: Sx29. -/
import Derived.Test.YtmcddoolniaehaaGreatMM04
import Derived.Test.YtmcddoolniaehaaGreatMM22
section
namespace Go.Proofs.YtmcddoolniaehaaGreat.S
open Go.RowKit Go.Proofs.YtmcddoolniaehaaGreatW.PrintWords Go.Proofs.YtmcddoolniaehaaGreatW.PrintLast Go.Proofs.YtmcddoolniaehaaGreatW.PrintMore
attribute [local go_sem] max2_int min2_int max_two min_two max_three min_three max_four min_four   -- for this text's walks alone
set_option linter.unusedVariables false
set_option linter.unusedSimpArgs false

mutual
def ref06_put.l0 : Nat → List (S73) → ByteArray → Int → List (S73) → Bool → Int → Option ((List (S73)))
 | 0, _, _, _, _, _, _ => none
 | k + 1, x0, x1, x2, x7, x8, x9 => if x9 < (x0.length : Int) then (if x8 = true then (ref06_put.j1 k x0 x1 x2 x7 x8 x9 false) else (if 0 ≤ x9 then (ref06_put.j1 k x0 x1 x2 x7 x8 x9 (!(Op.bytesLess (((rd_T73 x0 x9).f0).toList) x1.toList))) else (none))) else (if x8 = true then (some x7) else (if x2 = 0 then (some x7) else (if x7.length < 5864062014805 then (some (x7 ++ [(⟨x1, x2⟩ : S73)])) else (none))))
def ref06_put.j1 : Nat → List (S73) → ByteArray → Int → List (S73) → Bool → Int → Bool → Option ((List (S73)))
 | 0, _, _, _, _, _, _, _ => none
 | k + 1, x0, x1, x2, x7, x8, x9, x26 => if x26 = true then (if x2 = 0 then (if 0 ≤ x9 then (if x9 < (x0.length : Int) then (if ((rd_T73 x0 x9).f0).toList = x1.toList then (ref06_put.l0 k x0 x1 x2 x7 true (wrap64 (x9 + 1))) else (if x7.length < 5864062014805 then (ref06_put.l0 k x0 x1 x2 (x7 ++ [(⟨(rd_T73 x0 x9).f0, (rd_T73 x0 x9).f1⟩ : S73)]) true (wrap64 (x9 + 1))) else (none))) else (none)) else (none)) else (if x7.length < 5864062014805 then ((some (x7 ++ [(⟨x1, x2⟩ : S73)] : List (S73))).bind fun y244 => (if 0 ≤ x9 then (if x9 < (x0.length : Int) then (if ((rd_T73 x0 x9).f0).toList = x1.toList then (ref06_put.l0 k x0 x1 x2 y244 true (wrap64 (x9 + 1))) else (if y244.length < 5864062014805 then (ref06_put.l0 k x0 x1 x2 (y244 ++ [(⟨(rd_T73 x0 x9).f0, (rd_T73 x0 x9).f1⟩ : S73)]) true (wrap64 (x9 + 1))) else (none))) else (none)) else (none))) else (none))) else (if 0 ≤ x9 then (if x9 < (x0.length : Int) then (if ((rd_T73 x0 x9).f0).toList = x1.toList then (ref06_put.l0 k x0 x1 x2 x7 x8 (wrap64 (x9 + 1))) else (if x7.length < 5864062014805 then (ref06_put.l0 k x0 x1 x2 (x7 ++ [(⟨(rd_T73 x0 x9).f0, (rd_T73 x0 x9).f1⟩ : S73)]) x8 (wrap64 (x9 + 1))) else (none))) else (none)) else (none))
end
def ref06_put.f (k : Nat) (l0 : List (S73)) (a1 : ByteArray) (a2 : Int) : Option ((List (S73))) := ref06_put.l0 k l0 a1 a2 ([] : List (S73)) false 0
theorem ref06_put.mono_l : ∀ k, (∀ y0 y1 y2 y3 y4 y5, LeO (ref06_put.l0 k y0 y1 y2 y3 y4 y5) (ref06_put.l0 (k + 1) y0 y1 y2 y3 y4 y5)) ∧ (∀ y0 y1 y2 y3 y4 y5 y6, LeO (ref06_put.j1 k y0 y1 y2 y3 y4 y5 y6) (ref06_put.j1 (k + 1) y0 y1 y2 y3 y4 y5 y6))
 | 0 => ⟨fun _ _ _ _ _ _ r h => by simp [ref06_put.l0] at h, fun _ _ _ _ _ _ _ r h => by simp [ref06_put.j1] at h⟩
 | k + 1 => by
  obtain ⟨ih0, ih1⟩ := ref06_put.mono_l k
  refine ⟨?_, ?_⟩
  ·intro y0 y1 y2 y3 y4 y5
   unfold ref06_put.l0
   repeat' first
   | (with_reducible exact ih0 _ _ _ _ _ _)
   | (with_reducible exact ih1 _ _ _ _ _ _ _)
   | (with_reducible exact LeO.refl _)
   | (with_reducible exact LeO.none _)
   | (with_reducible refine LeO.ite ?_ ?_)
   | (with_reducible refine LeO.bind ?_ (fun _ => ?_))
   | exact ih0 _ _ _ _ _ _
   | exact ih1 _ _ _ _ _ _ _
   | exact LeO.none _
   | refine LeO.ite ?_ ?_
   | refine LeO.bind ?_ (fun _ => ?_)
  ·intro y0 y1 y2 y3 y4 y5 y6
   unfold ref06_put.j1
   repeat' first
   | (with_reducible exact ih0 _ _ _ _ _ _)
   | (with_reducible exact ih1 _ _ _ _ _ _ _)
   | (with_reducible exact LeO.refl _)
   | (with_reducible exact LeO.none _)
   | (with_reducible refine LeO.ite ?_ ?_)
   | (with_reducible refine LeO.bind ?_ (fun _ => ?_))
   | exact ih0 _ _ _ _ _ _
   | exact ih1 _ _ _ _ _ _ _
   | exact LeO.none _
   | refine LeO.ite ?_ ?_
   | refine LeO.bind ?_ (fun _ => ?_)
theorem ref06_put.mono : ∀ a0 a1 a2 k, LeO (ref06_put.f k a0 a1 a2) (ref06_put.f (k + 1) a0 a1 a2) := by
 intro a0 a1 a2 k
 obtain ⟨ih0, ih1⟩ := ref06_put.mono_l k
 unfold ref06_put.f
 repeat' first
   | (with_reducible exact ih0 _ _ _ _ _ _)
   | (with_reducible exact ih1 _ _ _ _ _ _ _)
   | (with_reducible exact LeO.refl _)
   | (with_reducible exact LeO.none _)
   | (with_reducible refine LeO.ite ?_ ?_)
   | (with_reducible refine LeO.bind ?_ (fun _ => ?_))
   | exact ih0 _ _ _ _ _ _
   | exact ih1 _ _ _ _ _ _ _
   | exact LeO.none _
   | refine LeO.ite ?_ ?_
   | refine LeO.bind ?_ (fun _ => ?_)
set_option maxHeartbeats 8000000 in
set_option maxRecDepth 100000 in
theorem ref06_put.calls (k : Nat) (A0 : Option Addr) (c0 : Nat) (l0 : List (S73)) (a1 : ByteArray) (a2 : Int) (r : List (S73)) (w : World) (hr0 : Kd.C k73 w A0 l0.length l0) (hc0 : l0.length ≤ c0) (h : ref06_put.f k l0 a1 a2 = some r) :
  Calls Tryz.prog 89 #[.slice A0 l0.length c0, .string a1, .int .i64 a2] w fun e w' => ∃ v0_ : Value, e = .returned (v0_) ∧ Kd.R k73 73 w' w.heap.size (fun _ => True) v0_ r ∧ Below w.heap.size w w' := by
 have hu73 := Tryz.underlying73
 have HR0 := Aside0.mk hr0
 have HC0 := Aside0.mk hc0
 clear hr0 hc0
 have HB := Aside0.mk (Below.refl w.heap.size w)
 have H : (ref06_put.l0 k l0 a1 a2 ([] : List (S73)) false 0) = some r := h
 clear h
 have H' := Aside0.mk H
 clear H
 go_enter Tryz.func89, Tryz.ntmps89
 go_wp2
 go_loopg [7, 8, 9] k (fun kq v7 v8 v9 w' => ∃ (x7_1 : List (S73)) (x8_1 : Bool) (x9_1 : Int), v8 = .bool x8_1 ∧ v9 = .int .i64 x9_1 ∧ Aside0 (ref06_put.l0 kq l0 a1 a2 x7_1 x8_1 x9_1 = some r) ∧ Aside0 (kq ≤ k) ∧ Aside0 (Kd.R k73 73 w' w.heap.size (fun _ => True) v7 x7_1) ∧ Aside0 (Below w.heap.size w w'))
 case atStart => exact ⟨(([] : List (S73))), (false), (0), (by first | rfl | (simp; done) | (simp [*]; done)), (by first | rfl | (simp; done) | (simp [*]; done)), H', ⟨Nat.le_refl _⟩, ⟨by first | exact Kd.R_nil _ _ _ _ _ | exact Kd.N_nil _ _ _ _ _ | exact Kd.V_nil _ _ _ _ _ | exact Kd.Q_nil _ _ _ _ _ | exact Kd.S_nil _ _ _ _ _⟩, ⟨by repeat (first | (with_reducible first | exact HB.out | apply below_alloc | apply pw_below_drewN | apply below_drew1) | exact HB.out)⟩⟩
 case round =>
  clear H'
  try clear p2
  obtain ⟨x7_1, x8_1, x9_1, rfl, rfl, HA, HK1, HO_7, HB⟩ := hrel
  cases gk with
  | zero => exact absurd HA.out (by simp [ref06_put.l0])
  | succ k1 =>
   have H := HA.out
   clear HA
   simp only [ref06_put.l0] at H
   by_cases c4 : x9_1 < (l0.length : Int)
   ·rw [if_pos c4] at H
    have c4b0 : decide (x9_1 < (l0.length : Int)) = true := decide_eq_true c4
    clear c4
    have HC5 := Aside0.mk H
    clear H
    go_upto_region 6 with (fail)
    go_cut [26] (fun v26 wc => ∃ (kq : Nat) (x26_4 : Bool), v26 = .bool x26_4 ∧ Aside0 (ref06_put.j1 kq l0 a1 a2 x7_1 x8_1 x9_1 x26_4 = some r) ∧ Aside0 (kq ≤ k1) ∧ Aside0 (Kd.R k73 73 wc w.heap.size (fun _ => True) u7 x7_1) ∧ Aside0 (Below w.heap.size w wc))
    case first =>
     have H := HC5.out
     clear HC5
     by_cases c6 : x8_1 = true
     ·subst c6
      have H1 : (ref06_put.j1 k1 l0 a1 a2 x7_1 true x9_1 false) = some r := by rw [if_pos rfl] at H; exact H
      clear H
      have H := H1
      clear H1
      have H' := Aside0.mk H
      clear H
      go_wp2
      go_meet
      case rel => exact ⟨_, (false), (by first | rfl | (simp; done) | (simp [*]; done)), H', ⟨by have := HK1.out; first | omega | exact Nat.le_refl _⟩, ⟨by (with_reducible repeat (first | apply Kd.R_alloc | apply Kd.R_drewN | apply Kd.R_drew)); exact HO_7.out⟩, ⟨by repeat (first | (with_reducible first | exact HB.out | apply below_alloc | apply pw_below_drewN | apply below_drew1) | exact HB.out)⟩⟩
     ·replace c6 := Bool.eq_false_iff.mpr c6
      subst c6
      have H1 : (if 0 ≤ x9_1 then (ref06_put.j1 k1 l0 a1 a2 x7_1 false x9_1 (!(Op.bytesLess (((rd_T73 l0 x9_1).f0).toList) a1.toList))) else (none)) = some r := by rw [if_neg (show ¬ (false = true) by decide)] at H; exact H
      clear H
      have H := H1
      clear H1
      by_cases c7 : 0 ≤ x9_1
      ·rw [if_pos c7] at H
       have c7b0 : decide (0 ≤ x9_1) = true := decide_eq_true c7
       clear c7
       (first | rw [c7b0] | (simp only [i64_w, i32_w]; rw [c7b0]) | skip)
       have H' := Aside0.mk H
       clear H
       have p238 : 0 ≤ (x9_1 : Int) := of_decide_eq_true (by first | (with_reducible assumption) | assumption)
       have q238 : x9_1 < (l0.length : Int) := of_decide_eq_true (by first | (with_reducible assumption) | assumption)
       obtain ⟨ad238, e238, hx238_0, hx238_1⟩ := at_T73 HR0.out x9_1 p238 q238
       cases e238
       replace hx238_0 := (HB.out.cell (World.block_lt_of_cell? w _ hx238_0)).trans hx238_0
       replace hx238_1 := (HB.out.cell (World.block_lt_of_cell? w _ hx238_1)).trans hx238_1
       replace p238 := eq_true p238
       replace q238 := eq_true q238
       go_wp2
       go_meet
       case rel => exact ⟨_, (!(Op.bytesLess (((rd_T73 l0 x9_1).f0).toList) a1.toList)), (by first | rfl | (simp; done) | (simp [*]; done)), H', ⟨by have := HK1.out; first | omega | exact Nat.le_refl _⟩, ⟨by (with_reducible repeat (first | apply Kd.R_alloc | apply Kd.R_drewN | apply Kd.R_drew)); exact HO_7.out⟩, ⟨by repeat (first | (with_reducible first | exact HB.out | apply below_alloc | apply pw_below_drewN | apply below_drew1) | exact HB.out)⟩⟩
      ·rw [if_neg c7] at H
       exact absurd H (by simp)
    case rest =>
     clear HC5
     try clear p2
     try clear q2
     try clear hx2
     try clear c4
     try clear c4b0
     try clear c6
     try clear c7
     try clear c7b0
     try clear hx238_0
     try clear hx238_1
     try clear p2
     try clear p238
     try clear q238
     obtain ⟨kq, x26_4, rfl, HA, HJ4, HO_7, HB⟩ := hcut
     cases kq with
     | zero => exact absurd HA.out (by simp [ref06_put.j1])
     | succ kj4 =>
      have H := HA.out
      clear HA
      simp only [ref06_put.j1] at H
      by_cases c8 : x26_4 = true
      ·subst c8
       have H1 : (if a2 = 0 then (if 0 ≤ x9_1 then (if x9_1 < (l0.length : Int) then (if ((rd_T73 l0 x9_1).f0).toList = a1.toList then (ref06_put.l0 kj4 l0 a1 a2 x7_1 true (wrap64 (x9_1 + 1))) else (if x7_1.length < 5864062014805 then (ref06_put.l0 kj4 l0 a1 a2 (x7_1 ++ [(⟨(rd_T73 l0 x9_1).f0, (rd_T73 l0 x9_1).f1⟩ : S73)]) true (wrap64 (x9_1 + 1))) else (none))) else (none)) else (none)) else (if x7_1.length < 5864062014805 then ((some (x7_1 ++ [(⟨a1, a2⟩ : S73)] : List (S73))).bind fun y244 => (if 0 ≤ x9_1 then (if x9_1 < (l0.length : Int) then (if ((rd_T73 l0 x9_1).f0).toList = a1.toList then (ref06_put.l0 kj4 l0 a1 a2 y244 true (wrap64 (x9_1 + 1))) else (if y244.length < 5864062014805 then (ref06_put.l0 kj4 l0 a1 a2 (y244 ++ [(⟨(rd_T73 l0 x9_1).f0, (rd_T73 l0 x9_1).f1⟩ : S73)]) true (wrap64 (x9_1 + 1))) else (none))) else (none)) else (none))) else (none))) = some r := by rw [if_pos rfl] at H; exact H
       clear H
       have H := H1
       clear H1
       by_cases c9 : a2 = 0
       ·rw [if_pos c9] at H
        have c9b0 : (a2 == 0) = true := beq_iff_eq.mpr c9
        have c9b1 : (a2 != 0) = false := bne_eq_false_iff_eq.mpr c9
        clear c9
        by_cases c10 : 0 ≤ x9_1
        ·rw [if_pos c10] at H
         have c10b0 : decide (0 ≤ x9_1) = true := decide_eq_true c10
         clear c10
         by_cases c11 : x9_1 < (l0.length : Int)
         ·rw [if_pos c11] at H
          have c11b0 : decide (x9_1 < (l0.length : Int)) = true := decide_eq_true c11
          clear c11
          by_cases c12 : ((rd_T73 l0 x9_1).f0).toList = a1.toList
          ·rw [if_pos c12] at H
           have c12b0 : (((rd_T73 l0 x9_1).f0).toList == a1.toList) = true := beq_iff_eq.mpr c12
           have c12b1 : (((rd_T73 l0 x9_1).f0).toList != a1.toList) = false := bne_eq_false_iff_eq.mpr c12
           clear c12
           have H' := Aside0.mk H
           clear H
           have p239 : 0 ≤ (x9_1 : Int) := of_decide_eq_true (by first | (with_reducible assumption) | assumption)
           have q239 : x9_1 < (l0.length : Int) := of_decide_eq_true (by first | (with_reducible assumption) | assumption)
           obtain ⟨ad239, e239, hx239_0, hx239_1⟩ := at_T73 HR0.out x9_1 p239 q239
           cases e239
           replace hx239_0 := (HB.out.cell (World.block_lt_of_cell? w _ hx239_0)).trans hx239_0
           replace hx239_1 := (HB.out.cell (World.block_lt_of_cell? w _ hx239_1)).trans hx239_1
           replace p239 := eq_true p239
           replace q239 := eq_true q239
           go_wp2
           go_roundg kj4
           case measure => have := HK1.out; have := HJ4.out; omega
           case rel => exact ⟨(x7_1), (true), (wrap64 (x9_1 + 1)), (by first | rfl | (simp; done) | (simp [*]; done)), (by first | rfl | (simp; done) | (simp [*]; done)), H', ⟨by have := HK1.out; have := HJ4.out; omega⟩, ⟨by (with_reducible repeat (first | apply Kd.R_alloc | apply Kd.R_drewN | apply Kd.R_drew)); exact HO_7.out⟩, ⟨by repeat (first | (with_reducible first | exact HB.out | apply below_alloc | apply pw_below_drewN | apply below_drew1) | exact HB.out)⟩⟩
          ·rw [if_neg c12] at H
           have c12b0 : (((rd_T73 l0 x9_1).f0).toList == a1.toList) = false := beq_eq_false_iff_ne.mpr c12
           have c12b1 : (((rd_T73 l0 x9_1).f0).toList != a1.toList) = true := bne_iff_ne.mpr c12
           by_cases c13 : x7_1.length < 5864062014805
           ·rw [if_pos c13] at H
            have LMc13 := Aside0.mk c13
            clear c13
            obtain ⟨y241, hy241⟩ : ∃ y_ : List (S73), y_ = (x7_1 ++ [(⟨(rd_T73 l0 x9_1).f0, (rd_T73 l0 x9_1).f1⟩ : S73)]) := ⟨_, rfl⟩
            replace H : (ref06_put.l0 kj4 l0 a1 a2 y241 true (wrap64 (x9_1 + 1))) = some r := by first | (rw [hy241]; with_reducible exact H) | (have H2_ := (Option.bind_some _ _).symm.trans H; rw [hy241]; with_reducible exact H2_) | (have H2_ := (Option.bind_some _ _).symm.trans H; with_reducible exact H2_) | with_reducible exact H | (rw [hy241]; exact H) | exact H
            have Ny241 := Aside0.mk hy241
            clear hy241
            have H' := Aside0.mk H
            clear H
            have p239 : 0 ≤ (x9_1 : Int) := of_decide_eq_true (by first | (with_reducible assumption) | assumption)
            have q239 : x9_1 < (l0.length : Int) := of_decide_eq_true (by first | (with_reducible assumption) | assumption)
            obtain ⟨ad239, e239, hx239_0, hx239_1⟩ := at_T73 HR0.out x9_1 p239 q239
            cases e239
            replace hx239_0 := (HB.out.cell (World.block_lt_of_cell? w _ hx239_0)).trans hx239_0
            replace hx239_1 := (HB.out.cell (World.block_lt_of_cell? w _ hx239_1)).trans hx239_1
            replace p239 := eq_true p239
            replace q239 := eq_true q239
            have p240 : 0 ≤ (x9_1 : Int) := of_decide_eq_true (by first | (with_reducible assumption) | assumption)
            have q240 : x9_1 < (l0.length : Int) := of_decide_eq_true (by first | (with_reducible assumption) | assumption)
            obtain ⟨ad240, e240, hx240_0, hx240_1⟩ := at_T73 HR0.out x9_1 p240 q240
            obtain rfl : ad239 = ad240 := (by injection e240)
            replace hx240_0 := (HB.out.cell (World.block_lt_of_cell? w _ hx240_0)).trans hx240_0
            replace hx240_1 := (HB.out.cell (World.block_lt_of_cell? w _ hx240_1)).trans hx240_1
            replace p240 := eq_true p240
            replace q240 := eq_true q240
            go_wp2_with (first | ((with_reducible refine gate_builtin (b := .append) (xs := #[.tmp 42, .tmp 47]) rfl ?_); at_builtin; refine Kd.R_append k73 (w0 := w) w.heap.size rfl (.tmp 42) (.tmp 47) 22 73 (.agg #[(.string ⟨#[]⟩), (.int .i64 0)]) 24 rfl Tryz.underlying22 info73 rfl (by decide) (by omega) u7 x7_1 (⟨(rd_T73 l0 x9_1).f0, (rd_T73 l0 x9_1).f1⟩ : S73) [.string ((rd_T73 l0 x9_1).f0), .int .i64 ((rd_T73 l0 x9_1).f1)] (fun _ => True) (fun _ => False) rfl rfl ?aP (fun _ hk => hk.elim) ?aF ?aO ?aB ?aS ?aL ?_; (case aP => exact k73_mkM _ _ _ (⟨(rd_T73 l0 x9_1).f0, (rd_T73 l0 x9_1).f1⟩ : S73)); (case aB => exact (by repeat (first | (with_reducible first | exact HB.out | apply below_alloc | apply pw_below_drewN | apply below_drew1) | exact HB.out))); (case aF => exact (fun _ _ => trivial)); (case aO => exact (by (with_reducible repeat (first | apply Kd.R_alloc | apply Kd.R_drewN | apply Kd.R_drew)); exact HO_7.out)); (case aS => exact (below_size (by repeat (first | (with_reducible first | exact HB.out | apply below_alloc | apply pw_below_drewN | apply below_drew1) | exact HB.out)))); (case aL => have := LMc13.out; omega); intro v242 w14 ho hb hg hat; rw [← Ny241.out] at ho; have n0_ := Aside0.mk (hb); have n1_ := Aside0.mk (ho); clear HB; clear HO_7; have HB := n0_; have HO243 := n1_; clear n0_ n1_; clear ho hb hg hat))
            go_roundg kj4
            case measure => have := HK1.out; have := HJ4.out; omega
            case rel => exact ⟨(y241), (true), (wrap64 (x9_1 + 1)), (by first | rfl | (simp; done) | (simp [*]; done)), (by first | rfl | (simp; done) | (simp [*]; done)), H', ⟨by have := HK1.out; have := HJ4.out; omega⟩, ⟨by (with_reducible repeat (first | apply Kd.R_alloc | apply Kd.R_drewN | apply Kd.R_drew)); exact HO243.out⟩, ⟨by repeat (first | (with_reducible first | exact HB.out | apply below_alloc | apply pw_below_drewN | apply below_drew1) | exact HB.out)⟩⟩
           ·rw [if_neg c13] at H
            exact absurd H (by simp)
         ·rw [if_neg c11] at H
          exact absurd H (by simp)
        ·rw [if_neg c10] at H
         exact absurd H (by simp)
       ·rw [if_neg c9] at H
        have c9b0 : (a2 == 0) = false := beq_eq_false_iff_ne.mpr c9
        have c9b1 : (a2 != 0) = true := bne_iff_ne.mpr c9
        by_cases c15 : x7_1.length < 5864062014805
        ·rw [if_pos c15] at H
         have LMc15 := Aside0.mk c15
         clear c15
         obtain ⟨y244, hy244⟩ : ∃ y_ : List (S73), y_ = (x7_1 ++ [(⟨a1, a2⟩ : S73)]) := ⟨_, rfl⟩
         replace H : (if 0 ≤ x9_1 then (if x9_1 < (l0.length : Int) then (if ((rd_T73 l0 x9_1).f0).toList = a1.toList then (ref06_put.l0 kj4 l0 a1 a2 y244 true (wrap64 (x9_1 + 1))) else (if y244.length < 5864062014805 then (ref06_put.l0 kj4 l0 a1 a2 (y244 ++ [(⟨(rd_T73 l0 x9_1).f0, (rd_T73 l0 x9_1).f1⟩ : S73)]) true (wrap64 (x9_1 + 1))) else (none))) else (none)) else (none)) = some r := by first | (rw [hy244]; with_reducible exact H) | (have H2_ := (Option.bind_some _ _).symm.trans H; rw [hy244]; with_reducible exact H2_) | (have H2_ := (Option.bind_some _ _).symm.trans H; with_reducible exact H2_) | with_reducible exact H | (rw [hy244]; exact H) | exact H
         have Ny244 := Aside0.mk hy244
         clear hy244
         by_cases c16 : 0 ≤ x9_1
         ·rw [if_pos c16] at H
          have c16b0 : decide (0 ≤ x9_1) = true := decide_eq_true c16
          clear c16
          by_cases c17 : x9_1 < (l0.length : Int)
          ·rw [if_pos c17] at H
           have c17b0 : decide (x9_1 < (l0.length : Int)) = true := decide_eq_true c17
           clear c17
           by_cases c18 : ((rd_T73 l0 x9_1).f0).toList = a1.toList
           ·rw [if_pos c18] at H
            have c18b0 : (((rd_T73 l0 x9_1).f0).toList == a1.toList) = true := beq_iff_eq.mpr c18
            have c18b1 : (((rd_T73 l0 x9_1).f0).toList != a1.toList) = false := bne_eq_false_iff_eq.mpr c18
            clear c18
            have H' := Aside0.mk H
            clear H
            go_wp2_with (first | ((with_reducible refine gate_builtin (b := .append) (xs := #[.tmp 29, .tmp 33]) rfl ?_); at_builtin; refine Kd.R_append k73 (w0 := w) w.heap.size rfl (.tmp 29) (.tmp 33) 22 73 (.agg #[(.string ⟨#[]⟩), (.int .i64 0)]) 24 rfl Tryz.underlying22 info73 rfl (by decide) (by omega) u7 x7_1 (⟨a1, a2⟩ : S73) [.string a1, .int .i64 a2] (fun _ => True) (fun _ => False) rfl rfl ?aP (fun _ hk => hk.elim) ?aF ?aO ?aB ?aS ?aL ?_; (case aP => exact k73_mkM _ _ _ (⟨a1, a2⟩ : S73)); (case aB => exact (by repeat (first | (with_reducible first | exact HB.out | apply below_alloc | apply pw_below_drewN | apply below_drew1) | exact HB.out))); (case aF => exact (fun _ _ => trivial)); (case aO => exact (by (with_reducible repeat (first | apply Kd.R_alloc | apply Kd.R_drewN | apply Kd.R_drew)); exact HO_7.out)); (case aS => exact (below_size (by repeat (first | (with_reducible first | exact HB.out | apply below_alloc | apply pw_below_drewN | apply below_drew1) | exact HB.out)))); (case aL => have := LMc15.out; omega); intro v245 w19 ho hb hg hat; rw [← Ny244.out] at ho; have n0_ := Aside0.mk (hb); have n1_ := Aside0.mk (ho); clear HB; clear HO_7; have HB := n0_; have HO246 := n1_; clear n0_ n1_; clear ho hb hg hat; have p247 : 0 ≤ (x9_1 : Int) := of_decide_eq_true (by first | (with_reducible assumption) | assumption); have q247 : x9_1 < (l0.length : Int) := of_decide_eq_true (by first | (with_reducible assumption) | assumption); obtain ⟨ad247, e247, hx247_0, hx247_1⟩ := at_T73 HR0.out x9_1 p247 q247; cases e247; replace hx247_0 := (HB.out.cell (World.block_lt_of_cell? w _ hx247_0)).trans hx247_0; replace hx247_1 := (HB.out.cell (World.block_lt_of_cell? w _ hx247_1)).trans hx247_1; replace p247 := eq_true p247; replace q247 := eq_true q247))
            go_roundg kj4
            case measure => have := HK1.out; have := HJ4.out; omega
            case rel => exact ⟨(y244), (true), (wrap64 (x9_1 + 1)), (by first | rfl | (simp; done) | (simp [*]; done)), (by first | rfl | (simp; done) | (simp [*]; done)), H', ⟨by have := HK1.out; have := HJ4.out; omega⟩, ⟨by (with_reducible repeat (first | apply Kd.R_alloc | apply Kd.R_drewN | apply Kd.R_drew)); exact HO246.out⟩, ⟨by repeat (first | (with_reducible first | exact HB.out | apply below_alloc | apply pw_below_drewN | apply below_drew1) | exact HB.out)⟩⟩
           ·rw [if_neg c18] at H
            have c18b0 : (((rd_T73 l0 x9_1).f0).toList == a1.toList) = false := beq_eq_false_iff_ne.mpr c18
            have c18b1 : (((rd_T73 l0 x9_1).f0).toList != a1.toList) = true := bne_iff_ne.mpr c18
            by_cases c20 : y244.length < 5864062014805
            ·rw [if_pos c20] at H
             have LMc20 := Aside0.mk c20
             clear c20
             obtain ⟨y249, hy249⟩ : ∃ y_ : List (S73), y_ = (y244 ++ [(⟨(rd_T73 l0 x9_1).f0, (rd_T73 l0 x9_1).f1⟩ : S73)]) := ⟨_, rfl⟩
             replace H : (ref06_put.l0 kj4 l0 a1 a2 y249 true (wrap64 (x9_1 + 1))) = some r := by first | (rw [hy249]; with_reducible exact H) | (have H2_ := (Option.bind_some _ _).symm.trans H; rw [hy249]; with_reducible exact H2_) | (have H2_ := (Option.bind_some _ _).symm.trans H; with_reducible exact H2_) | with_reducible exact H | (rw [hy249]; exact H) | exact H
             have Ny249 := Aside0.mk hy249
             clear hy249
             have H' := Aside0.mk H
             clear H
             go_wp2_with (first | ((with_reducible refine gate_builtin (b := .append) (xs := #[.tmp 29, .tmp 33]) rfl ?_); at_builtin; refine Kd.R_append k73 (w0 := w) w.heap.size rfl (.tmp 29) (.tmp 33) 22 73 (.agg #[(.string ⟨#[]⟩), (.int .i64 0)]) 24 rfl Tryz.underlying22 info73 rfl (by decide) (by omega) u7 x7_1 (⟨a1, a2⟩ : S73) [.string a1, .int .i64 a2] (fun _ => True) (fun _ => False) rfl rfl ?aP (fun _ hk => hk.elim) ?aF ?aO ?aB ?aS ?aL ?_; (case aP => exact k73_mkM _ _ _ (⟨a1, a2⟩ : S73)); (case aB => exact (by repeat (first | (with_reducible first | exact HB.out | apply below_alloc | apply pw_below_drewN | apply below_drew1) | exact HB.out))); (case aF => exact (fun _ _ => trivial)); (case aO => exact (by (with_reducible repeat (first | apply Kd.R_alloc | apply Kd.R_drewN | apply Kd.R_drew)); exact HO_7.out)); (case aS => exact (below_size (by repeat (first | (with_reducible first | exact HB.out | apply below_alloc | apply pw_below_drewN | apply below_drew1) | exact HB.out)))); (case aL => have := LMc15.out; omega); intro v245 w21 ho hb hg hat; rw [← Ny244.out] at ho; have n0_ := Aside0.mk (hb); have n1_ := Aside0.mk (ho); clear HB; clear HO_7; have HB := n0_; have HO246 := n1_; clear n0_ n1_; clear ho hb hg hat; have p247 : 0 ≤ (x9_1 : Int) := of_decide_eq_true (by first | (with_reducible assumption) | assumption); have q247 : x9_1 < (l0.length : Int) := of_decide_eq_true (by first | (with_reducible assumption) | assumption); obtain ⟨ad247, e247, hx247_0, hx247_1⟩ := at_T73 HR0.out x9_1 p247 q247; cases e247; replace hx247_0 := (HB.out.cell (World.block_lt_of_cell? w _ hx247_0)).trans hx247_0; replace hx247_1 := (HB.out.cell (World.block_lt_of_cell? w _ hx247_1)).trans hx247_1; replace p247 := eq_true p247; replace q247 := eq_true q247; have p248 : 0 ≤ (x9_1 : Int) := of_decide_eq_true (by first | (with_reducible assumption) | assumption); have q248 : x9_1 < (l0.length : Int) := of_decide_eq_true (by first | (with_reducible assumption) | assumption); obtain ⟨ad248, e248, hx248_0, hx248_1⟩ := at_T73 HR0.out x9_1 p248 q248; obtain rfl : ad247 = ad248 := (by injection e248); replace hx248_0 := (HB.out.cell (World.block_lt_of_cell? w _ hx248_0)).trans hx248_0; replace hx248_1 := (HB.out.cell (World.block_lt_of_cell? w _ hx248_1)).trans hx248_1; replace p248 := eq_true p248; replace q248 := eq_true q248) | ((with_reducible refine gate_builtin (b := .append) (xs := #[.tmp 42, .tmp 47]) rfl ?_); at_builtin; refine Kd.R_append k73 (w0 := w) w.heap.size rfl (.tmp 42) (.tmp 47) 22 73 (.agg #[(.string ⟨#[]⟩), (.int .i64 0)]) 24 rfl Tryz.underlying22 info73 rfl (by decide) (by omega) v245 y244 (⟨(rd_T73 l0 x9_1).f0, (rd_T73 l0 x9_1).f1⟩ : S73) [.string ((rd_T73 l0 x9_1).f0), .int .i64 ((rd_T73 l0 x9_1).f1)] (fun _ => True) (fun _ => False) rfl rfl ?aP (fun _ hk => hk.elim) ?aF ?aO ?aB ?aS ?aL ?_; (case aP => exact k73_mkM _ _ _ (⟨(rd_T73 l0 x9_1).f0, (rd_T73 l0 x9_1).f1⟩ : S73)); (case aB => exact (by repeat (first | (with_reducible first | exact HB.out | apply below_alloc | apply pw_below_drewN | apply below_drew1) | exact HB.out))); (case aF => exact (fun _ _ => trivial)); (case aO => exact (by (with_reducible repeat (first | apply Kd.R_alloc | apply Kd.R_drewN | apply Kd.R_drew)); exact HO246.out)); (case aS => exact (below_size (by repeat (first | (with_reducible first | exact HB.out | apply below_alloc | apply pw_below_drewN | apply below_drew1) | exact HB.out)))); (case aL => have := LMc20.out; omega); intro v250 w22 ho hb hg hat; rw [← Ny249.out] at ho; have n0_ := Aside0.mk (hb); have n1_ := Aside0.mk (ho); clear HB; clear HO246; have HB := n0_; have HO251 := n1_; clear n0_ n1_; clear ho hb hg hat))
             go_roundg kj4
             case measure => have := HK1.out; have := HJ4.out; omega
             case rel => exact ⟨(y249), (true), (wrap64 (x9_1 + 1)), (by first | rfl | (simp; done) | (simp [*]; done)), (by first | rfl | (simp; done) | (simp [*]; done)), H', ⟨by have := HK1.out; have := HJ4.out; omega⟩, ⟨by (with_reducible repeat (first | apply Kd.R_alloc | apply Kd.R_drewN | apply Kd.R_drew)); exact HO251.out⟩, ⟨by repeat (first | (with_reducible first | exact HB.out | apply below_alloc | apply pw_below_drewN | apply below_drew1) | exact HB.out)⟩⟩
            ·rw [if_neg c20] at H
             exact absurd H (by simp)
          ·rw [if_neg c17] at H
           exact absurd H (by simp)
         ·rw [if_neg c16] at H
          exact absurd H (by simp)
        ·rw [if_neg c15] at H
         exact absurd H (by simp)
      ·replace c8 := Bool.eq_false_iff.mpr c8
       subst c8
       have H1 : (if 0 ≤ x9_1 then (if x9_1 < (l0.length : Int) then (if ((rd_T73 l0 x9_1).f0).toList = a1.toList then (ref06_put.l0 kj4 l0 a1 a2 x7_1 x8_1 (wrap64 (x9_1 + 1))) else (if x7_1.length < 5864062014805 then (ref06_put.l0 kj4 l0 a1 a2 (x7_1 ++ [(⟨(rd_T73 l0 x9_1).f0, (rd_T73 l0 x9_1).f1⟩ : S73)]) x8_1 (wrap64 (x9_1 + 1))) else (none))) else (none)) else (none)) = some r := by rw [if_neg (show ¬ (false = true) by decide)] at H; exact H
       clear H
       have H := H1
       clear H1
       by_cases c23 : 0 ≤ x9_1
       ·rw [if_pos c23] at H
        have c23b0 : decide (0 ≤ x9_1) = true := decide_eq_true c23
        clear c23
        by_cases c24 : x9_1 < (l0.length : Int)
        ·rw [if_pos c24] at H
         have c24b0 : decide (x9_1 < (l0.length : Int)) = true := decide_eq_true c24
         clear c24
         by_cases c25 : ((rd_T73 l0 x9_1).f0).toList = a1.toList
         ·rw [if_pos c25] at H
          have c25b0 : (((rd_T73 l0 x9_1).f0).toList == a1.toList) = true := beq_iff_eq.mpr c25
          have c25b1 : (((rd_T73 l0 x9_1).f0).toList != a1.toList) = false := bne_eq_false_iff_eq.mpr c25
          clear c25
          have H' := Aside0.mk H
          clear H
          have p252 : 0 ≤ (x9_1 : Int) := of_decide_eq_true (by first | (with_reducible assumption) | assumption)
          have q252 : x9_1 < (l0.length : Int) := of_decide_eq_true (by first | (with_reducible assumption) | assumption)
          obtain ⟨ad252, e252, hx252_0, hx252_1⟩ := at_T73 HR0.out x9_1 p252 q252
          cases e252
          replace hx252_0 := (HB.out.cell (World.block_lt_of_cell? w _ hx252_0)).trans hx252_0
          replace hx252_1 := (HB.out.cell (World.block_lt_of_cell? w _ hx252_1)).trans hx252_1
          replace p252 := eq_true p252
          replace q252 := eq_true q252
          go_wp2
          go_roundg kj4
          case measure => have := HK1.out; have := HJ4.out; omega
          case rel => exact ⟨(x7_1), (x8_1), (wrap64 (x9_1 + 1)), (by first | rfl | (simp; done) | (simp [*]; done)), (by first | rfl | (simp; done) | (simp [*]; done)), H', ⟨by have := HK1.out; have := HJ4.out; omega⟩, ⟨by (with_reducible repeat (first | apply Kd.R_alloc | apply Kd.R_drewN | apply Kd.R_drew)); exact HO_7.out⟩, ⟨by repeat (first | (with_reducible first | exact HB.out | apply below_alloc | apply pw_below_drewN | apply below_drew1) | exact HB.out)⟩⟩
         ·rw [if_neg c25] at H
          have c25b0 : (((rd_T73 l0 x9_1).f0).toList == a1.toList) = false := beq_eq_false_iff_ne.mpr c25
          have c25b1 : (((rd_T73 l0 x9_1).f0).toList != a1.toList) = true := bne_iff_ne.mpr c25
          by_cases c26 : x7_1.length < 5864062014805
          ·rw [if_pos c26] at H
           have LMc26 := Aside0.mk c26
           clear c26
           obtain ⟨y254, hy254⟩ : ∃ y_ : List (S73), y_ = (x7_1 ++ [(⟨(rd_T73 l0 x9_1).f0, (rd_T73 l0 x9_1).f1⟩ : S73)]) := ⟨_, rfl⟩
           replace H : (ref06_put.l0 kj4 l0 a1 a2 y254 x8_1 (wrap64 (x9_1 + 1))) = some r := by first | (rw [hy254]; with_reducible exact H) | (have H2_ := (Option.bind_some _ _).symm.trans H; rw [hy254]; with_reducible exact H2_) | (have H2_ := (Option.bind_some _ _).symm.trans H; with_reducible exact H2_) | with_reducible exact H | (rw [hy254]; exact H) | exact H
           have Ny254 := Aside0.mk hy254
           clear hy254
           have H' := Aside0.mk H
           clear H
           have p252 : 0 ≤ (x9_1 : Int) := of_decide_eq_true (by first | (with_reducible assumption) | assumption)
           have q252 : x9_1 < (l0.length : Int) := of_decide_eq_true (by first | (with_reducible assumption) | assumption)
           obtain ⟨ad252, e252, hx252_0, hx252_1⟩ := at_T73 HR0.out x9_1 p252 q252
           cases e252
           replace hx252_0 := (HB.out.cell (World.block_lt_of_cell? w _ hx252_0)).trans hx252_0
           replace hx252_1 := (HB.out.cell (World.block_lt_of_cell? w _ hx252_1)).trans hx252_1
           replace p252 := eq_true p252
           replace q252 := eq_true q252
           have p253 : 0 ≤ (x9_1 : Int) := of_decide_eq_true (by first | (with_reducible assumption) | assumption)
           have q253 : x9_1 < (l0.length : Int) := of_decide_eq_true (by first | (with_reducible assumption) | assumption)
           obtain ⟨ad253, e253, hx253_0, hx253_1⟩ := at_T73 HR0.out x9_1 p253 q253
           obtain rfl : ad252 = ad253 := (by injection e253)
           replace hx253_0 := (HB.out.cell (World.block_lt_of_cell? w _ hx253_0)).trans hx253_0
           replace hx253_1 := (HB.out.cell (World.block_lt_of_cell? w _ hx253_1)).trans hx253_1
           replace p253 := eq_true p253
           replace q253 := eq_true q253
           go_wp2_with (first | ((with_reducible refine gate_builtin (b := .append) (xs := #[.tmp 42, .tmp 47]) rfl ?_); at_builtin; refine Kd.R_append k73 (w0 := w) w.heap.size rfl (.tmp 42) (.tmp 47) 22 73 (.agg #[(.string ⟨#[]⟩), (.int .i64 0)]) 24 rfl Tryz.underlying22 info73 rfl (by decide) (by omega) u7 x7_1 (⟨(rd_T73 l0 x9_1).f0, (rd_T73 l0 x9_1).f1⟩ : S73) [.string ((rd_T73 l0 x9_1).f0), .int .i64 ((rd_T73 l0 x9_1).f1)] (fun _ => True) (fun _ => False) rfl rfl ?aP (fun _ hk => hk.elim) ?aF ?aO ?aB ?aS ?aL ?_; (case aP => exact k73_mkM _ _ _ (⟨(rd_T73 l0 x9_1).f0, (rd_T73 l0 x9_1).f1⟩ : S73)); (case aB => exact (by repeat (first | (with_reducible first | exact HB.out | apply below_alloc | apply pw_below_drewN | apply below_drew1) | exact HB.out))); (case aF => exact (fun _ _ => trivial)); (case aO => exact (by (with_reducible repeat (first | apply Kd.R_alloc | apply Kd.R_drewN | apply Kd.R_drew)); exact HO_7.out)); (case aS => exact (below_size (by repeat (first | (with_reducible first | exact HB.out | apply below_alloc | apply pw_below_drewN | apply below_drew1) | exact HB.out)))); (case aL => have := LMc26.out; omega); intro v255 w27 ho hb hg hat; rw [← Ny254.out] at ho; have n0_ := Aside0.mk (hb); have n1_ := Aside0.mk (ho); clear HB; clear HO_7; have HB := n0_; have HO256 := n1_; clear n0_ n1_; clear ho hb hg hat))
           go_roundg kj4
           case measure => have := HK1.out; have := HJ4.out; omega
           case rel => exact ⟨(y254), (x8_1), (wrap64 (x9_1 + 1)), (by first | rfl | (simp; done) | (simp [*]; done)), (by first | rfl | (simp; done) | (simp [*]; done)), H', ⟨by have := HK1.out; have := HJ4.out; omega⟩, ⟨by (with_reducible repeat (first | apply Kd.R_alloc | apply Kd.R_drewN | apply Kd.R_drew)); exact HO256.out⟩, ⟨by repeat (first | (with_reducible first | exact HB.out | apply below_alloc | apply pw_below_drewN | apply below_drew1) | exact HB.out)⟩⟩
          ·rw [if_neg c26] at H
           exact absurd H (by simp)
        ·rw [if_neg c24] at H
         exact absurd H (by simp)
       ·rw [if_neg c23] at H
        exact absurd H (by simp)
   ·rw [if_neg c4] at H
    have c4b0 : decide (x9_1 < (l0.length : Int)) = false := decide_eq_false c4
    clear c4
    by_cases c28 : x8_1 = true
    ·subst c28
     have H1 : (some x7_1) = some r := by rw [if_pos rfl] at H; exact H
     clear H
     have H := H1
     clear H1
     obtain rfl := Option.some.inj H
     go_wp2
     go_ret
     exact ⟨_, by first | rfl | (simp [errW_none, errW_some] <;> rfl) | (simp [*, errW_none, errW_some] <;> rfl), by (with_reducible repeat (first | apply Kd.R_alloc | apply Kd.R_drewN | apply Kd.R_drew)); exact HO_7.out, by repeat (first | (with_reducible first | exact HB.out | apply below_alloc | apply pw_below_drewN | apply below_drew1) | exact HB.out)⟩
    ·replace c28 := Bool.eq_false_iff.mpr c28
     subst c28
     have H1 : (if a2 = 0 then (some x7_1) else (if x7_1.length < 5864062014805 then (some (x7_1 ++ [(⟨a1, a2⟩ : S73)])) else (none))) = some r := by rw [if_neg (show ¬ (false = true) by decide)] at H; exact H
     clear H
     have H := H1
     clear H1
     by_cases c29 : a2 = 0
     ·rw [if_pos c29] at H
      have c29b0 : (a2 == 0) = true := beq_iff_eq.mpr c29
      have c29b1 : (a2 != 0) = false := bne_eq_false_iff_eq.mpr c29
      clear c29
      obtain rfl := Option.some.inj H
      go_wp2
      go_ret
      exact ⟨_, by first | rfl | (simp [errW_none, errW_some] <;> rfl) | (simp [*, errW_none, errW_some] <;> rfl), by (with_reducible repeat (first | apply Kd.R_alloc | apply Kd.R_drewN | apply Kd.R_drew)); exact HO_7.out, by repeat (first | (with_reducible first | exact HB.out | apply below_alloc | apply pw_below_drewN | apply below_drew1) | exact HB.out)⟩
     ·rw [if_neg c29] at H
      have c29b0 : (a2 == 0) = false := beq_eq_false_iff_ne.mpr c29
      have c29b1 : (a2 != 0) = true := bne_iff_ne.mpr c29
      by_cases c30 : x7_1.length < 5864062014805
      ·rw [if_pos c30] at H
       have LMc30 := Aside0.mk c30
       clear c30
       obtain ⟨y235, hy235⟩ : ∃ y_ : List (S73), y_ = (x7_1 ++ [(⟨a1, a2⟩ : S73)]) := ⟨_, rfl⟩
       replace H : (some y235) = some r := by first | (rw [hy235]; with_reducible exact H) | (have H2_ := (Option.bind_some _ _).symm.trans H; rw [hy235]; with_reducible exact H2_) | (have H2_ := (Option.bind_some _ _).symm.trans H; with_reducible exact H2_) | with_reducible exact H | (rw [hy235]; exact H) | exact H
       have Ny235 := Aside0.mk hy235
       clear hy235
       obtain rfl := Option.some.inj H
       go_wp2_with (first | ((with_reducible refine gate_builtin (b := .append) (xs := #[.tmp 55, .tmp 59]) rfl ?_); at_builtin; refine Kd.R_append k73 (w0 := w) w.heap.size rfl (.tmp 55) (.tmp 59) 22 73 (.agg #[(.string ⟨#[]⟩), (.int .i64 0)]) 24 rfl Tryz.underlying22 info73 rfl (by decide) (by omega) u7 x7_1 (⟨a1, a2⟩ : S73) [.string a1, .int .i64 a2] (fun _ => True) (fun _ => False) rfl rfl ?aP (fun _ hk => hk.elim) ?aF ?aO ?aB ?aS ?aL ?_; (case aP => exact k73_mkM _ _ _ (⟨a1, a2⟩ : S73)); (case aB => exact (by repeat (first | (with_reducible first | exact HB.out | apply below_alloc | apply pw_below_drewN | apply below_drew1) | exact HB.out))); (case aF => exact (fun _ _ => trivial)); (case aO => exact (by (with_reducible repeat (first | apply Kd.R_alloc | apply Kd.R_drewN | apply Kd.R_drew)); exact HO_7.out)); (case aS => exact (below_size (by repeat (first | (with_reducible first | exact HB.out | apply below_alloc | apply pw_below_drewN | apply below_drew1) | exact HB.out)))); (case aL => have := LMc30.out; omega); intro v236 w31 ho hb hg hat; rw [← Ny235.out] at ho; have n0_ := Aside0.mk (hb); have n1_ := Aside0.mk (ho); clear HB; clear HO_7; have HB := n0_; have HO237 := n1_; clear n0_ n1_; clear ho hb hg hat))
       go_ret
       exact ⟨_, by first | rfl | (simp [errW_none, errW_some] <;> rfl) | (simp [*, errW_none, errW_some] <;> rfl), by (with_reducible repeat (first | apply Kd.R_alloc | apply Kd.R_drewN | apply Kd.R_drew)); exact HO237.out, by repeat (first | (with_reducible first | exact HB.out | apply below_alloc | apply pw_below_drewN | apply below_drew1) | exact HB.out)⟩
      ·rw [if_neg c30] at H
       exact absurd H (by simp)

def ref06_Get.l0 : Nat → List (S73) → ByteArray → Int → Option (Int)
 | 0, _, _, _ => none
 | k + 1, x0, x1, x5 => if x5 < (x0.length : Int) then (if 0 ≤ x5 then (if ((rd_T73 x0 x5).f0).toList = x1.toList then (some ((rd_T73 x0 x5).f1)) else (ref06_Get.l0 k x0 x1 (wrap64 (x5 + 1)))) else (none)) else (some 0)
def ref06_Get.f (k : Nat) (l0 : List (S73)) (a1 : ByteArray) : Option (Int) := ref06_Get.l0 k l0 a1 0
theorem ref06_Get.mono_l : ∀ k, (∀ y0 y1 y2, LeO (ref06_Get.l0 k y0 y1 y2) (ref06_Get.l0 (k + 1) y0 y1 y2))
 | 0 => fun _ _ _ r h => by simp [ref06_Get.l0] at h
 | k + 1 => by
  have ih0 := ref06_Get.mono_l k
  ·intro y0 y1 y2
   unfold ref06_Get.l0
   repeat' first
   | (with_reducible exact ih0 _ _ _)
   | (with_reducible exact LeO.refl _)
   | (with_reducible exact LeO.none _)
   | (with_reducible refine LeO.ite ?_ ?_)
   | (with_reducible refine LeO.bind ?_ (fun _ => ?_))
   | exact ih0 _ _ _
   | exact LeO.none _
   | refine LeO.ite ?_ ?_
   | refine LeO.bind ?_ (fun _ => ?_)
theorem ref06_Get.mono : ∀ a0 a1 k, LeO (ref06_Get.f k a0 a1) (ref06_Get.f (k + 1) a0 a1) := by
 intro a0 a1 k
 have ih0 := ref06_Get.mono_l k
 unfold ref06_Get.f
 repeat' first
   | (with_reducible exact ih0 _ _ _)
   | (with_reducible exact LeO.refl _)
   | (with_reducible exact LeO.none _)
   | (with_reducible refine LeO.ite ?_ ?_)
   | (with_reducible refine LeO.bind ?_ (fun _ => ?_))
   | exact ih0 _ _ _
   | exact LeO.none _
   | refine LeO.ite ?_ ?_
   | refine LeO.bind ?_ (fun _ => ?_)
set_option maxHeartbeats 8000000 in
set_option maxRecDepth 100000 in
theorem ref06_Get.calls (k : Nat) (A0 : Option Addr) (c0 : Nat) (l0 : List (S73)) (a1 : ByteArray) (r : Int) (w : World) (hr0 : Kd.C k73 w A0 l0.length l0) (hc0 : l0.length ≤ c0) (h : ref06_Get.f k l0 a1 = some r) :
  Calls Tryz.prog 90 #[.slice A0 l0.length c0, .string a1] w fun e w' => e = .returned (.int .i64 r) ∧ Drawn0 w w' := by
 have HR0 := Aside0.mk hr0
 have HC0 := Aside0.mk hc0
 clear hr0 hc0
 have H : (ref06_Get.l0 k l0 a1 0) = some r := h
 clear h
 have H' := Aside0.mk H
 clear H
 go_enter Tryz.func90, Tryz.ntmps90
 go_wp2
 go_loopg [5] k (fun kq v5 w' => ∃ (x5_1 : Int), v5 = .int .i64 x5_1 ∧ Aside0 (ref06_Get.l0 kq l0 a1 x5_1 = some r) ∧ Aside0 (kq ≤ k) ∧ Drawn0 w w')
 case atStart => exact ⟨(0), (by first | rfl | (simp; done) | (simp [*]; done)), H', ⟨Nat.le_refl _⟩, by repeat (first | exact Drawn0.refl _ | apply Drawn0.step)⟩
 case round =>
  clear H'
  try clear p2
  obtain ⟨x5_1, rfl, HA, HK1, ⟨m1, rfl⟩⟩ := hrel
  cases gk with
  | zero => exact absurd HA.out (by simp [ref06_Get.l0])
  | succ k1 =>
   have H := HA.out
   clear HA
   simp only [ref06_Get.l0] at H
   by_cases c3 : x5_1 < (l0.length : Int)
   ·rw [if_pos c3] at H
    have c3b0 : decide (x5_1 < (l0.length : Int)) = true := decide_eq_true c3
    clear c3
    by_cases c4 : 0 ≤ x5_1
    ·rw [if_pos c4] at H
     have c4b0 : decide (0 ≤ x5_1) = true := decide_eq_true c4
     clear c4
     by_cases c5 : ((rd_T73 l0 x5_1).f0).toList = a1.toList
     ·rw [if_pos c5] at H
      have c5b0 : (((rd_T73 l0 x5_1).f0).toList == a1.toList) = true := beq_iff_eq.mpr c5
      have c5b1 : (((rd_T73 l0 x5_1).f0).toList != a1.toList) = false := bne_eq_false_iff_eq.mpr c5
      clear c5
      obtain rfl := Option.some.inj H
      have p257 : 0 ≤ (x5_1 : Int) := of_decide_eq_true (by first | (with_reducible assumption) | assumption)
      have q257 : x5_1 < (l0.length : Int) := of_decide_eq_true (by first | (with_reducible assumption) | assumption)
      obtain ⟨ad257, e257, hx257_0, hx257_1⟩ := at_T73 HR0.out x5_1 p257 q257
      cases e257
      replace p257 := eq_true p257
      replace q257 := eq_true q257
      have p258 : 0 ≤ (x5_1 : Int) := of_decide_eq_true (by first | (with_reducible assumption) | assumption)
      have q258 : x5_1 < (l0.length : Int) := of_decide_eq_true (by first | (with_reducible assumption) | assumption)
      obtain ⟨ad258, e258, hx258_0, hx258_1⟩ := at_T73 HR0.out x5_1 p258 q258
      obtain rfl : ad257 = ad258 := (by injection e258)
      replace p258 := eq_true p258
      replace q258 := eq_true q258
      go_wp2
      go_ret
      exact ⟨by first | rfl | (simp; done) | (simp [*]; done), by repeat (first | exact Drawn0.refl _ | apply Drawn0.step)⟩
     ·rw [if_neg c5] at H
      have c5b0 : (((rd_T73 l0 x5_1).f0).toList == a1.toList) = false := beq_eq_false_iff_ne.mpr c5
      have c5b1 : (((rd_T73 l0 x5_1).f0).toList != a1.toList) = true := bne_iff_ne.mpr c5
      have H' := Aside0.mk H
      clear H
      have p257 : 0 ≤ (x5_1 : Int) := of_decide_eq_true (by first | (with_reducible assumption) | assumption)
      have q257 : x5_1 < (l0.length : Int) := of_decide_eq_true (by first | (with_reducible assumption) | assumption)
      obtain ⟨ad257, e257, hx257_0, hx257_1⟩ := at_T73 HR0.out x5_1 p257 q257
      cases e257
      replace p257 := eq_true p257
      replace q257 := eq_true q257
      go_wp2
      go_roundg k1
      case measure => have := HK1.out; omega
      case rel => exact ⟨(wrap64 (x5_1 + 1)), (by first | rfl | (simp; done) | (simp [*]; done)), H', ⟨by have := HK1.out; omega⟩, by repeat (first | exact Drawn0.refl _ | apply Drawn0.step)⟩
    ·rw [if_neg c4] at H
     exact absurd H (by simp)
   ·rw [if_neg c3] at H
    have c3b0 : decide (x5_1 < (l0.length : Int)) = false := decide_eq_false c3
    clear c3
    obtain rfl := Option.some.inj H
    go_wp2
    go_ret
    exact ⟨by first | rfl | (simp; done) | (simp [*]; done), by repeat (first | exact Drawn0.refl _ | apply Drawn0.step)⟩

mutual
def ref06_Merge.j0 : Nat → List (S73) → List (S73) → List (S73) → Bool → Option ((List (S73)))
 | 0, _, _, _, _ => none
 | k + 1, x0, x1, x2, x29 => if x29 = true then (some ([] : List (S73))) else (if ([] : List (S73)).length + x0.length < 5864062014805 then ((some (([] : List (S73)) ++ x0 : List (S73))).bind fun y262 => (if y262.length + x1.length < 5864062014805 then ((some (y262 ++ x1 : List (S73))).bind fun y265 => (if y265.length + x2.length < 5864062014805 then (ref06_Merge.l0 k x0 x1 x2 (y265 ++ x2) ([] : List (S73)) 0) else (none))) else (none))) else (none))
def ref06_Merge.l0 : Nat → List (S73) → List (S73) → List (S73) → List (S73) → List (S73) → Int → Option ((List (S73)))
 | 0, _, _, _, _, _, _ => none
 | k + 1, x0, x1, x2, x10, x11, x12 => if x12 < (x10.length : Int) then (if 0 ≤ x12 then ((ref06_Get.f k x1 ((rd_T73 x10 x12).f0)).bind fun t272 => ((ref06_Get.f k x2 ((rd_T73 x10 x12).f0)).bind fun t273 => ((ref06_Get.f k x0 ((rd_T73 x10 x12).f0)).bind fun t274 => ((ref06_put.f k x11 ((rd_T73 x10 x12).f0) (wrap64 ((wrap64 (t272 + t273)) - t274))).bind fun t275 => (ref06_Merge.l0 k x0 x1 x2 x10 t275 (wrap64 (x12 + 1))))))) else (none)) else (some x11)
end
def ref06_Merge.f (k : Nat) (l0 : List (S73)) (l1 : List (S73)) (l2 : List (S73)) : Option ((List (S73))) := (ref06_May.f k l0).bind fun t259 => ((ref06_May.f k l1).bind fun t260 => ((ref06_May.f k l2).bind fun t261 => (if t259 = true then (if t260 = true then (ref06_Merge.j0 k l0 l1 l2 (!t261)) else (ref06_Merge.j0 k l0 l1 l2 true)) else (ref06_Merge.j0 k l0 l1 l2 true))))
theorem ref06_Merge.mono_l : ∀ k, (∀ y0 y1 y2 y3, LeO (ref06_Merge.j0 k y0 y1 y2 y3) (ref06_Merge.j0 (k + 1) y0 y1 y2 y3)) ∧ (∀ y0 y1 y2 y3 y4 y5, LeO (ref06_Merge.l0 k y0 y1 y2 y3 y4 y5) (ref06_Merge.l0 (k + 1) y0 y1 y2 y3 y4 y5))
 | 0 => ⟨fun _ _ _ _ r h => by simp [ref06_Merge.j0] at h, fun _ _ _ _ _ _ r h => by simp [ref06_Merge.l0] at h⟩
 | k + 1 => by
  obtain ⟨ih0, ih1⟩ := ref06_Merge.mono_l k
  refine ⟨?_, ?_⟩
  ·intro y0 y1 y2 y3
   unfold ref06_Merge.j0
   repeat' first
   | (with_reducible exact ih0 _ _ _ _)
   | (with_reducible exact ih1 _ _ _ _ _ _)
   | (with_reducible exact ref06_Get.mono _ _ _)
   | (with_reducible exact ref06_May.mono _ _)
   | (with_reducible exact ref06_put.mono _ _ _ _)
   | (with_reducible exact LeO.refl _)
   | (with_reducible exact LeO.none _)
   | (with_reducible refine LeO.ite ?_ ?_)
   | (with_reducible refine LeO.bind ?_ (fun _ => ?_))
   | exact ih0 _ _ _ _
   | exact ih1 _ _ _ _ _ _
   | exact ref06_Get.mono _ _ _
   | exact ref06_May.mono _ _
   | exact ref06_put.mono _ _ _ _
   | exact LeO.none _
   | refine LeO.ite ?_ ?_
   | refine LeO.bind ?_ (fun _ => ?_)
  ·intro y0 y1 y2 y3 y4 y5
   unfold ref06_Merge.l0
   repeat' first
   | (with_reducible exact ih0 _ _ _ _)
   | (with_reducible exact ih1 _ _ _ _ _ _)
   | (with_reducible exact ref06_Get.mono _ _ _)
   | (with_reducible exact ref06_May.mono _ _)
   | (with_reducible exact ref06_put.mono _ _ _ _)
   | (with_reducible exact LeO.refl _)
   | (with_reducible exact LeO.none _)
   | (with_reducible refine LeO.ite ?_ ?_)
   | (with_reducible refine LeO.bind ?_ (fun _ => ?_))
   | exact ih0 _ _ _ _
   | exact ih1 _ _ _ _ _ _
   | exact ref06_Get.mono _ _ _
   | exact ref06_May.mono _ _
   | exact ref06_put.mono _ _ _ _
   | exact LeO.none _
   | refine LeO.ite ?_ ?_
   | refine LeO.bind ?_ (fun _ => ?_)
theorem ref06_Merge.mono : ∀ a0 a1 a2 k, LeO (ref06_Merge.f k a0 a1 a2) (ref06_Merge.f (k + 1) a0 a1 a2) := by
 intro a0 a1 a2 k
 obtain ⟨ih0, ih1⟩ := ref06_Merge.mono_l k
 unfold ref06_Merge.f
 repeat' first
   | (with_reducible exact ih0 _ _ _ _)
   | (with_reducible exact ih1 _ _ _ _ _ _)
   | (with_reducible exact ref06_Get.mono _ _ _)
   | (with_reducible exact ref06_May.mono _ _)
   | (with_reducible exact ref06_put.mono _ _ _ _)
   | (with_reducible exact LeO.refl _)
   | (with_reducible exact LeO.none _)
   | (with_reducible refine LeO.ite ?_ ?_)
   | (with_reducible refine LeO.bind ?_ (fun _ => ?_))
   | exact ih0 _ _ _ _
   | exact ih1 _ _ _ _ _ _
   | exact ref06_Get.mono _ _ _
   | exact ref06_May.mono _ _
   | exact ref06_put.mono _ _ _ _
   | exact LeO.none _
   | refine LeO.ite ?_ ?_
   | refine LeO.bind ?_ (fun _ => ?_)
set_option maxHeartbeats 8000000 in
set_option maxRecDepth 100000 in
theorem ref06_Merge.calls (k : Nat) (A0 : Option Addr) (c0 : Nat) (l0 : List (S73)) (A1 : Option Addr) (c1 : Nat) (l1 : List (S73)) (A2 : Option Addr) (c2 : Nat) (l2 : List (S73)) (r : List (S73)) (w : World) (hr0 : Kd.C k73 w A0 l0.length l0) (hc0 : l0.length ≤ c0) (hr1 : Kd.C k73 w A1 l1.length l1) (hc1 : l1.length ≤ c1) (hr2 : Kd.C k73 w A2 l2.length l2) (hc2 : l2.length ≤ c2) (h : ref06_Merge.f k l0 l1 l2 = some r) :
  Calls Tryz.prog 64 #[.slice A0 l0.length c0, .slice A1 l1.length c1, .slice A2 l2.length c2] w fun e w' => ∃ v0_ : Value, e = .returned (v0_) ∧ Kd.R k73 73 w' w.heap.size (fun _ => True) v0_ r ∧ Below w.heap.size w w' := by
 have HR0 := Aside0.mk hr0
 have HC0 := Aside0.mk hc0
 clear hr0 hc0
 have HR1 := Aside0.mk hr1
 have HC1 := Aside0.mk hc1
 clear hr1 hc1
 have HR2 := Aside0.mk hr2
 have HC2 := Aside0.mk hc2
 clear hr2 hc2
 have HB := Aside0.mk (Below.refl w.heap.size w)
 have H : ((ref06_May.f k l0).bind fun t259 => ((ref06_May.f k l1).bind fun t260 => ((ref06_May.f k l2).bind fun t261 => (if t259 = true then (if t260 = true then (ref06_Merge.j0 k l0 l1 l2 (!t261)) else (ref06_Merge.j0 k l0 l1 l2 true)) else (ref06_Merge.j0 k l0 l1 l2 true))))) = some r := h
 clear h
 replace H := Option.bind_eq_some_iff.mp H
 obtain ⟨t259, A40, H⟩ := H
 replace H : ((ref06_May.f k l1).bind fun t260 => ((ref06_May.f k l2).bind fun t261 => (if t259 = true then (if t260 = true then (ref06_Merge.j0 k l0 l1 l2 (!t261)) else (ref06_Merge.j0 k l0 l1 l2 true)) else (ref06_Merge.j0 k l0 l1 l2 true)))) = some r := H
 have A4 := Aside0.mk A40
 clear A40
 replace H := Option.bind_eq_some_iff.mp H
 obtain ⟨t260, A50, H⟩ := H
 replace H : ((ref06_May.f k l2).bind fun t261 => (if t259 = true then (if t260 = true then (ref06_Merge.j0 k l0 l1 l2 (!t261)) else (ref06_Merge.j0 k l0 l1 l2 true)) else (ref06_Merge.j0 k l0 l1 l2 true))) = some r := H
 have A5 := Aside0.mk A50
 clear A50
 replace H := Option.bind_eq_some_iff.mp H
 obtain ⟨t261, A60, H⟩ := H
 replace H : (if t259 = true then (if t260 = true then (ref06_Merge.j0 k l0 l1 l2 (!t261)) else (ref06_Merge.j0 k l0 l1 l2 true)) else (ref06_Merge.j0 k l0 l1 l2 true)) = some r := H
 have A6 := Aside0.mk A60
 clear A60
 have HC7 := Aside0.mk H
 clear H
 go_enter Tryz.func64, Tryz.ntmps64
 go_upto_region 4 with (first | ((with_reducible refine gate_callee (f := 47) rfl ?_); refine goesL_ (some 15) rfl rfl Tryz.func47 (by kernel_rfl) rfl #[.slice A0 l0.length c0] rfl (by (try simp only [List.map_toArray, List.map_cons, List.map_nil]); first | done | rfl | (simp only [List.length_drop, List.length_take]; rfl)) ?_; (with_reducible refine (ref06_May.calls k _ _ l0 t259 _ ?side1 ?side2 A4.out).mono ?_); (case side1 => repeat (first | exact HR0.out | (with_reducible refine Kd.C_alloc ?_ _) | (with_reducible refine Kd.C_drewN ?_ _) | (with_reducible refine Kd.C_drew ?_))); (case side2 => exact HC0.out); rintro e w8 ⟨rfl, hb⟩; refine ⟨_, rfl, ?_⟩; have n0_ := Aside0.mk (below_step (by repeat (first | (with_reducible first | exact HB.out | apply below_alloc | apply pw_below_drewN | apply below_drew1) | exact HB.out)) hb); clear HB; have HB := n0_; clear n0_; (try clear hb); (try clear hb2); (try clear hk); (try clear hi)) | ((with_reducible refine gate_callee (f := 47) rfl ?_); refine goesL_ (some 17) rfl rfl Tryz.func47 (by kernel_rfl) rfl #[.slice A1 l1.length c1] rfl (by (try simp only [List.map_toArray, List.map_cons, List.map_nil]); first | done | rfl | (simp only [List.length_drop, List.length_take]; rfl)) ?_; (with_reducible refine (ref06_May.calls k _ _ l1 t260 _ ?side1 ?side2 A5.out).mono ?_); (case side1 => repeat (first | exact (Kd.C_below HR1.out HB.out) | (with_reducible refine Kd.C_alloc ?_ _) | (with_reducible refine Kd.C_drewN ?_ _) | (with_reducible refine Kd.C_drew ?_))); (case side2 => exact HC1.out); rintro e w9 ⟨rfl, hb⟩; refine ⟨_, rfl, ?_⟩; have n0_ := Aside0.mk (below_step (by repeat (first | (with_reducible first | exact HB.out | apply below_alloc | apply pw_below_drewN | apply below_drew1) | exact HB.out)) hb); clear HB; have HB := n0_; clear n0_; (try clear hb); (try clear hb2); (try clear hk); (try clear hi)) | ((with_reducible refine gate_callee (f := 47) rfl ?_); refine goesL_ (some 19) rfl rfl Tryz.func47 (by kernel_rfl) rfl #[.slice A2 l2.length c2] rfl (by (try simp only [List.map_toArray, List.map_cons, List.map_nil]); first | done | rfl | (simp only [List.length_drop, List.length_take]; rfl)) ?_; (with_reducible refine (ref06_May.calls k _ _ l2 t261 _ ?side1 ?side2 A6.out).mono ?_); (case side1 => repeat (first | exact (Kd.C_below HR2.out HB.out) | (with_reducible refine Kd.C_alloc ?_ _) | (with_reducible refine Kd.C_drewN ?_ _) | (with_reducible refine Kd.C_drew ?_))); (case side2 => exact HC2.out); rintro e w10 ⟨rfl, hb⟩; refine ⟨_, rfl, ?_⟩; have n0_ := Aside0.mk (below_step (by repeat (first | (with_reducible first | exact HB.out | apply below_alloc | apply pw_below_drewN | apply below_drew1) | exact HB.out)) hb); clear HB; have HB := n0_; clear n0_; (try clear hb); (try clear hb2); (try clear hk); (try clear hi)))
 (try simp only [Act.put, List.setIfInBounds_toArray, List.set_cons_zero, List.set_cons_succ])
 go_cut [29] (fun v29 wc => ∃ (kq : Nat) (x29_6 : Bool), v29 = .bool x29_6 ∧ Aside0 (ref06_Merge.j0 kq l0 l1 l2 x29_6 = some r) ∧ Aside0 (kq ≤ k) ∧ Aside0 (Below w.heap.size w wc))
 case first =>
  have H := HC7.out
  clear HC7
  by_cases c11 : t259 = true
  ·subst c11
   have H1 : (if t260 = true then (ref06_Merge.j0 k l0 l1 l2 (!t261)) else (ref06_Merge.j0 k l0 l1 l2 true)) = some r := by rw [if_pos rfl] at H; exact H
   clear H
   have H := H1
   clear H1
   by_cases c12 : t260 = true
   ·subst c12
    have H1 : (ref06_Merge.j0 k l0 l1 l2 (!t261)) = some r := by rw [if_pos rfl] at H; exact H
    clear H
    have H := H1
    clear H1
    have H' := Aside0.mk H
    clear H
    go_wp2
    go_meet
    case rel => exact ⟨_, (!t261), (by first | rfl | (simp; done) | (simp [*]; done)), H', ⟨by first | omega | exact Nat.le_refl _⟩, ⟨by repeat (first | (with_reducible first | exact HB.out | apply below_alloc | apply pw_below_drewN | apply below_drew1) | exact HB.out)⟩⟩
   ·replace c12 := Bool.eq_false_iff.mpr c12
    subst c12
    have H1 : (ref06_Merge.j0 k l0 l1 l2 true) = some r := by rw [if_neg (show ¬ (false = true) by decide)] at H; exact H
    clear H
    have H := H1
    clear H1
    have H' := Aside0.mk H
    clear H
    go_wp2
    go_meet
    case rel => exact ⟨_, (true), (by first | rfl | (simp; done) | (simp [*]; done)), H', ⟨by first | omega | exact Nat.le_refl _⟩, ⟨by repeat (first | (with_reducible first | exact HB.out | apply below_alloc | apply pw_below_drewN | apply below_drew1) | exact HB.out)⟩⟩
  ·replace c11 := Bool.eq_false_iff.mpr c11
   subst c11
   have H1 : (ref06_Merge.j0 k l0 l1 l2 true) = some r := by rw [if_neg (show ¬ (false = true) by decide)] at H; exact H
   clear H
   have H := H1
   clear H1
   have H' := Aside0.mk H
   clear H
   go_wp2
   go_meet
   case rel => exact ⟨_, (true), (by first | rfl | (simp; done) | (simp [*]; done)), H', ⟨by first | omega | exact Nat.le_refl _⟩, ⟨by repeat (first | (with_reducible first | exact HB.out | apply below_alloc | apply pw_below_drewN | apply below_drew1) | exact HB.out)⟩⟩
 case rest =>
  clear HC7
  try clear c1
  try clear c2
  try clear p2
  try clear c4
  try clear c6
  try clear c11
  try clear c12
  obtain ⟨kq, x29_6, rfl, HA, HJ6, HB⟩ := hcut
  cases kq with
  | zero => exact absurd HA.out (by simp [ref06_Merge.j0])
  | succ kj6 =>
   have H := HA.out
   clear HA
   simp only [ref06_Merge.j0] at H
   by_cases c13 : x29_6 = true
   ·subst c13
    have H1 : (some ([] : List (S73))) = some r := by rw [if_pos rfl] at H; exact H
    clear H
    have H := H1
    clear H1
    obtain rfl := Option.some.inj H
    go_wp2
    go_ret
    exact ⟨_, by first | rfl | (simp [errW_none, errW_some] <;> rfl) | (simp [*, errW_none, errW_some] <;> rfl), by first | exact Kd.R_nil _ _ _ _ _ | exact Kd.N_nil _ _ _ _ _ | exact Kd.V_nil _ _ _ _ _ | exact Kd.Q_nil _ _ _ _ _ | exact Kd.S_nil _ _ _ _ _, by repeat (first | (with_reducible first | exact HB.out | apply below_alloc | apply pw_below_drewN | apply below_drew1) | exact HB.out)⟩
   ·replace c13 := Bool.eq_false_iff.mpr c13
    subst c13
    have H1 : (if ([] : List (S73)).length + l0.length < 5864062014805 then ((some (([] : List (S73)) ++ l0 : List (S73))).bind fun y262 => (if y262.length + l1.length < 5864062014805 then ((some (y262 ++ l1 : List (S73))).bind fun y265 => (if y265.length + l2.length < 5864062014805 then (ref06_Merge.l0 kj6 l0 l1 l2 (y265 ++ l2) ([] : List (S73)) 0) else (none))) else (none))) else (none)) = some r := by rw [if_neg (show ¬ (false = true) by decide)] at H; exact H
    clear H
    have H := H1
    clear H1
    by_cases c14 : ([] : List (S73)).length + l0.length < 5864062014805
    ·rw [if_pos c14] at H
     have LMc14 := Aside0.mk c14
     clear c14
     obtain ⟨y262, hy262⟩ : ∃ y_ : List (S73), y_ = (([] : List (S73)) ++ l0) := ⟨_, rfl⟩
     replace H : (if y262.length + l1.length < 5864062014805 then ((some (y262 ++ l1 : List (S73))).bind fun y265 => (if y265.length + l2.length < 5864062014805 then (ref06_Merge.l0 kj6 l0 l1 l2 (y265 ++ l2) ([] : List (S73)) 0) else (none))) else (none)) = some r := by first | (rw [hy262]; with_reducible exact H) | (have H2_ := (Option.bind_some _ _).symm.trans H; rw [hy262]; with_reducible exact H2_) | (have H2_ := (Option.bind_some _ _).symm.trans H; with_reducible exact H2_) | with_reducible exact H | (rw [hy262]; exact H) | exact H
     have Ny262 := Aside0.mk hy262
     clear hy262
     by_cases c15 : y262.length + l1.length < 5864062014805
     ·rw [if_pos c15] at H
      have LMc15 := Aside0.mk c15
      clear c15
      obtain ⟨y265, hy265⟩ : ∃ y_ : List (S73), y_ = (y262 ++ l1) := ⟨_, rfl⟩
      replace H : (if y265.length + l2.length < 5864062014805 then (ref06_Merge.l0 kj6 l0 l1 l2 (y265 ++ l2) ([] : List (S73)) 0) else (none)) = some r := by first | (rw [hy265]; with_reducible exact H) | (have H2_ := (Option.bind_some _ _).symm.trans H; rw [hy265]; with_reducible exact H2_) | (have H2_ := (Option.bind_some _ _).symm.trans H; with_reducible exact H2_) | with_reducible exact H | (rw [hy265]; exact H) | exact H
      have Ny265 := Aside0.mk hy265
      clear hy265
      by_cases c16 : y265.length + l2.length < 5864062014805
      ·rw [if_pos c16] at H
       have LMc16 := Aside0.mk c16
       clear c16
       obtain ⟨y268, hy268⟩ : ∃ y_ : List (S73), y_ = (y265 ++ l2) := ⟨_, rfl⟩
       replace H : (ref06_Merge.l0 kj6 l0 l1 l2 y268 ([] : List (S73)) 0) = some r := by first | (rw [hy268]; with_reducible exact H) | (have H2_ := (Option.bind_some _ _).symm.trans H; rw [hy268]; with_reducible exact H2_) | (have H2_ := (Option.bind_some _ _).symm.trans H; with_reducible exact H2_) | with_reducible exact H | (rw [hy268]; exact H) | exact H
       have Ny268 := Aside0.mk hy268
       clear hy268
       have H' := Aside0.mk H
       clear H
       go_wp2_with (first | ((with_reducible refine gate_builtin (b := .append) (xs := #[.const (.slice none 0 0), .tmp 30]) rfl ?_); at_builtin; refine Kd.R_append_rows k73 (w0 := w) w.heap.size rfl (.const (.slice none 0 0)) (.tmp 30) 22 73 (.agg #[(.string ⟨#[]⟩), (.int .i64 0)]) 24 rfl Tryz.underlying22 info73 rfl (by decide) (by omega) (.slice none 0 0) ([] : List (S73)) l0 _ _ _ (fun _ => True) (fun _ => False) rfl rfl ?aO ?aR (fun _ _ h => h) (fun _ h => h.elim) ?aF ?aB ?aS ?aL ?_; (case aR => repeat (first | exact (Kd.C_below HR0.out HB.out) | (with_reducible refine Kd.C_alloc ?_ _) | (with_reducible refine Kd.C_drewN ?_ _) | (with_reducible refine Kd.C_drew ?_))); (case aB => exact (by repeat (first | (with_reducible first | exact HB.out | apply below_alloc | apply pw_below_drewN | apply below_drew1) | exact HB.out))); (case aF => exact (fun _ _ => trivial)); (case aO => exact ((Kd.R_nil _ _ _ _ (fun _ => True)))); (case aS => exact (below_size (by repeat (first | (with_reducible first | exact HB.out | apply below_alloc | apply pw_below_drewN | apply below_drew1) | exact HB.out)))); (case aL => have := LMc14.out; omega); intro v263 w17 ho hb hg hat; rw [← Ny262.out] at ho; have n0_ := Aside0.mk (hb); have n1_ := Aside0.mk (ho); clear HB; have HB := n0_; have HO264 := n1_; clear n0_ n1_; clear ho hb hg hat) | ((with_reducible refine gate_builtin (b := .append) (xs := #[.tmp 31, .tmp 32]) rfl ?_); at_builtin; refine Kd.R_append_rows k73 (w0 := w) w.heap.size rfl (.tmp 31) (.tmp 32) 22 73 (.agg #[(.string ⟨#[]⟩), (.int .i64 0)]) 24 rfl Tryz.underlying22 info73 rfl (by decide) (by omega) v263 y262 l1 _ _ _ (fun _ => True) (fun _ => False) rfl rfl ?aO ?aR (fun _ _ h => h) (fun _ h => h.elim) ?aF ?aB ?aS ?aL ?_; (case aR => repeat (first | exact (Kd.C_below HR1.out HB.out) | (with_reducible refine Kd.C_alloc ?_ _) | (with_reducible refine Kd.C_drewN ?_ _) | (with_reducible refine Kd.C_drew ?_))); (case aB => exact (by repeat (first | (with_reducible first | exact HB.out | apply below_alloc | apply pw_below_drewN | apply below_drew1) | exact HB.out))); (case aF => exact (fun _ _ => trivial)); (case aO => exact (by (with_reducible repeat (first | apply Kd.R_alloc | apply Kd.R_drewN | apply Kd.R_drew)); exact HO264.out)); (case aS => exact (below_size (by repeat (first | (with_reducible first | exact HB.out | apply below_alloc | apply pw_below_drewN | apply below_drew1) | exact HB.out)))); (case aL => have := LMc15.out; omega); intro v266 w18 ho hb hg hat; rw [← Ny265.out] at ho; have n0_ := Aside0.mk (hb); have n1_ := Aside0.mk (ho); clear HB; clear HO264; have HB := n0_; have HO267 := n1_; clear n0_ n1_; clear ho hb hg hat) | ((with_reducible refine gate_builtin (b := .append) (xs := #[.tmp 33, .tmp 34]) rfl ?_); at_builtin; refine Kd.R_append_rows k73 (w0 := w) w.heap.size rfl (.tmp 33) (.tmp 34) 22 73 (.agg #[(.string ⟨#[]⟩), (.int .i64 0)]) 24 rfl Tryz.underlying22 info73 rfl (by decide) (by omega) v266 y265 l2 _ _ _ (fun _ => True) (fun _ => False) rfl rfl ?aO ?aR (fun _ _ h => h) (fun _ h => h.elim) ?aF ?aB ?aS ?aL ?_; (case aR => repeat (first | exact (Kd.C_below HR2.out HB.out) | (with_reducible refine Kd.C_alloc ?_ _) | (with_reducible refine Kd.C_drewN ?_ _) | (with_reducible refine Kd.C_drew ?_))); (case aB => exact (by repeat (first | (with_reducible first | exact HB.out | apply below_alloc | apply pw_below_drewN | apply below_drew1) | exact HB.out))); (case aF => exact (fun _ _ => trivial)); (case aO => exact (by (with_reducible repeat (first | apply Kd.R_alloc | apply Kd.R_drewN | apply Kd.R_drew)); exact HO267.out)); (case aS => exact (below_size (by repeat (first | (with_reducible first | exact HB.out | apply below_alloc | apply pw_below_drewN | apply below_drew1) | exact HB.out)))); (case aL => have := LMc16.out; omega); intro v269 w19 ho hb hg hat; rw [← Ny268.out] at ho; have n0_ := Aside0.mk (hb); have n1_ := Aside0.mk (ho); clear HB; clear HO267; have HB := n0_; have HO270 := n1_; clear n0_ n1_; clear ho hb hg hat))
       go_loopg [11, 12] kj6 (fun kq v11 v12 w' => ∃ (x11_2 : List (S73)) (x12_2 : Int), v12 = .int .i64 x12_2 ∧ Aside0 (ref06_Merge.l0 kq l0 l1 l2 y268 x11_2 x12_2 = some r) ∧ Aside0 (kq ≤ kj6) ∧ Aside0 (Kd.R k73 73 w' w.heap.size (fun k_ => some k_ ≠ (v11 : Value).ownBlock) v269 y268) ∧ Aside0 (Kd.R k73 73 w' w.heap.size (fun k_ => some k_ ≠ (v269 : Value).ownBlock) v11 x11_2) ∧ Aside0 (Below w.heap.size w w'))
       case atStart => exact ⟨(([] : List (S73))), (0), (by first | rfl | (simp; done) | (simp [*]; done)), H', ⟨Nat.le_refl _⟩, ⟨by (with_reducible repeat (first | apply Kd.R_alloc | apply Kd.R_drewN | apply Kd.R_drew)); exact Kd.R_mono HO270.out (fun _ hk => (by simp [Value.ownBlock]))⟩, ⟨by first | exact Kd.R_nil _ _ _ _ _ | exact Kd.N_nil _ _ _ _ _ | exact Kd.V_nil _ _ _ _ _ | exact Kd.Q_nil _ _ _ _ _ | exact Kd.S_nil _ _ _ _ _⟩, ⟨by repeat (first | (with_reducible first | exact HB.out | apply below_alloc | apply pw_below_drewN | apply below_drew1) | exact HB.out)⟩⟩
       case round =>
        clear H'
        try clear c1
        try clear c2
        try clear p2
        try clear c4
        try clear c6
        try clear c11
        try clear c12
        try clear c13
        try clear c14
        try clear c15
        try clear c16
        try clear p2
        obtain ⟨x11_2, x12_2, rfl, HA, HK2, HO_10, HO_11, HB⟩ := hrel
        cases gk with
        | zero => exact absurd HA.out (by simp [ref06_Merge.l0])
        | succ k2 =>
         have H := HA.out
         clear HA
         simp only [ref06_Merge.l0] at H
         by_cases c20 : x12_2 < (y268.length : Int)
         ·rw [if_pos c20] at H
          have c20b0 : decide (x12_2 < (y268.length : Int)) = true := decide_eq_true c20
          clear c20
          by_cases c21 : 0 ≤ x12_2
          ·rw [if_pos c21] at H
           have c21b0 : decide (0 ≤ x12_2) = true := decide_eq_true c21
           clear c21
           replace H := Option.bind_eq_some_iff.mp H
           obtain ⟨t272, A220, H⟩ := H
           replace H : ((ref06_Get.f k2 l2 ((rd_T73 y268 x12_2).f0)).bind fun t273 => ((ref06_Get.f k2 l0 ((rd_T73 y268 x12_2).f0)).bind fun t274 => ((ref06_put.f k2 x11_2 ((rd_T73 y268 x12_2).f0) (wrap64 ((wrap64 (t272 + t273)) - t274))).bind fun t275 => (ref06_Merge.l0 k2 l0 l1 l2 y268 t275 (wrap64 (x12_2 + 1)))))) = some r := H
           have A22 := Aside0.mk A220
           clear A220
           replace H := Option.bind_eq_some_iff.mp H
           obtain ⟨t273, A230, H⟩ := H
           replace H : ((ref06_Get.f k2 l0 ((rd_T73 y268 x12_2).f0)).bind fun t274 => ((ref06_put.f k2 x11_2 ((rd_T73 y268 x12_2).f0) (wrap64 ((wrap64 (t272 + t273)) - t274))).bind fun t275 => (ref06_Merge.l0 k2 l0 l1 l2 y268 t275 (wrap64 (x12_2 + 1))))) = some r := H
           have A23 := Aside0.mk A230
           clear A230
           replace H := Option.bind_eq_some_iff.mp H
           obtain ⟨t274, A240, H⟩ := H
           replace H : ((ref06_put.f k2 x11_2 ((rd_T73 y268 x12_2).f0) (wrap64 ((wrap64 (t272 + t273)) - t274))).bind fun t275 => (ref06_Merge.l0 k2 l0 l1 l2 y268 t275 (wrap64 (x12_2 + 1)))) = some r := H
           have A24 := Aside0.mk A240
           clear A240
           replace H := Option.bind_eq_some_iff.mp H
           obtain ⟨t275, A250, H⟩ := H
           replace H : (ref06_Merge.l0 k2 l0 l1 l2 y268 t275 (wrap64 (x12_2 + 1))) = some r := H
           have A25 := Aside0.mk A250
           clear A250
           have H' := Aside0.mk H
           clear H
           obtain ⟨Ao26, co26, eo26⟩ := Kd.R_slice HO_10.out
           subst eo26
           have p271 : 0 ≤ (x12_2 : Int) := of_decide_eq_true (by first | (with_reducible assumption) | assumption)
           have q271 : x12_2 < (y268.length : Int) := of_decide_eq_true (by first | (with_reducible assumption) | assumption)
           obtain ⟨ad271, e271, hx271_0, hx271_1⟩ := at_T73 (Kd.R_reads' HO_10.out).2.2 x12_2 p271 q271
           cases e271
           replace p271 := eq_true p271
           replace q271 := eq_true q271
           go_wp2_with (first | ((with_reducible refine gate_callee (f := 90) rfl ?_); refine goesL_ (some 51) rfl rfl Tryz.func90 (by kernel_rfl) rfl #[.slice A1 l1.length c1, .string ((rd_T73 y268 x12_2).f0)] rfl (by (try simp only [List.map_toArray, List.map_cons, List.map_nil]); first | done | rfl | (simp only [List.length_drop, List.length_take]; rfl)) ?_; (with_reducible refine (ref06_Get.calls k2 _ _ l1 ((rd_T73 y268 x12_2).f0) t272 _ ?side1 ?side2 A22.out).mono ?_); (case side1 => repeat (first | exact (Kd.C_below HR1.out HB.out) | (with_reducible refine Kd.C_alloc ?_ _) | (with_reducible refine Kd.C_drewN ?_ _) | (with_reducible refine Kd.C_drew ?_))); (case side2 => exact HC1.out); rintro e w' ⟨rfl, ⟨nd, rfl⟩⟩; refine ⟨_, rfl, ?_⟩) | ((with_reducible refine gate_callee (f := 90) rfl ?_); refine goesL_ (some 54) rfl rfl Tryz.func90 (by kernel_rfl) rfl #[.slice A2 l2.length c2, .string ((rd_T73 y268 x12_2).f0)] rfl (by (try simp only [List.map_toArray, List.map_cons, List.map_nil]); first | done | rfl | (simp only [List.length_drop, List.length_take]; rfl)) ?_; (with_reducible refine (ref06_Get.calls k2 _ _ l2 ((rd_T73 y268 x12_2).f0) t273 _ ?side1 ?side2 A23.out).mono ?_); (case side1 => repeat (first | exact (Kd.C_below HR2.out (by repeat (first | (with_reducible first | exact HB.out | apply below_alloc | apply pw_below_drewN | apply below_drew1) | exact HB.out))) | (with_reducible refine Kd.C_alloc ?_ _) | (with_reducible refine Kd.C_drewN ?_ _) | (with_reducible refine Kd.C_drew ?_))); (case side2 => exact HC2.out); rintro e w' ⟨rfl, ⟨nd, rfl⟩⟩; refine ⟨_, rfl, ?_⟩) | ((with_reducible refine gate_callee (f := 90) rfl ?_); refine goesL_ (some 58) rfl rfl Tryz.func90 (by kernel_rfl) rfl #[.slice A0 l0.length c0, .string ((rd_T73 y268 x12_2).f0)] rfl (by (try simp only [List.map_toArray, List.map_cons, List.map_nil]); first | done | rfl | (simp only [List.length_drop, List.length_take]; rfl)) ?_; (with_reducible refine (ref06_Get.calls k2 _ _ l0 ((rd_T73 y268 x12_2).f0) t274 _ ?side1 ?side2 A24.out).mono ?_); (case side1 => repeat (first | exact (Kd.C_below HR0.out (by repeat (first | (with_reducible first | exact HB.out | apply below_alloc | apply pw_below_drewN | apply below_drew1) | exact HB.out))) | (with_reducible refine Kd.C_alloc ?_ _) | (with_reducible refine Kd.C_drewN ?_ _) | (with_reducible refine Kd.C_drew ?_))); (case side2 => exact HC0.out); rintro e w' ⟨rfl, ⟨nd, rfl⟩⟩; refine ⟨_, rfl, ?_⟩; obtain ⟨Ao27, co27, eo27⟩ := Kd.R_slice HO_11.out; subst eo27) | ((with_reducible refine gate_callee (f := 89) rfl ?_); refine goesL_ (some 60) rfl rfl Tryz.func89 (by kernel_rfl) rfl #[.slice Ao27 x11_2.length co27, .string ((rd_T73 y268 x12_2).f0), .int .i64 (wrap64 ((wrap64 (t272 + t273)) - t274))] rfl (by (try simp only [List.map_toArray, List.map_cons, List.map_nil]); first | done | rfl | (simp only [List.length_drop, List.length_take]; rfl)) ?_; (with_reducible refine (ref06_put.calls k2 _ _ x11_2 ((rd_T73 y268 x12_2).f0) (wrap64 ((wrap64 (t272 + t273)) - t274)) t275 _ ?side1 ?side2 A25.out).mono ?_); (case side1 => repeat (first | exact (Kd.R_reads' HO_11.out).2.2 | (with_reducible refine Kd.C_alloc ?_ _) | (with_reducible refine Kd.C_drewN ?_ _) | (with_reducible refine Kd.C_drew ?_))); (case side2 => exact (Kd.R_reads' HO_11.out).2.1); rintro e w28 ⟨v276, rfl, ho0, hb⟩; refine ⟨_, rfl, ?_⟩; have n0_ := Aside0.mk (Kd.R_elder' (by (with_reducible repeat (first | apply Kd.R_alloc | apply Kd.R_drewN | apply Kd.R_drew)); exact HO_10.out) (Kd.R_base ho0) hb); have n1_ := Aside0.mk (Kd.R_elder' (by (with_reducible repeat (first | apply Kd.R_alloc | apply Kd.R_drewN | apply Kd.R_drew)); exact HO_11.out) (Kd.R_base ho0) hb); have n2_ := Aside0.mk (Kd.R_lower (Kd.R_new' (Kd.R_new' ho0 (Kd.R_lt (by (with_reducible repeat (first | apply Kd.R_alloc | apply Kd.R_drewN | apply Kd.R_drew)); exact HO_10.out))) (Kd.R_lt (by (with_reducible repeat (first | apply Kd.R_alloc | apply Kd.R_drewN | apply Kd.R_drew)); exact HO_11.out))) (below_size (by repeat (first | (with_reducible first | exact HB.out | apply below_alloc | apply pw_below_drewN | apply below_drew1) | exact HB.out)))); have n3_ := Aside0.mk (below_step (by repeat (first | (with_reducible first | exact HB.out | apply below_alloc | apply pw_below_drewN | apply below_drew1) | exact HB.out)) hb); clear HO_10; clear HO_11; clear HB; have HO_10 := n0_; have HO_11 := n1_; have HO277 := n2_; have HB := n3_; clear n0_ n1_ n2_ n3_; (try clear hb); (try clear hb2); (try clear hk); (try clear hi); (try clear ho0)))
           go_roundg k2
           case measure => have := HJ6.out; have := HK2.out; omega
           case rel => exact ⟨(t275), (wrap64 (x12_2 + 1)), (by first | rfl | (simp; done) | (simp [*]; done)), H', ⟨by have := HJ6.out; have := HK2.out; omega⟩, ⟨by (with_reducible repeat (first | apply Kd.R_alloc | apply Kd.R_drewN | apply Kd.R_drew)); exact Kd.R_mono HO_10.out (fun _ hk => hk.2)⟩, ⟨by (with_reducible repeat (first | apply Kd.R_alloc | apply Kd.R_drewN | apply Kd.R_drew)); exact Kd.R_mono HO277.out (fun _ hk => hk.1.2)⟩, ⟨by repeat (first | (with_reducible first | exact HB.out | apply below_alloc | apply pw_below_drewN | apply below_drew1) | exact HB.out)⟩⟩
          ·rw [if_neg c21] at H
           exact absurd H (by simp)
         ·rw [if_neg c20] at H
          have c20b0 : decide (x12_2 < (y268.length : Int)) = false := decide_eq_false c20
          clear c20
          obtain rfl := Option.some.inj H
          obtain ⟨Ao29, co29, eo29⟩ := Kd.R_slice HO_10.out
          subst eo29
          go_wp2
          go_ret
          exact ⟨_, by first | rfl | (simp [errW_none, errW_some] <;> rfl) | (simp [*, errW_none, errW_some] <;> rfl), by (with_reducible repeat (first | apply Kd.R_alloc | apply Kd.R_drewN | apply Kd.R_drew)); exact Kd.R_mono HO_11.out (fun _ hk => trivial), by repeat (first | (with_reducible first | exact HB.out | apply below_alloc | apply pw_below_drewN | apply below_drew1) | exact HB.out)⟩
      ·rw [if_neg c16] at H
       exact absurd H (by simp)
     ·rw [if_neg c15] at H
      exact absurd H (by simp)
    ·rw [if_neg c14] at H
     exact absurd H (by simp)

end Go.Proofs.YtmcddoolniaehaaGreat.S
end
