-- PRINTED by print.py (a twelfth state) out of the translation. Not trusted: Lean checks it.
import Derived.Test.YtannmdngejdjkaaLSq
import Derived.Test.YtannmdngejdjkaaLx0
import Derived.Test.YtannmdngejdjkaaLx37
import Derived.Test.YtannmdngejdjkaaLx39
namespace Go.Proofs.Ytannmdngejdjkaa.L
open Go.RowKit Go.Proofs.YtannmdngejdjkaaW.PrintWords Go.Proofs.YtannmdngejdjkaaW.PrintLast Go.Proofs.YtannmdngejdjkaaW.PrintMore
attribute [local go_sem] max2_int min2_int max_two min_two max_three min_three max_four min_four   -- for this text's walks alone
set_option linter.unusedVariables false
set_option linter.unusedSimpArgs false

/-! ### ref08_Add: function 50 -/
def ref08_Add.f (k : Nat) (l0 : List (S57)) (a1_0 : ByteArray) (a1_1 : ByteArray) (a1_2 : Int) (a1_3 : Int) : Option ((List (S57))) := (ref08_May.f k l0).bind fun t724 => ((ref08_May.f k (([(⟨a1_0, a1_1, (⟨a1_2, a1_3⟩ : S24)⟩ : S57)] : List (S57)))).bind fun t728 => (if t724 = true then (if t728 = true then (if ([] : List (S57)).length + l0.length < 2932031007402 then ((ref08_put.f k (([] : List (S57)) ++ l0) a1_0 a1_1 a1_2 a1_3).bind fun t732 => (some t732)) else (none)) else (some ([] : List (S57)))) else (some ([] : List (S57)))))
theorem ref08_Add.mono : ∀ a0 a1 a2 a3 a4 k, LeO (ref08_Add.f k a0 a1 a2 a3 a4) (ref08_Add.f (k + 1) a0 a1 a2 a3 a4) := by
 intro a0 a1 a2 a3 a4 k
 unfold ref08_Add.f
 repeat' first
   | (with_reducible exact ref08_May.mono _ _)
   | (with_reducible exact ref08_put.mono _ _ _ _ _ _)
   | (with_reducible exact LeO.refl _)
   | (with_reducible exact LeO.none _)
   | (with_reducible refine LeO.ite ?_ ?_)
   | (with_reducible refine LeO.bind ?_ (fun _ => ?_))
   | exact ref08_May.mono _ _
   | exact ref08_put.mono _ _ _ _ _ _
   | exact LeO.none _
   | refine LeO.ite ?_ ?_
   | refine LeO.bind ?_ (fun _ => ?_)
set_option maxHeartbeats 8000000 in
set_option maxRecDepth 100000 in
theorem ref08_Add.calls (k : Nat) (A0 : Option Addr) (c0 : Nat) (l0 : List (S57)) (a1_0 : ByteArray) (a1_1 : ByteArray) (a1_2 : Int) (a1_3 : Int) (r : List (S57)) (w : World) (hr0 : Kd.C k57 w A0 l0.length l0) (hc0 : l0.length ≤ c0) (h : ref08_Add.f k l0 a1_0 a1_1 a1_2 a1_3 = some r) :
  Calls Try.prog 50 #[.slice A0 l0.length c0, .agg #[.string a1_0, .string a1_1, .int .i64 a1_2, .int .i64 a1_3]] w fun e w' => ∃ v0_ : Value, e = .returned (v0_) ∧ Kd.R k57 57 w' w.heap.size (fun _ => True) v0_ r ∧ Below w.heap.size w w' := by
 have hu57 := Try.underlying57
 have HR0 := Aside0.mk hr0
 have HC0 := Aside0.mk hc0
 clear hr0 hc0
 have HB := Aside0.mk (Below.refl w.heap.size w)
 have H : ((ref08_May.f k l0).bind fun t724 => ((ref08_May.f k (([(⟨a1_0, a1_1, (⟨a1_2, a1_3⟩ : S24)⟩ : S57)] : List (S57)))).bind fun t728 => (if t724 = true then (if t728 = true then (if ([] : List (S57)).length + l0.length < 2932031007402 then ((ref08_put.f k (([] : List (S57)) ++ l0) a1_0 a1_1 a1_2 a1_3).bind fun t732 => (some t732)) else (none)) else (some ([] : List (S57)))) else (some ([] : List (S57)))))) = some r := h
 clear h
 replace H := Option.bind_eq_some_iff.mp H
 obtain ⟨t724, A30, H⟩ := H
 replace H : ((ref08_May.f k (([(⟨a1_0, a1_1, (⟨a1_2, a1_3⟩ : S24)⟩ : S57)] : List (S57)))).bind fun t728 => (if t724 = true then (if t728 = true then (if ([] : List (S57)).length + l0.length < 2932031007402 then ((ref08_put.f k (([] : List (S57)) ++ l0) a1_0 a1_1 a1_2 a1_3).bind fun t732 => (some t732)) else (none)) else (some ([] : List (S57)))) else (some ([] : List (S57))))) = some r := H
 have A3 := Aside0.mk A30
 clear A30
 obtain ⟨y725, hy725⟩ : ∃ y_ : List (S57), y_ = (([(⟨a1_0, a1_1, (⟨a1_2, a1_3⟩ : S24)⟩ : S57)] : List (S57))) := ⟨_, rfl⟩
 replace H : ((ref08_May.f k y725).bind fun t728 => (if t724 = true then (if t728 = true then (if ([] : List (S57)).length + l0.length < 2932031007402 then ((ref08_put.f k (([] : List (S57)) ++ l0) a1_0 a1_1 a1_2 a1_3).bind fun t732 => (some t732)) else (none)) else (some ([] : List (S57)))) else (some ([] : List (S57))))) = some r := by first | (rw [hy725]; with_reducible exact H) | (have H2_ := (Option.bind_some _ _).symm.trans H; rw [hy725]; with_reducible exact H2_) | (have H2_ := (Option.bind_some _ _).symm.trans H; with_reducible exact H2_) | with_reducible exact H | (rw [hy725]; exact H) | exact H
 have Ny725 := Aside0.mk hy725
 clear hy725
 replace H := Option.bind_eq_some_iff.mp H
 obtain ⟨t728, A40, H⟩ := H
 replace H : (if t724 = true then (if t728 = true then (if ([] : List (S57)).length + l0.length < 2932031007402 then ((ref08_put.f k (([] : List (S57)) ++ l0) a1_0 a1_1 a1_2 a1_3).bind fun t732 => (some t732)) else (none)) else (some ([] : List (S57)))) else (some ([] : List (S57)))) = some r := H
 have A4 := Aside0.mk A40
 clear A40
 by_cases c5 : t724 = true
 ·subst c5
  have H1 : (if t728 = true then (if ([] : List (S57)).length + l0.length < 2932031007402 then ((ref08_put.f k (([] : List (S57)) ++ l0) a1_0 a1_1 a1_2 a1_3).bind fun t732 => (some t732)) else (none)) else (some ([] : List (S57)))) = some r := by rw [if_pos rfl] at H; exact H
  clear H
  have H := H1
  clear H1
  by_cases c6 : t728 = true
  ·subst c6
   have H1 : (if ([] : List (S57)).length + l0.length < 2932031007402 then ((ref08_put.f k (([] : List (S57)) ++ l0) a1_0 a1_1 a1_2 a1_3).bind fun t732 => (some t732)) else (none)) = some r := by rw [if_pos rfl] at H; exact H
   clear H
   have H := H1
   clear H1
   by_cases c7 : ([] : List (S57)).length + l0.length < 2932031007402
   ·rw [if_pos c7] at H
    have LMc7 := Aside0.mk c7
    clear c7
    obtain ⟨y729, hy729⟩ : ∃ y_ : List (S57), y_ = (([] : List (S57)) ++ l0) := ⟨_, rfl⟩
    replace H : ((ref08_put.f k y729 a1_0 a1_1 a1_2 a1_3).bind fun t732 => (some t732)) = some r := by first | (rw [hy729]; with_reducible exact H) | (have H2_ := (Option.bind_some _ _).symm.trans H; rw [hy729]; with_reducible exact H2_) | (have H2_ := (Option.bind_some _ _).symm.trans H; with_reducible exact H2_) | with_reducible exact H | (rw [hy729]; exact H) | exact H
    have Ny729 := Aside0.mk hy729
    clear hy729
    replace H := Option.bind_eq_some_iff.mp H
    obtain ⟨t732, A80, H⟩ := H
    replace H : (some t732) = some r := H
    have A8 := Aside0.mk A80
    clear A80
    obtain rfl := Option.some.inj H
    go_enter Try.func50, Try.ntmps50
    try go_wp2_with (first | ((with_reducible refine gate_dst (N := 3) rfl ?_); refine box_event ?hg (N := 3) ?hd (cs := #[.string a1_0, .string a1_1, .int .i64 a1_2, .int .i64 a1_3]) (t := 57) ?hr ?_; (case hd => rfl); (case hg => rfl); (case hr => first | (go_simp; done) | (go_simp; rfl)); intro gb723 hg w9 hbox hb; have n0_ := Aside0.mk (below_step (by repeat (first | (with_reducible first | exact HB.out | apply below_alloc | apply pw_below_drewN | apply below_drew1) | exact HB.out)) hb); have n1_ := Aside0.mk (hbox); have n2_ := Aside0.mk ((by rw [hg]; exact (below_size (by repeat (first | (with_reducible first | exact HB.out | apply below_alloc | apply pw_below_drewN | apply below_drew1) | exact HB.out))) : w.heap.size ≤ gb723)); have n3_ := Aside0.mk ((by rw [hg]; exact (below_size (by repeat (first | (with_reducible first | exact HB.out | apply below_alloc | apply pw_below_drewN | apply below_drew1) | exact HB.out))) : w.heap.size ≤ gb723)); clear HB; have HB := n0_; have BK723 := n1_; have GW723 := n2_; have GE723 := n3_; clear n0_ n1_ n2_ n3_; clear hb hbox hg) | ((with_reducible refine gate_callee (f := 47) rfl ?_); refine goesL_ (some 8) rfl rfl Try.func47 (by kernel_rfl) rfl #[.slice A0 l0.length c0] rfl (by (try simp only [List.map_toArray, List.map_cons, List.map_nil]); first | done | rfl | (simp only [List.length_drop, List.length_take]; rfl)) ?_; (with_reducible refine (ref08_May.calls k _ _ l0 true _ ?side1 ?side2 A3.out).mono ?_); (case side1 => repeat (first | exact (Kd.C_below HR0.out HB.out) | (with_reducible refine Kd.C_alloc ?_ _) | (with_reducible refine Kd.C_drewN ?_ _) | (with_reducible refine Kd.C_drew ?_))); (case side2 => exact HC0.out); rintro e w10 ⟨rfl, hb⟩; refine ⟨_, rfl, ?_⟩; have n0_ := Aside0.mk (blk_below (g := gb723) (o := .cells #[.string a1_0, .string a1_1, .int .i64 a1_2, .int .i64 a1_3] 57 (0, 0)) (by (with_reducible repeat (first | apply blN | apply blD | apply blA)); exact BK723.out) hb); have n1_ := Aside0.mk (below_step (by repeat (first | (with_reducible first | exact HB.out | apply below_alloc | apply pw_below_drewN | apply below_drew1 | refine below_set ?_ GE723.out) | exact HB.out)) hb); clear BK723; clear HB; have BK723 := n0_; have HB := n1_; clear n0_ n1_; (try clear hb); (try clear hb2); (try clear hk); (try clear hi); have hcz11_0 : w10.cell? ⟨gb723, 0, none⟩ = some (.string a1_0) := (blk_cell BK723.out 0).trans rfl; have hcz11_1 : w10.cell? ⟨gb723, 1, none⟩ = some (.string a1_1) := (blk_cell BK723.out 1).trans rfl; have hcz11_2 : w10.cell? ⟨gb723, 2, none⟩ = some (.int .i64 a1_2) := (blk_cell BK723.out 2).trans rfl; have hcz11_3 : w10.cell? ⟨gb723, 3, none⟩ = some (.int .i64 a1_3) := (blk_cell BK723.out 3).trans rfl; have hfz11_0 := blk_frozen BK723.out 0; have hfz11_1 := blk_frozen BK723.out 1; have hfz11_2 := blk_frozen BK723.out 2; have hfz11_3 := blk_frozen BK723.out 3) | ((with_reducible refine gate_dst (N := 10) rfl ?_); refine Kd.R_lit k57 _ 57 ?hg (N := 10) ?hd (xs := ([(⟨a1_0, a1_1, (⟨a1_2, a1_3⟩ : S24)⟩ : S57)] : List (S57))) (inner := [.string a1_0, .string a1_1, .int .i64 a1_2, .int .i64 a1_3]) (ok := fun _ => True) (okp := fun _ => True) ?hr ?hp (fun _ hk => hk) trivial (Below.refl _ _) (Nat.le_refl _) (by simp) ?_; (case hd => rfl); (case hg => rfl); (case hr => first | (go_simp; done) | (go_simp; rfl)); (case hp => exact (Reps.c4 (show Kd.M k57 _ _ _ (⟨a1_0, a1_1, (⟨a1_2, a1_3⟩ : S24)⟩ : S57) [.string a1_0, .string a1_1, .int .i64 a1_2, .int .i64 a1_3] from (k57_mkM _ _ _ (⟨a1_0, a1_1, (⟨a1_2, a1_3⟩ : S24)⟩ : S57) )) (Reps.none _ _))); intro v726 w12 ho13 hb hg_ hnew_; clear hg_ hnew_; (first | rw [← Ny725.out] at ho13 | (simp only [Int.reduceToNat] at ho13; rw [← Ny725.out] at ho13)); have n0_ := Aside0.mk (Kd.R_lower (Kd.R_newB ho13 (g := gb723) (o := .cells #[.string a1_0, .string a1_1, .int .i64 a1_2, .int .i64 a1_3] 57 (0, 0)) (by (with_reducible repeat (first | apply blN | apply blD | apply blA)); exact BK723.out)) (below_size (by repeat (first | (with_reducible first | exact HB.out | apply below_alloc | apply pw_below_drewN | apply below_drew1 | refine below_set ?_ GE723.out) | exact HB.out)))); have n1_ := Aside0.mk (blk_below (g := gb723) (o := .cells #[.string a1_0, .string a1_1, .int .i64 a1_2, .int .i64 a1_3] 57 (0, 0)) (by (with_reducible repeat (first | apply blN | apply blD | apply blA)); exact BK723.out) hb); have n2_ := Aside0.mk (below_step (by repeat (first | (with_reducible first | exact HB.out | apply below_alloc | apply pw_below_drewN | apply below_drew1 | refine below_set ?_ GE723.out) | exact HB.out)) hb); clear BK723; clear HB; have HO727 := n0_; have BK723 := n1_; have HB := n2_; clear n0_ n1_ n2_; clear hb ho13; obtain ⟨Ao14, co14, eo14⟩ := Kd.R_slice HO727.out; subst eo14) | ((with_reducible refine gate_callee (f := 47) rfl ?_); refine goesL_ (some 11) rfl rfl Try.func47 (by kernel_rfl) rfl #[.slice Ao14 y725.length co14] rfl (by (try simp only [List.map_toArray, List.map_cons, List.map_nil]); first | done | rfl | (simp only [List.length_drop, List.length_take]; rfl)) ?_; (with_reducible refine (ref08_May.calls k _ _ y725 true _ ?side1 ?side2 A4.out).mono ?_); (case side1 => repeat (first | exact (Kd.R_reads' HO727.out).2.2 | (with_reducible refine Kd.C_alloc ?_ _) | (with_reducible refine Kd.C_drewN ?_ _) | (with_reducible refine Kd.C_drew ?_))); (case side2 => exact (Kd.R_reads' HO727.out).2.1); rintro e w15 ⟨rfl, hb⟩; refine ⟨_, rfl, ?_⟩; have n0_ := Aside0.mk (Kd.R_below (by (with_reducible repeat (first | apply Kd.R_alloc | apply Kd.R_drewN | apply Kd.R_drew)); exact HO727.out) hb); have n1_ := Aside0.mk (blk_below (g := gb723) (o := .cells #[.string a1_0, .string a1_1, .int .i64 a1_2, .int .i64 a1_3] 57 (0, 0)) (by (with_reducible repeat (first | apply blN | apply blD | apply blA)); exact BK723.out) hb); have n2_ := Aside0.mk (below_step (by repeat (first | (with_reducible first | exact HB.out | apply below_alloc | apply pw_below_drewN | apply below_drew1 | refine below_set ?_ GE723.out) | exact HB.out)) hb); clear HO727; clear BK723; clear HB; have HO727 := n0_; have BK723 := n1_; have HB := n2_; clear n0_ n1_ n2_; (try clear hb); (try clear hb2); (try clear hk); (try clear hi)))
    have n0_ := Aside0.mk (Kd.R_drew HO727.out)
    have n1_ := Aside0.mk (blk_drew BK723.out)
    have n2_ := Aside0.mk (below_drew1 HB.out)
    clear HO727
    clear BK723
    clear HB
    have HO727 := n0_
    have BK723 := n1_
    have HB := n2_
    clear n0_ n1_ n2_
    refine start_ (n := 5) (S := fun w' => w'.cell? ⟨gb723, 0, none⟩ = some (.string a1_0) ∧ w'.cell? ⟨gb723, 1, none⟩ = some (.string a1_1) ∧ w'.cell? ⟨gb723, 2, none⟩ = some (.int .i64 a1_2) ∧ w'.cell? ⟨gb723, 3, none⟩ = some (.int .i64 a1_3)) (ds := []) #[O,O,O,O,O] (by kernel_rfl) rfl rfl ⟨(blk_cell BK723.out 0).trans rfl, (blk_cell BK723.out 1).trans rfl, (blk_cell BK723.out 2).trans rfl, (blk_cell BK723.out 3).trans rfl⟩ (fun hHeld => ?_)
    generalize w15.drew = w16 at HO727 BK723 HB hHeld ⊢
    refine pure_ (i := 0) (N := some 18) (v := ?_) (a' := ?_) #[I,O,O,O,O] rfl rfl (by kernel_rfl) (fun _ _ _ h => h) (Or.inl ⟨by rfl, ?_⟩) ?_ ?_
    rotate_left
    ·intro w'
     go_simp
     with_reducible rfl
    rotate_left
    ·simp only [Act.put, sqA, sqB, sqC, i64_w, i32_w]
     rfl
    refine take_ (i := 2) (N := some 20) (v := ?_) (a' := ?_) #[I,O,I,O,O] rfl rfl (by kernel_rfl) (fun _ _ _ h => h) (Or.inl ⟨by rfl, ?_⟩) hHeld ?_ ?_
    rotate_left
    ·rintro w' ⟨s0, s1, s2, s3⟩
     go_simp
     with_reducible rfl
    rotate_left
    ·simp only [Act.put, sqA, sqB, sqC, i64_w, i32_w]
     rfl
    refine one_ (i := 1) (N := some 19) #[I,I,I,O,O] rfl rfl (by kernel_rfl) (by decide) (fun K hK => ?_)
    refine Kd.R_append_rows_step k57 (w0 := w) w.heap.size (by rfl) (.const (.slice none 0 0)) (.tmp 18) 55 57 (.agg #[(.string ⟨#[]⟩), (.string ⟨#[]⟩), (.int .i64 0), (.int .i64 0)]) 48 rfl Try.underlying55 info57 rfl (by decide) (by omega) (.slice none 0 0) ([] : List (S57)) l0 _ _ _ (fun k_ => some k_ ≠ (.slice Ao14 y725.length co14 : Value).ownBlock ∧ k_ ≠ gb723) (fun _ => False) rfl rfl ?aO ?aR (fun _ _ h => h) (fun _ h => h.elim) ?aF ?aB ?aS ?aL ?_
    (case aR => repeat (first | exact (Kd.C_below HR0.out HB.out) | (with_reducible refine Kd.C_alloc ?_ _) | (with_reducible refine Kd.C_drewN ?_ _) | (with_reducible refine Kd.C_drew ?_)))
    (case aB => exact (by repeat (first | (with_reducible first | exact HB.out | apply below_alloc | apply pw_below_drewN | apply below_drew1 | refine below_set ?_ GE723.out) | exact HB.out)))
    (case aF => exact (fun k_ hk => ⟨Kd.fresh' (Kd.R_lt (by (with_reducible repeat (first | apply Kd.R_alloc | apply Kd.R_drewN | apply Kd.R_drew)); exact HO727.out)) k_ hk, Kd.freshB (g := gb723) (o := .cells #[.string a1_0, .string a1_1, .int .i64 a1_2, .int .i64 a1_3] 57 (0, 0)) (by (with_reducible repeat (first | apply blN | apply blD | apply blA)); exact BK723.out) k_ hk⟩))
    (case aO => exact ((Kd.R_nil _ _ _ _ (fun k_ => some k_ ≠ (.slice Ao14 y725.length co14 : Value).ownBlock ∧ k_ ≠ gb723))))
    (case aS => exact (below_size (by repeat (first | (with_reducible first | exact HB.out | apply below_alloc | apply pw_below_drewN | apply below_drew1 | refine below_set ?_ GE723.out) | exact HB.out))))
    (case aL => have := LMc7.out; omega)
    intro v730 w17 ho hb hg hat
    rw [← Ny729.out] at ho
    have n0_ := Aside0.mk (blk_grown (g := gb723) (o := .cells #[.string a1_0, .string a1_1, .int .i64 a1_2, .int .i64 a1_3] 57 (0, 0)) (by (with_reducible repeat (first | apply blN | apply blD | apply blA)); exact BK723.out) hg (by simp [Value.ownBlock]))
    have n1_ := Aside0.mk (Kd.R_after (Kd.R_apart_nil (by (with_reducible repeat (first | apply Kd.R_alloc | apply Kd.R_drewN | apply Kd.R_drew)); exact HO727.out)) hg hat)
    have n2_ := Aside0.mk (hb)
    have n3_ := Aside0.mk (ho)
    clear BK723
    clear HO727
    clear HB
    have BK723 := n0_
    have HO727 := n1_
    have HB := n2_
    have HO731 := n3_
    clear n0_ n1_ n2_ n3_
    clear ho hb hg hat
    obtain ⟨Ao18, co18, eo18⟩ := Kd.R_slice HO731.out
    (first | subst eo18 | (injection eo18 with f1_ f2_ f3_; have f4_ := f1_.symm; have f5_ := f3_.symm; clear f1_ f2_ f3_; subst f4_; subst f5_))
    refine hK.out _ _ ⟨(blk_cell BK723.out 0).trans rfl, (blk_cell BK723.out 1).trans rfl, (blk_cell BK723.out 2).trans rfl, (blk_cell BK723.out 3).trans rfl⟩ (fun hHeld => ?_)
    clear hK K
    refine norm_ (a' := ?_) ?_ ?_
    rotate_left
    ·show Act.put _ (some 19) _ = _
     simp only [Act.put, sqA, sqB, sqC, i64_w, i32_w]
     rfl
    refine one_ (i := 3) (N := some 21) #[I,I,I,I,O] rfl rfl (by kernel_rfl) (by decide) (fun K hK => ?_)
    refine goes_ Try.func77 (by kernel_rfl) rfl #[.slice Ao18 y729.length co18, .agg #[.string a1_0, .string a1_1, .int .i64 a1_2, .int .i64 a1_3]] (by rfl) rfl rfl (by (try simp only [List.map_toArray, List.map_cons, List.map_nil]); first | done | rfl | (simp only [List.length_drop, List.length_take]; rfl)) ?_
    with_reducible refine (ref08_put.calls k (fun k_ => some k_ = (.slice Ao18 y729.length co18 : Value).ownBlock) (.slice Ao18 y729.length co18) y729 a1_0 a1_1 a1_2 a1_3 t732 w _ ?side1 ?side2 A8.out).mono ?_
    (case side1 => repeat (first | (with_reducible first | exact HB.out | apply below_alloc | apply pw_below_drewN | apply below_drew1 | refine below_set ?_ GE723.out) | exact HB.out))
    (case side2 => exact Kd.R_tight rfl HO731.out)
    rintro e w19 ⟨v733, rfl, ho0, hb, hkp⟩
    refine ⟨_, rfl, ?_⟩
    have n0_ := Aside0.mk (blk_kept (by (with_reducible repeat (first | apply blN | apply blD | apply blA)); exact BK723.out) hkp (fun hs_ => (fun e_ => (Kd.R_away HO731.out (fun _ hk => hk.2)) e_) hs_))
    have n1_ := Aside0.mk (Kd.R_mono (ok' := fun k_ => k_ ≠ gb723 ∧ some k_ ≠ (v733 : Value).ownBlock) (Kd.R_keptB (HO727.out) hkp (fun k_ hk_ hs_ => (hk_.2) hs_)) (fun k_ hk_ => ⟨hk_.1.1.2, fun e_ => Or.elim (ho0.1 k_ e_.symm) (fun hs_ => hk_.2.1 hs_) (fun hn_ => Nat.not_le.2 hk_.2.2 hn_)⟩))
    have n2_ := Aside0.mk (Kd.R_mono (ok' := fun k_ => some k_ ≠ (.slice Ao14 y725.length co14 : Value).ownBlock ∧ k_ ≠ gb723) ho0 (fun k_ hk_ => ⟨Or.elim hk_ (fun hs_ => fun e_ => (((HO727.out).1 k_ e_.symm).2) hs_) (fun hn_ => (Kd.fresh' (Kd.R_lt (by (with_reducible repeat (first | apply Kd.R_alloc | apply Kd.R_drewN | apply Kd.R_drew)); exact HO727.out)) k_ hn_)), Or.elim hk_ (fun hs_ => fun e_ => (Kd.R_away HO731.out (fun _ hk => hk.2)) (by rw [← e_]; exact hs_)) (fun hn_ => (Kd.freshB (g := gb723) (o := .cells #[.string a1_0, .string a1_1, .int .i64 a1_2, .int .i64 a1_3] 57 (0, 0)) (by (with_reducible repeat (first | apply blN | apply blD | apply blA)); exact BK723.out) k_ hn_))⟩))
    have n3_ := Aside0.mk (hb)
    clear BK723
    clear HO727
    clear HB
    clear HO731
    have BK723 := n0_
    have HO727 := n1_
    have HO734 := n2_
    have HB := n3_
    clear n0_ n1_ n2_ n3_
    (try clear hb)
    (try clear hkp)
    (try clear ho0)
    refine hK.out _ _ ⟨(blk_cell BK723.out 0).trans rfl, (blk_cell BK723.out 1).trans rfl, (blk_cell BK723.out 2).trans rfl, (blk_cell BK723.out 3).trans rfl⟩ (fun hHeld => ?_)
    clear hK K
    refine norm_ (a' := ?_) ?_ ?_
    rotate_left
    ·show Act.put _ (some 21) _ = _
     simp only [Act.put, sqA, sqB, sqC, i64_w, i32_w]
     rfl
    refine pure_ (i := 4) (N := some 4) (v := ?_) (a' := ?_) #[I,I,I,I,I] rfl rfl (by kernel_rfl) (fun _ _ _ h => h) (Or.inl ⟨by rfl, ?_⟩) ?_ ?_
    rotate_left
    ·intro w'
     go_simp
     with_reducible rfl
    rotate_left
    ·simp only [Act.put, sqA, sqB, sqC, i64_w, i32_w]
     rfl
    refine done_ (by kernel_rfl) ?_
    try go_wp2
    go_ret
    exact ⟨_, by first | rfl | (simp [errW_none, errW_some] <;> rfl) | (simp [*, errW_none, errW_some] <;> rfl), by (with_reducible repeat (first | apply Kd.R_alloc | apply Kd.R_drewN | apply Kd.R_drew)); exact Kd.R_mono HO734.out (fun _ hk => trivial), by repeat (first | (with_reducible first | exact HB.out | apply below_alloc | apply pw_below_drewN | apply below_drew1 | refine below_set ?_ GE723.out) | exact HB.out)⟩
   ·rw [if_neg c7] at H
    exact absurd H (by simp)
  ·replace c6 := Bool.eq_false_iff.mpr c6
   subst c6
   have H1 : (some ([] : List (S57))) = some r := by rw [if_neg (show ¬ (false = true) by decide)] at H; exact H
   clear H
   have H := H1
   clear H1
   obtain rfl := Option.some.inj H
   go_enter Try.func50, Try.ntmps50
   go_wp2_with (first | ((with_reducible refine gate_dst (N := 3) rfl ?_); refine box_event ?hg (N := 3) ?hd (cs := #[.string a1_0, .string a1_1, .int .i64 a1_2, .int .i64 a1_3]) (t := 57) ?hr ?_; (case hd => rfl); (case hg => rfl); (case hr => first | (go_simp; done) | (go_simp; rfl)); intro gb723 hg w20 hbox hb; have n0_ := Aside0.mk (below_step (by repeat (first | (with_reducible first | exact HB.out | apply below_alloc | apply pw_below_drewN | apply below_drew1) | exact HB.out)) hb); have n1_ := Aside0.mk (hbox); have n2_ := Aside0.mk ((by rw [hg]; exact (below_size (by repeat (first | (with_reducible first | exact HB.out | apply below_alloc | apply pw_below_drewN | apply below_drew1) | exact HB.out))) : w.heap.size ≤ gb723)); have n3_ := Aside0.mk ((by rw [hg]; exact (below_size (by repeat (first | (with_reducible first | exact HB.out | apply below_alloc | apply pw_below_drewN | apply below_drew1) | exact HB.out))) : w.heap.size ≤ gb723)); clear HB; have HB := n0_; have BK723 := n1_; have GW723 := n2_; have GE723 := n3_; clear n0_ n1_ n2_ n3_; clear hb hbox hg) | ((with_reducible refine gate_callee (f := 47) rfl ?_); refine goesL_ (some 8) rfl rfl Try.func47 (by kernel_rfl) rfl #[.slice A0 l0.length c0] rfl (by (try simp only [List.map_toArray, List.map_cons, List.map_nil]); first | done | rfl | (simp only [List.length_drop, List.length_take]; rfl)) ?_; (with_reducible refine (ref08_May.calls k _ _ l0 true _ ?side1 ?side2 A3.out).mono ?_); (case side1 => repeat (first | exact (Kd.C_below HR0.out HB.out) | (with_reducible refine Kd.C_alloc ?_ _) | (with_reducible refine Kd.C_drewN ?_ _) | (with_reducible refine Kd.C_drew ?_))); (case side2 => exact HC0.out); rintro e w21 ⟨rfl, hb⟩; refine ⟨_, rfl, ?_⟩; have n0_ := Aside0.mk (blk_below (g := gb723) (o := .cells #[.string a1_0, .string a1_1, .int .i64 a1_2, .int .i64 a1_3] 57 (0, 0)) (by (with_reducible repeat (first | apply blN | apply blD | apply blA)); exact BK723.out) hb); have n1_ := Aside0.mk (below_step (by repeat (first | (with_reducible first | exact HB.out | apply below_alloc | apply pw_below_drewN | apply below_drew1 | refine below_set ?_ GE723.out) | exact HB.out)) hb); clear BK723; clear HB; have BK723 := n0_; have HB := n1_; clear n0_ n1_; (try clear hb); (try clear hb2); (try clear hk); (try clear hi); have hcz22_0 : w21.cell? ⟨gb723, 0, none⟩ = some (.string a1_0) := (blk_cell BK723.out 0).trans rfl; have hcz22_1 : w21.cell? ⟨gb723, 1, none⟩ = some (.string a1_1) := (blk_cell BK723.out 1).trans rfl; have hcz22_2 : w21.cell? ⟨gb723, 2, none⟩ = some (.int .i64 a1_2) := (blk_cell BK723.out 2).trans rfl; have hcz22_3 : w21.cell? ⟨gb723, 3, none⟩ = some (.int .i64 a1_3) := (blk_cell BK723.out 3).trans rfl; have hfz22_0 := blk_frozen BK723.out 0; have hfz22_1 := blk_frozen BK723.out 1; have hfz22_2 := blk_frozen BK723.out 2; have hfz22_3 := blk_frozen BK723.out 3) | ((with_reducible refine gate_dst (N := 10) rfl ?_); refine Kd.R_lit k57 _ 57 ?hg (N := 10) ?hd (xs := ([(⟨a1_0, a1_1, (⟨a1_2, a1_3⟩ : S24)⟩ : S57)] : List (S57))) (inner := [.string a1_0, .string a1_1, .int .i64 a1_2, .int .i64 a1_3]) (ok := fun _ => True) (okp := fun _ => True) ?hr ?hp (fun _ hk => hk) trivial (Below.refl _ _) (Nat.le_refl _) (by simp) ?_; (case hd => rfl); (case hg => rfl); (case hr => first | (go_simp; done) | (go_simp; rfl)); (case hp => exact (Reps.c4 (show Kd.M k57 _ _ _ (⟨a1_0, a1_1, (⟨a1_2, a1_3⟩ : S24)⟩ : S57) [.string a1_0, .string a1_1, .int .i64 a1_2, .int .i64 a1_3] from (k57_mkM _ _ _ (⟨a1_0, a1_1, (⟨a1_2, a1_3⟩ : S24)⟩ : S57) )) (Reps.none _ _))); intro v726 w23 ho24 hb hg_ hnew_; clear hg_ hnew_; (first | rw [← Ny725.out] at ho24 | (simp only [Int.reduceToNat] at ho24; rw [← Ny725.out] at ho24)); have n0_ := Aside0.mk (Kd.R_lower (Kd.R_newB ho24 (g := gb723) (o := .cells #[.string a1_0, .string a1_1, .int .i64 a1_2, .int .i64 a1_3] 57 (0, 0)) (by (with_reducible repeat (first | apply blN | apply blD | apply blA)); exact BK723.out)) (below_size (by repeat (first | (with_reducible first | exact HB.out | apply below_alloc | apply pw_below_drewN | apply below_drew1 | refine below_set ?_ GE723.out) | exact HB.out)))); have n1_ := Aside0.mk (blk_below (g := gb723) (o := .cells #[.string a1_0, .string a1_1, .int .i64 a1_2, .int .i64 a1_3] 57 (0, 0)) (by (with_reducible repeat (first | apply blN | apply blD | apply blA)); exact BK723.out) hb); have n2_ := Aside0.mk (below_step (by repeat (first | (with_reducible first | exact HB.out | apply below_alloc | apply pw_below_drewN | apply below_drew1 | refine below_set ?_ GE723.out) | exact HB.out)) hb); clear BK723; clear HB; have HO727 := n0_; have BK723 := n1_; have HB := n2_; clear n0_ n1_ n2_; clear hb ho24; obtain ⟨Ao25, co25, eo25⟩ := Kd.R_slice HO727.out; subst eo25) | ((with_reducible refine gate_callee (f := 47) rfl ?_); refine goesL_ (some 11) rfl rfl Try.func47 (by kernel_rfl) rfl #[.slice Ao25 y725.length co25] rfl (by (try simp only [List.map_toArray, List.map_cons, List.map_nil]); first | done | rfl | (simp only [List.length_drop, List.length_take]; rfl)) ?_; (with_reducible refine (ref08_May.calls k _ _ y725 false _ ?side1 ?side2 A4.out).mono ?_); (case side1 => repeat (first | exact (Kd.R_reads' HO727.out).2.2 | (with_reducible refine Kd.C_alloc ?_ _) | (with_reducible refine Kd.C_drewN ?_ _) | (with_reducible refine Kd.C_drew ?_))); (case side2 => exact (Kd.R_reads' HO727.out).2.1); rintro e w26 ⟨rfl, hb⟩; refine ⟨_, rfl, ?_⟩; have n0_ := Aside0.mk (Kd.R_below (by (with_reducible repeat (first | apply Kd.R_alloc | apply Kd.R_drewN | apply Kd.R_drew)); exact HO727.out) hb); have n1_ := Aside0.mk (blk_below (g := gb723) (o := .cells #[.string a1_0, .string a1_1, .int .i64 a1_2, .int .i64 a1_3] 57 (0, 0)) (by (with_reducible repeat (first | apply blN | apply blD | apply blA)); exact BK723.out) hb); have n2_ := Aside0.mk (below_step (by repeat (first | (with_reducible first | exact HB.out | apply below_alloc | apply pw_below_drewN | apply below_drew1 | refine below_set ?_ GE723.out) | exact HB.out)) hb); clear HO727; clear BK723; clear HB; have HO727 := n0_; have BK723 := n1_; have HB := n2_; clear n0_ n1_ n2_; (try clear hb); (try clear hb2); (try clear hk); (try clear hi)))
   go_ret
   exact ⟨_, by first | rfl | (simp [errW_none, errW_some] <;> rfl) | (simp [*, errW_none, errW_some] <;> rfl), by first | exact Kd.R_nil _ _ _ _ _ | exact Kd.N_nil _ _ _ _ _ | exact Kd.V_nil _ _ _ _ _ | exact Kd.Q_nil _ _ _ _ _ | exact Kd.S_nil _ _ _ _ _, by repeat (first | (with_reducible first | exact HB.out | apply below_alloc | apply pw_below_drewN | apply below_drew1 | refine below_set ?_ GE723.out) | exact HB.out)⟩
 ·replace c5 := Bool.eq_false_iff.mpr c5
  subst c5
  have H1 : (some ([] : List (S57))) = some r := by rw [if_neg (show ¬ (false = true) by decide)] at H; exact H
  clear H
  have H := H1
  clear H1
  obtain rfl := Option.some.inj H
  go_enter Try.func50, Try.ntmps50
  go_wp2_with (first | ((with_reducible refine gate_dst (N := 3) rfl ?_); refine box_event ?hg (N := 3) ?hd (cs := #[.string a1_0, .string a1_1, .int .i64 a1_2, .int .i64 a1_3]) (t := 57) ?hr ?_; (case hd => rfl); (case hg => rfl); (case hr => first | (go_simp; done) | (go_simp; rfl)); intro gb723 hg w27 hbox hb; have n0_ := Aside0.mk (below_step (by repeat (first | (with_reducible first | exact HB.out | apply below_alloc | apply pw_below_drewN | apply below_drew1) | exact HB.out)) hb); have n1_ := Aside0.mk (hbox); have n2_ := Aside0.mk ((by rw [hg]; exact (below_size (by repeat (first | (with_reducible first | exact HB.out | apply below_alloc | apply pw_below_drewN | apply below_drew1) | exact HB.out))) : w.heap.size ≤ gb723)); have n3_ := Aside0.mk ((by rw [hg]; exact (below_size (by repeat (first | (with_reducible first | exact HB.out | apply below_alloc | apply pw_below_drewN | apply below_drew1) | exact HB.out))) : w.heap.size ≤ gb723)); clear HB; have HB := n0_; have BK723 := n1_; have GW723 := n2_; have GE723 := n3_; clear n0_ n1_ n2_ n3_; clear hb hbox hg) | ((with_reducible refine gate_callee (f := 47) rfl ?_); refine goesL_ (some 8) rfl rfl Try.func47 (by kernel_rfl) rfl #[.slice A0 l0.length c0] rfl (by (try simp only [List.map_toArray, List.map_cons, List.map_nil]); first | done | rfl | (simp only [List.length_drop, List.length_take]; rfl)) ?_; (with_reducible refine (ref08_May.calls k _ _ l0 false _ ?side1 ?side2 A3.out).mono ?_); (case side1 => repeat (first | exact (Kd.C_below HR0.out HB.out) | (with_reducible refine Kd.C_alloc ?_ _) | (with_reducible refine Kd.C_drewN ?_ _) | (with_reducible refine Kd.C_drew ?_))); (case side2 => exact HC0.out); rintro e w28 ⟨rfl, hb⟩; refine ⟨_, rfl, ?_⟩; have n0_ := Aside0.mk (blk_below (g := gb723) (o := .cells #[.string a1_0, .string a1_1, .int .i64 a1_2, .int .i64 a1_3] 57 (0, 0)) (by (with_reducible repeat (first | apply blN | apply blD | apply blA)); exact BK723.out) hb); have n1_ := Aside0.mk (below_step (by repeat (first | (with_reducible first | exact HB.out | apply below_alloc | apply pw_below_drewN | apply below_drew1 | refine below_set ?_ GE723.out) | exact HB.out)) hb); clear BK723; clear HB; have BK723 := n0_; have HB := n1_; clear n0_ n1_; (try clear hb); (try clear hb2); (try clear hk); (try clear hi); have hcz29_0 : w28.cell? ⟨gb723, 0, none⟩ = some (.string a1_0) := (blk_cell BK723.out 0).trans rfl; have hcz29_1 : w28.cell? ⟨gb723, 1, none⟩ = some (.string a1_1) := (blk_cell BK723.out 1).trans rfl; have hcz29_2 : w28.cell? ⟨gb723, 2, none⟩ = some (.int .i64 a1_2) := (blk_cell BK723.out 2).trans rfl; have hcz29_3 : w28.cell? ⟨gb723, 3, none⟩ = some (.int .i64 a1_3) := (blk_cell BK723.out 3).trans rfl; have hfz29_0 := blk_frozen BK723.out 0; have hfz29_1 := blk_frozen BK723.out 1; have hfz29_2 := blk_frozen BK723.out 2; have hfz29_3 := blk_frozen BK723.out 3) | ((with_reducible refine gate_dst (N := 10) rfl ?_); refine Kd.R_lit k57 _ 57 ?hg (N := 10) ?hd (xs := ([(⟨a1_0, a1_1, (⟨a1_2, a1_3⟩ : S24)⟩ : S57)] : List (S57))) (inner := [.string a1_0, .string a1_1, .int .i64 a1_2, .int .i64 a1_3]) (ok := fun _ => True) (okp := fun _ => True) ?hr ?hp (fun _ hk => hk) trivial (Below.refl _ _) (Nat.le_refl _) (by simp) ?_; (case hd => rfl); (case hg => rfl); (case hr => first | (go_simp; done) | (go_simp; rfl)); (case hp => exact (Reps.c4 (show Kd.M k57 _ _ _ (⟨a1_0, a1_1, (⟨a1_2, a1_3⟩ : S24)⟩ : S57) [.string a1_0, .string a1_1, .int .i64 a1_2, .int .i64 a1_3] from (k57_mkM _ _ _ (⟨a1_0, a1_1, (⟨a1_2, a1_3⟩ : S24)⟩ : S57) )) (Reps.none _ _))); intro v726 w30 ho31 hb hg_ hnew_; clear hg_ hnew_; (first | rw [← Ny725.out] at ho31 | (simp only [Int.reduceToNat] at ho31; rw [← Ny725.out] at ho31)); have n0_ := Aside0.mk (Kd.R_lower (Kd.R_newB ho31 (g := gb723) (o := .cells #[.string a1_0, .string a1_1, .int .i64 a1_2, .int .i64 a1_3] 57 (0, 0)) (by (with_reducible repeat (first | apply blN | apply blD | apply blA)); exact BK723.out)) (below_size (by repeat (first | (with_reducible first | exact HB.out | apply below_alloc | apply pw_below_drewN | apply below_drew1 | refine below_set ?_ GE723.out) | exact HB.out)))); have n1_ := Aside0.mk (blk_below (g := gb723) (o := .cells #[.string a1_0, .string a1_1, .int .i64 a1_2, .int .i64 a1_3] 57 (0, 0)) (by (with_reducible repeat (first | apply blN | apply blD | apply blA)); exact BK723.out) hb); have n2_ := Aside0.mk (below_step (by repeat (first | (with_reducible first | exact HB.out | apply below_alloc | apply pw_below_drewN | apply below_drew1 | refine below_set ?_ GE723.out) | exact HB.out)) hb); clear BK723; clear HB; have HO727 := n0_; have BK723 := n1_; have HB := n2_; clear n0_ n1_ n2_; clear hb ho31; obtain ⟨Ao32, co32, eo32⟩ := Kd.R_slice HO727.out; subst eo32) | ((with_reducible refine gate_callee (f := 47) rfl ?_); refine goesL_ (some 11) rfl rfl Try.func47 (by kernel_rfl) rfl #[.slice Ao32 y725.length co32] rfl (by (try simp only [List.map_toArray, List.map_cons, List.map_nil]); first | done | rfl | (simp only [List.length_drop, List.length_take]; rfl)) ?_; (with_reducible refine (ref08_May.calls k _ _ y725 t728 _ ?side1 ?side2 A4.out).mono ?_); (case side1 => repeat (first | exact (Kd.R_reads' HO727.out).2.2 | (with_reducible refine Kd.C_alloc ?_ _) | (with_reducible refine Kd.C_drewN ?_ _) | (with_reducible refine Kd.C_drew ?_))); (case side2 => exact (Kd.R_reads' HO727.out).2.1); rintro e w33 ⟨rfl, hb⟩; refine ⟨_, rfl, ?_⟩; have n0_ := Aside0.mk (Kd.R_below (by (with_reducible repeat (first | apply Kd.R_alloc | apply Kd.R_drewN | apply Kd.R_drew)); exact HO727.out) hb); have n1_ := Aside0.mk (blk_below (g := gb723) (o := .cells #[.string a1_0, .string a1_1, .int .i64 a1_2, .int .i64 a1_3] 57 (0, 0)) (by (with_reducible repeat (first | apply blN | apply blD | apply blA)); exact BK723.out) hb); have n2_ := Aside0.mk (below_step (by repeat (first | (with_reducible first | exact HB.out | apply below_alloc | apply pw_below_drewN | apply below_drew1 | refine below_set ?_ GE723.out) | exact HB.out)) hb); clear HO727; clear BK723; clear HB; have HO727 := n0_; have BK723 := n1_; have HB := n2_; clear n0_ n1_ n2_; (try clear hb); (try clear hb2); (try clear hk); (try clear hi)))
  go_ret
  exact ⟨_, by first | rfl | (simp [errW_none, errW_some] <;> rfl) | (simp [*, errW_none, errW_some] <;> rfl), by first | exact Kd.R_nil _ _ _ _ _ | exact Kd.N_nil _ _ _ _ _ | exact Kd.V_nil _ _ _ _ _ | exact Kd.Q_nil _ _ _ _ _ | exact Kd.S_nil _ _ _ _ _, by repeat (first | (with_reducible first | exact HB.out | apply below_alloc | apply pw_below_drewN | apply below_drew1 | refine below_set ?_ GE723.out) | exact HB.out)⟩

/-! ### ref08_Del: function 52 -/
mutual
def ref08_Del.l0 : Nat → List (S57) → ByteArray → ByteArray → Bool → List (S57) → Int → Option ((List (S57)))
 | 0, _, _, _, _, _, _ => none
 | k + 1, x0, x1, x2, x7, x8, x9 => if x9 < (x0.length : Int) then (ref08_Del.j1 k x0 x1 x2 x7 x8 x9 x7) else (ref08_Del.j1 k x0 x1 x2 x7 x8 x9 false)
def ref08_Del.j1 : Nat → List (S57) → ByteArray → ByteArray → Bool → List (S57) → Int → Bool → Option ((List (S57)))
 | 0, _, _, _, _, _, _, _ => none
 | k + 1, x0, x1, x2, x7, x8, x9, x18 => if x18 = true then (if 0 ≤ x9 then (if x9 < (x0.length : Int) then (if ((rd_T57 x0 x9).f0).toList = x1.toList then (if ((rd_T57 x0 x9).f1).toList = x2.toList then (ref08_Del.l0 k x0 x1 x2 x7 x8 (wrap64 (x9 + 1))) else (if x8.length < 2932031007402 then (ref08_Del.l0 k x0 x1 x2 x7 (x8 ++ [(⟨(rd_T57 x0 x9).f0, (rd_T57 x0 x9).f1, (⟨(rd_T57 x0 x9).f2.f0, (rd_T57 x0 x9).f2.f1⟩ : S24)⟩ : S57)]) (wrap64 (x9 + 1))) else (none))) else (if x8.length < 2932031007402 then (ref08_Del.l0 k x0 x1 x2 x7 (x8 ++ [(⟨(rd_T57 x0 x9).f0, (rd_T57 x0 x9).f1, (⟨(rd_T57 x0 x9).f2.f0, (rd_T57 x0 x9).f2.f1⟩ : S24)⟩ : S57)]) (wrap64 (x9 + 1))) else (none))) else (none)) else (none)) else (some x8)
end
def ref08_Del.f (k : Nat) (l0 : List (S57)) (a1 : ByteArray) (a2 : ByteArray) : Option ((List (S57))) := (ref08_May.f k l0).bind fun t735 => (ref08_Del.l0 k l0 a1 a2 t735 ([] : List (S57)) 0)
theorem ref08_Del.mono_l : ∀ k, (∀ y0 y1 y2 y3 y4 y5, LeO (ref08_Del.l0 k y0 y1 y2 y3 y4 y5) (ref08_Del.l0 (k + 1) y0 y1 y2 y3 y4 y5)) ∧ (∀ y0 y1 y2 y3 y4 y5 y6, LeO (ref08_Del.j1 k y0 y1 y2 y3 y4 y5 y6) (ref08_Del.j1 (k + 1) y0 y1 y2 y3 y4 y5 y6))
 | 0 => ⟨fun _ _ _ _ _ _ r h => by simp [ref08_Del.l0] at h, fun _ _ _ _ _ _ _ r h => by simp [ref08_Del.j1] at h⟩
 | k + 1 => by
  obtain ⟨ih0, ih1⟩ := ref08_Del.mono_l k
  refine ⟨?_, ?_⟩
  ·intro y0 y1 y2 y3 y4 y5
   unfold ref08_Del.l0
   repeat' first
   | (with_reducible exact ih0 _ _ _ _ _ _)
   | (with_reducible exact ih1 _ _ _ _ _ _ _)
   | (with_reducible exact ref08_May.mono _ _)
   | (with_reducible exact LeO.refl _)
   | (with_reducible exact LeO.none _)
   | (with_reducible refine LeO.ite ?_ ?_)
   | (with_reducible refine LeO.bind ?_ (fun _ => ?_))
   | exact ih0 _ _ _ _ _ _
   | exact ih1 _ _ _ _ _ _ _
   | exact ref08_May.mono _ _
   | exact LeO.none _
   | refine LeO.ite ?_ ?_
   | refine LeO.bind ?_ (fun _ => ?_)
  ·intro y0 y1 y2 y3 y4 y5 y6
   unfold ref08_Del.j1
   repeat' first
   | (with_reducible exact ih0 _ _ _ _ _ _)
   | (with_reducible exact ih1 _ _ _ _ _ _ _)
   | (with_reducible exact ref08_May.mono _ _)
   | (with_reducible exact LeO.refl _)
   | (with_reducible exact LeO.none _)
   | (with_reducible refine LeO.ite ?_ ?_)
   | (with_reducible refine LeO.bind ?_ (fun _ => ?_))
   | exact ih0 _ _ _ _ _ _
   | exact ih1 _ _ _ _ _ _ _
   | exact ref08_May.mono _ _
   | exact LeO.none _
   | refine LeO.ite ?_ ?_
   | refine LeO.bind ?_ (fun _ => ?_)
theorem ref08_Del.mono : ∀ a0 a1 a2 k, LeO (ref08_Del.f k a0 a1 a2) (ref08_Del.f (k + 1) a0 a1 a2) := by
 intro a0 a1 a2 k
 obtain ⟨ih0, ih1⟩ := ref08_Del.mono_l k
 unfold ref08_Del.f
 repeat' first
   | (with_reducible exact ih0 _ _ _ _ _ _)
   | (with_reducible exact ih1 _ _ _ _ _ _ _)
   | (with_reducible exact ref08_May.mono _ _)
   | (with_reducible exact LeO.refl _)
   | (with_reducible exact LeO.none _)
   | (with_reducible refine LeO.ite ?_ ?_)
   | (with_reducible refine LeO.bind ?_ (fun _ => ?_))
   | exact ih0 _ _ _ _ _ _
   | exact ih1 _ _ _ _ _ _ _
   | exact ref08_May.mono _ _
   | exact LeO.none _
   | refine LeO.ite ?_ ?_
   | refine LeO.bind ?_ (fun _ => ?_)
set_option maxHeartbeats 8000000 in
set_option maxRecDepth 100000 in
theorem ref08_Del.calls (k : Nat) (A0 : Option Addr) (c0 : Nat) (l0 : List (S57)) (a1 : ByteArray) (a2 : ByteArray) (r : List (S57)) (w : World) (hr0 : Kd.C k57 w A0 l0.length l0) (hc0 : l0.length ≤ c0) (h : ref08_Del.f k l0 a1 a2 = some r) :
  Calls Try.prog 52 #[.slice A0 l0.length c0, .string a1, .string a2] w fun e w' => ∃ v0_ : Value, e = .returned (v0_) ∧ Kd.R k57 57 w' w.heap.size (fun _ => True) v0_ r ∧ Below w.heap.size w w' := by
 have hu57 := Try.underlying57
 have HR0 := Aside0.mk hr0
 have HC0 := Aside0.mk hc0
 clear hr0 hc0
 have HB := Aside0.mk (Below.refl w.heap.size w)
 have H : ((ref08_May.f k l0).bind fun t735 => (ref08_Del.l0 k l0 a1 a2 t735 ([] : List (S57)) 0)) = some r := h
 clear h
 replace H := Option.bind_eq_some_iff.mp H
 obtain ⟨t735, A40, H⟩ := H
 replace H : (ref08_Del.l0 k l0 a1 a2 t735 ([] : List (S57)) 0) = some r := H
 have A4 := Aside0.mk A40
 clear A40
 have H' := Aside0.mk H
 clear H
 go_enter Try.func52, Try.ntmps52
 go_wp2_with (first | ((with_reducible refine gate_callee (f := 47) rfl ?_); refine goesL_ (some 11) rfl rfl Try.func47 (by kernel_rfl) rfl #[.slice A0 l0.length c0] rfl (by (try simp only [List.map_toArray, List.map_cons, List.map_nil]); first | done | rfl | (simp only [List.length_drop, List.length_take]; rfl)) ?_; (with_reducible refine (ref08_May.calls k _ _ l0 t735 _ ?side1 ?side2 A4.out).mono ?_); (case side1 => repeat (first | exact HR0.out | (with_reducible refine Kd.C_alloc ?_ _) | (with_reducible refine Kd.C_drewN ?_ _) | (with_reducible refine Kd.C_drew ?_))); (case side2 => exact HC0.out); rintro e w5 ⟨rfl, hb⟩; refine ⟨_, rfl, ?_⟩; have n0_ := Aside0.mk (below_step (by repeat (first | (with_reducible first | exact HB.out | apply below_alloc | apply pw_below_drewN | apply below_drew1) | exact HB.out)) hb); clear HB; have HB := n0_; clear n0_; (try clear hb); (try clear hb2); (try clear hk); (try clear hi)))
 go_loopg [8, 9] k (fun kq v8 v9 w' => ∃ (x8_1 : List (S57)) (x9_1 : Int), v9 = .int .i64 x9_1 ∧ Aside0 (ref08_Del.l0 kq l0 a1 a2 t735 x8_1 x9_1 = some r) ∧ Aside0 (kq ≤ k) ∧ Aside0 (Kd.R k57 57 w' w.heap.size (fun _ => True) v8 x8_1) ∧ Aside0 (Below w.heap.size w w'))
 case atStart => exact ⟨(([] : List (S57))), (0), (by first | rfl | (simp; done) | (simp [*]; done)), H', ⟨Nat.le_refl _⟩, ⟨by first | exact Kd.R_nil _ _ _ _ _ | exact Kd.N_nil _ _ _ _ _ | exact Kd.V_nil _ _ _ _ _ | exact Kd.Q_nil _ _ _ _ _ | exact Kd.S_nil _ _ _ _ _⟩, ⟨by repeat (first | (with_reducible first | exact HB.out | apply below_alloc | apply pw_below_drewN | apply below_drew1) | exact HB.out)⟩⟩
 case round =>
  clear H'
  try clear p2
  try clear c4
  try clear c5
  obtain ⟨x8_1, x9_1, rfl, HA, HK1, HO_8, HB⟩ := hrel
  cases gk with
  | zero => exact absurd HA.out (by simp [ref08_Del.l0])
  | succ k1 =>
   have H := HA.out
   clear HA
   simp only [ref08_Del.l0] at H
   have HC6 := Aside0.mk H
   clear H
   go_upto_region 4 with (fail)
   go_cut [18] (fun v18 wc => ∃ (kq : Nat) (x18_5 : Bool), v18 = .bool x18_5 ∧ Aside0 (ref08_Del.j1 kq l0 a1 a2 t735 x8_1 x9_1 x18_5 = some r) ∧ Aside0 (kq ≤ k1) ∧ Aside0 (Kd.R k57 57 wc w.heap.size (fun _ => True) u8 x8_1) ∧ Aside0 (Below w.heap.size w wc))
   case first =>
    have H := HC6.out
    clear HC6
    by_cases c7 : x9_1 < (l0.length : Int)
    ·rw [if_pos c7] at H
     have c7b0 : decide (x9_1 < (l0.length : Int)) = true := decide_eq_true c7
     clear c7
     (first | rw [c7b0] | (simp only [i64_w, i32_w]; rw [c7b0]) | skip)
     have H' := Aside0.mk H
     clear H
     go_wp2
     go_meet
     case rel => exact ⟨_, (t735), (by first | rfl | (simp; done) | (simp [*]; done)), H', ⟨by have := HK1.out; first | omega | exact Nat.le_refl _⟩, ⟨by (with_reducible repeat (first | apply Kd.R_alloc | apply Kd.R_drewN | apply Kd.R_drew)); exact HO_8.out⟩, ⟨by repeat (first | (with_reducible first | exact HB.out | apply below_alloc | apply pw_below_drewN | apply below_drew1) | exact HB.out)⟩⟩
    ·rw [if_neg c7] at H
     have c7b0 : decide (x9_1 < (l0.length : Int)) = false := decide_eq_false c7
     clear c7
     (first | rw [c7b0] | (simp only [i64_w, i32_w]; rw [c7b0]) | skip)
     have H' := Aside0.mk H
     clear H
     go_wp2
     go_meet
     case rel => exact ⟨_, (false), (by first | rfl | (simp; done) | (simp [*]; done)), H', ⟨by have := HK1.out; first | omega | exact Nat.le_refl _⟩, ⟨by (with_reducible repeat (first | apply Kd.R_alloc | apply Kd.R_drewN | apply Kd.R_drew)); exact HO_8.out⟩, ⟨by repeat (first | (with_reducible first | exact HB.out | apply below_alloc | apply pw_below_drewN | apply below_drew1) | exact HB.out)⟩⟩
   case rest =>
    clear HC6
    try clear p2
    try clear c4
    try clear c5
    try clear c7
    try clear c7b0
    try clear p2
    obtain ⟨kq, x18_5, rfl, HA, HJ5, HO_8, HB⟩ := hcut
    cases kq with
    | zero => exact absurd HA.out (by simp [ref08_Del.j1])
    | succ kj5 =>
     have H := HA.out
     clear HA
     simp only [ref08_Del.j1] at H
     by_cases c8 : x18_5 = true
     ·subst c8
      have H1 : (if 0 ≤ x9_1 then (if x9_1 < (l0.length : Int) then (if ((rd_T57 l0 x9_1).f0).toList = a1.toList then (if ((rd_T57 l0 x9_1).f1).toList = a2.toList then (ref08_Del.l0 kj5 l0 a1 a2 t735 x8_1 (wrap64 (x9_1 + 1))) else (if x8_1.length < 2932031007402 then (ref08_Del.l0 kj5 l0 a1 a2 t735 (x8_1 ++ [(⟨(rd_T57 l0 x9_1).f0, (rd_T57 l0 x9_1).f1, (⟨(rd_T57 l0 x9_1).f2.f0, (rd_T57 l0 x9_1).f2.f1⟩ : S24)⟩ : S57)]) (wrap64 (x9_1 + 1))) else (none))) else (if x8_1.length < 2932031007402 then (ref08_Del.l0 kj5 l0 a1 a2 t735 (x8_1 ++ [(⟨(rd_T57 l0 x9_1).f0, (rd_T57 l0 x9_1).f1, (⟨(rd_T57 l0 x9_1).f2.f0, (rd_T57 l0 x9_1).f2.f1⟩ : S24)⟩ : S57)]) (wrap64 (x9_1 + 1))) else (none))) else (none)) else (none)) = some r := by rw [if_pos rfl] at H; exact H
      clear H
      have H := H1
      clear H1
      by_cases c9 : 0 ≤ x9_1
      ·rw [if_pos c9] at H
       have c9b0 : decide (0 ≤ x9_1) = true := decide_eq_true c9
       clear c9
       by_cases c10 : x9_1 < (l0.length : Int)
       ·rw [if_pos c10] at H
        have c10b0 : decide (x9_1 < (l0.length : Int)) = true := decide_eq_true c10
        clear c10
        by_cases c11 : ((rd_T57 l0 x9_1).f0).toList = a1.toList
        ·rw [if_pos c11] at H
         have c11b0 : (((rd_T57 l0 x9_1).f0).toList == a1.toList) = true := beq_iff_eq.mpr c11
         have c11b1 : (((rd_T57 l0 x9_1).f0).toList != a1.toList) = false := bne_eq_false_iff_eq.mpr c11
         clear c11
         by_cases c12 : ((rd_T57 l0 x9_1).f1).toList = a2.toList
         ·rw [if_pos c12] at H
          have c12b0 : (((rd_T57 l0 x9_1).f1).toList == a2.toList) = true := beq_iff_eq.mpr c12
          have c12b1 : (((rd_T57 l0 x9_1).f1).toList != a2.toList) = false := bne_eq_false_iff_eq.mpr c12
          clear c12
          have H' := Aside0.mk H
          clear H
          have p736 : 0 ≤ (x9_1 : Int) := of_decide_eq_true (by first | (with_reducible assumption) | assumption)
          have q736 : x9_1 < (l0.length : Int) := of_decide_eq_true (by first | (with_reducible assumption) | assumption)
          obtain ⟨ad736, e736, hx736_0, hx736_1, hx736_2, hx736_3⟩ := at_T57 HR0.out x9_1 p736 q736
          cases e736
          replace hx736_0 := (HB.out.cell (World.block_lt_of_cell? w _ hx736_0)).trans hx736_0
          replace hx736_1 := (HB.out.cell (World.block_lt_of_cell? w _ hx736_1)).trans hx736_1
          replace hx736_2 := (HB.out.cell (World.block_lt_of_cell? w _ hx736_2)).trans hx736_2
          replace hx736_3 := (HB.out.cell (World.block_lt_of_cell? w _ hx736_3)).trans hx736_3
          replace p736 := eq_true p736
          replace q736 := eq_true q736
          have p737 : 0 ≤ (x9_1 : Int) := of_decide_eq_true (by first | (with_reducible assumption) | assumption)
          have q737 : x9_1 < (l0.length : Int) := of_decide_eq_true (by first | (with_reducible assumption) | assumption)
          obtain ⟨ad737, e737, hx737_0, hx737_1, hx737_2, hx737_3⟩ := at_T57 HR0.out x9_1 p737 q737
          obtain rfl : ad736 = ad737 := (by injection e737)
          replace hx737_0 := (HB.out.cell (World.block_lt_of_cell? w _ hx737_0)).trans hx737_0
          replace hx737_1 := (HB.out.cell (World.block_lt_of_cell? w _ hx737_1)).trans hx737_1
          replace hx737_2 := (HB.out.cell (World.block_lt_of_cell? w _ hx737_2)).trans hx737_2
          replace hx737_3 := (HB.out.cell (World.block_lt_of_cell? w _ hx737_3)).trans hx737_3
          replace p737 := eq_true p737
          replace q737 := eq_true q737
          go_wp2
          go_roundg kj5
          case measure => have := HK1.out; have := HJ5.out; omega
          case rel => exact ⟨(x8_1), (wrap64 (x9_1 + 1)), (by first | rfl | (simp; done) | (simp [*]; done)), H', ⟨by have := HK1.out; have := HJ5.out; omega⟩, ⟨by (with_reducible repeat (first | apply Kd.R_alloc | apply Kd.R_drewN | apply Kd.R_drew)); exact HO_8.out⟩, ⟨by repeat (first | (with_reducible first | exact HB.out | apply below_alloc | apply pw_below_drewN | apply below_drew1) | exact HB.out)⟩⟩
         ·rw [if_neg c12] at H
          have c12b0 : (((rd_T57 l0 x9_1).f1).toList == a2.toList) = false := beq_eq_false_iff_ne.mpr c12
          have c12b1 : (((rd_T57 l0 x9_1).f1).toList != a2.toList) = true := bne_iff_ne.mpr c12
          by_cases c13 : x8_1.length < 2932031007402
          ·rw [if_pos c13] at H
           have LMc13 := Aside0.mk c13
           clear c13
           obtain ⟨y739, hy739⟩ : ∃ y_ : List (S57), y_ = (x8_1 ++ [(⟨(rd_T57 l0 x9_1).f0, (rd_T57 l0 x9_1).f1, (⟨(rd_T57 l0 x9_1).f2.f0, (rd_T57 l0 x9_1).f2.f1⟩ : S24)⟩ : S57)]) := ⟨_, rfl⟩
           replace H : (ref08_Del.l0 kj5 l0 a1 a2 t735 y739 (wrap64 (x9_1 + 1))) = some r := by first | (rw [hy739]; with_reducible exact H) | (have H2_ := (Option.bind_some _ _).symm.trans H; rw [hy739]; with_reducible exact H2_) | (have H2_ := (Option.bind_some _ _).symm.trans H; with_reducible exact H2_) | with_reducible exact H | (rw [hy739]; exact H) | exact H
           have Ny739 := Aside0.mk hy739
           clear hy739
           have H' := Aside0.mk H
           clear H
           have p736 : 0 ≤ (x9_1 : Int) := of_decide_eq_true (by first | (with_reducible assumption) | assumption)
           have q736 : x9_1 < (l0.length : Int) := of_decide_eq_true (by first | (with_reducible assumption) | assumption)
           obtain ⟨ad736, e736, hx736_0, hx736_1, hx736_2, hx736_3⟩ := at_T57 HR0.out x9_1 p736 q736
           cases e736
           replace hx736_0 := (HB.out.cell (World.block_lt_of_cell? w _ hx736_0)).trans hx736_0
           replace hx736_1 := (HB.out.cell (World.block_lt_of_cell? w _ hx736_1)).trans hx736_1
           replace hx736_2 := (HB.out.cell (World.block_lt_of_cell? w _ hx736_2)).trans hx736_2
           replace hx736_3 := (HB.out.cell (World.block_lt_of_cell? w _ hx736_3)).trans hx736_3
           replace p736 := eq_true p736
           replace q736 := eq_true q736
           have p737 : 0 ≤ (x9_1 : Int) := of_decide_eq_true (by first | (with_reducible assumption) | assumption)
           have q737 : x9_1 < (l0.length : Int) := of_decide_eq_true (by first | (with_reducible assumption) | assumption)
           obtain ⟨ad737, e737, hx737_0, hx737_1, hx737_2, hx737_3⟩ := at_T57 HR0.out x9_1 p737 q737
           obtain rfl : ad736 = ad737 := (by injection e737)
           replace hx737_0 := (HB.out.cell (World.block_lt_of_cell? w _ hx737_0)).trans hx737_0
           replace hx737_1 := (HB.out.cell (World.block_lt_of_cell? w _ hx737_1)).trans hx737_1
           replace hx737_2 := (HB.out.cell (World.block_lt_of_cell? w _ hx737_2)).trans hx737_2
           replace hx737_3 := (HB.out.cell (World.block_lt_of_cell? w _ hx737_3)).trans hx737_3
           replace p737 := eq_true p737
           replace q737 := eq_true q737
           have p738 : 0 ≤ (x9_1 : Int) := of_decide_eq_true (by first | (with_reducible assumption) | assumption)
           have q738 : x9_1 < (l0.length : Int) := of_decide_eq_true (by first | (with_reducible assumption) | assumption)
           obtain ⟨ad738, e738, hx738_0, hx738_1, hx738_2, hx738_3⟩ := at_T57 HR0.out x9_1 p738 q738
           obtain rfl : ad736 = ad738 := (by injection e738)
           replace hx738_0 := (HB.out.cell (World.block_lt_of_cell? w _ hx738_0)).trans hx738_0
           replace hx738_1 := (HB.out.cell (World.block_lt_of_cell? w _ hx738_1)).trans hx738_1
           replace hx738_2 := (HB.out.cell (World.block_lt_of_cell? w _ hx738_2)).trans hx738_2
           replace hx738_3 := (HB.out.cell (World.block_lt_of_cell? w _ hx738_3)).trans hx738_3
           replace p738 := eq_true p738
           replace q738 := eq_true q738
           go_wp2_with (first | ((with_reducible refine gate_builtin (b := .append) (xs := #[.tmp 37, .tmp 42]) rfl ?_); at_builtin; refine Kd.R_append k57 (w0 := w) w.heap.size rfl (.tmp 37) (.tmp 42) 55 57 (.agg #[(.string ⟨#[]⟩), (.string ⟨#[]⟩), (.int .i64 0), (.int .i64 0)]) 48 rfl Try.underlying55 info57 rfl (by decide) (by omega) u8 x8_1 (⟨(rd_T57 l0 x9_1).f0, (rd_T57 l0 x9_1).f1, (⟨(rd_T57 l0 x9_1).f2.f0, (rd_T57 l0 x9_1).f2.f1⟩ : S24)⟩ : S57) [.string ((rd_T57 l0 x9_1).f0), .string ((rd_T57 l0 x9_1).f1), .int .i64 ((rd_T57 l0 x9_1).f2.f0), .int .i64 ((rd_T57 l0 x9_1).f2.f1)] (fun _ => True) (fun _ => False) rfl rfl ?aP (fun _ hk => hk.elim) ?aF ?aO ?aB ?aS ?aL ?_; (case aP => exact k57_mkM _ _ _ (⟨(rd_T57 l0 x9_1).f0, (rd_T57 l0 x9_1).f1, (⟨(rd_T57 l0 x9_1).f2.f0, (rd_T57 l0 x9_1).f2.f1⟩ : S24)⟩ : S57)); (case aB => exact (by repeat (first | (with_reducible first | exact HB.out | apply below_alloc | apply pw_below_drewN | apply below_drew1) | exact HB.out))); (case aF => exact (fun _ _ => trivial)); (case aO => exact (by (with_reducible repeat (first | apply Kd.R_alloc | apply Kd.R_drewN | apply Kd.R_drew)); exact HO_8.out)); (case aS => exact (below_size (by repeat (first | (with_reducible first | exact HB.out | apply below_alloc | apply pw_below_drewN | apply below_drew1) | exact HB.out)))); (case aL => have := LMc13.out; omega); intro v740 w14 ho hb hg hat; rw [← Ny739.out] at ho; have n0_ := Aside0.mk (hb); have n1_ := Aside0.mk (ho); clear HB; clear HO_8; have HB := n0_; have HO741 := n1_; clear n0_ n1_; clear ho hb hg hat))
           go_roundg kj5
           case measure => have := HK1.out; have := HJ5.out; omega
           case rel => exact ⟨(y739), (wrap64 (x9_1 + 1)), (by first | rfl | (simp; done) | (simp [*]; done)), H', ⟨by have := HK1.out; have := HJ5.out; omega⟩, ⟨by (with_reducible repeat (first | apply Kd.R_alloc | apply Kd.R_drewN | apply Kd.R_drew)); exact HO741.out⟩, ⟨by repeat (first | (with_reducible first | exact HB.out | apply below_alloc | apply pw_below_drewN | apply below_drew1) | exact HB.out)⟩⟩
          ·rw [if_neg c13] at H
           exact absurd H (by simp)
        ·rw [if_neg c11] at H
         have c11b0 : (((rd_T57 l0 x9_1).f0).toList == a1.toList) = false := beq_eq_false_iff_ne.mpr c11
         have c11b1 : (((rd_T57 l0 x9_1).f0).toList != a1.toList) = true := bne_iff_ne.mpr c11
         by_cases c15 : x8_1.length < 2932031007402
         ·rw [if_pos c15] at H
          have LMc15 := Aside0.mk c15
          clear c15
          obtain ⟨y743, hy743⟩ : ∃ y_ : List (S57), y_ = (x8_1 ++ [(⟨(rd_T57 l0 x9_1).f0, (rd_T57 l0 x9_1).f1, (⟨(rd_T57 l0 x9_1).f2.f0, (rd_T57 l0 x9_1).f2.f1⟩ : S24)⟩ : S57)]) := ⟨_, rfl⟩
          replace H : (ref08_Del.l0 kj5 l0 a1 a2 t735 y743 (wrap64 (x9_1 + 1))) = some r := by first | (rw [hy743]; with_reducible exact H) | (have H2_ := (Option.bind_some _ _).symm.trans H; rw [hy743]; with_reducible exact H2_) | (have H2_ := (Option.bind_some _ _).symm.trans H; with_reducible exact H2_) | with_reducible exact H | (rw [hy743]; exact H) | exact H
          have Ny743 := Aside0.mk hy743
          clear hy743
          have H' := Aside0.mk H
          clear H
          have p736 : 0 ≤ (x9_1 : Int) := of_decide_eq_true (by first | (with_reducible assumption) | assumption)
          have q736 : x9_1 < (l0.length : Int) := of_decide_eq_true (by first | (with_reducible assumption) | assumption)
          obtain ⟨ad736, e736, hx736_0, hx736_1, hx736_2, hx736_3⟩ := at_T57 HR0.out x9_1 p736 q736
          cases e736
          replace hx736_0 := (HB.out.cell (World.block_lt_of_cell? w _ hx736_0)).trans hx736_0
          replace hx736_1 := (HB.out.cell (World.block_lt_of_cell? w _ hx736_1)).trans hx736_1
          replace hx736_2 := (HB.out.cell (World.block_lt_of_cell? w _ hx736_2)).trans hx736_2
          replace hx736_3 := (HB.out.cell (World.block_lt_of_cell? w _ hx736_3)).trans hx736_3
          replace p736 := eq_true p736
          replace q736 := eq_true q736
          have p742 : 0 ≤ (x9_1 : Int) := of_decide_eq_true (by first | (with_reducible assumption) | assumption)
          have q742 : x9_1 < (l0.length : Int) := of_decide_eq_true (by first | (with_reducible assumption) | assumption)
          obtain ⟨ad742, e742, hx742_0, hx742_1, hx742_2, hx742_3⟩ := at_T57 HR0.out x9_1 p742 q742
          obtain rfl : ad736 = ad742 := (by injection e742)
          replace hx742_0 := (HB.out.cell (World.block_lt_of_cell? w _ hx742_0)).trans hx742_0
          replace hx742_1 := (HB.out.cell (World.block_lt_of_cell? w _ hx742_1)).trans hx742_1
          replace hx742_2 := (HB.out.cell (World.block_lt_of_cell? w _ hx742_2)).trans hx742_2
          replace hx742_3 := (HB.out.cell (World.block_lt_of_cell? w _ hx742_3)).trans hx742_3
          replace p742 := eq_true p742
          replace q742 := eq_true q742
          go_wp2_with (first | ((with_reducible refine gate_builtin (b := .append) (xs := #[.tmp 37, .tmp 42]) rfl ?_); at_builtin; refine Kd.R_append k57 (w0 := w) w.heap.size rfl (.tmp 37) (.tmp 42) 55 57 (.agg #[(.string ⟨#[]⟩), (.string ⟨#[]⟩), (.int .i64 0), (.int .i64 0)]) 48 rfl Try.underlying55 info57 rfl (by decide) (by omega) u8 x8_1 (⟨(rd_T57 l0 x9_1).f0, (rd_T57 l0 x9_1).f1, (⟨(rd_T57 l0 x9_1).f2.f0, (rd_T57 l0 x9_1).f2.f1⟩ : S24)⟩ : S57) [.string ((rd_T57 l0 x9_1).f0), .string ((rd_T57 l0 x9_1).f1), .int .i64 ((rd_T57 l0 x9_1).f2.f0), .int .i64 ((rd_T57 l0 x9_1).f2.f1)] (fun _ => True) (fun _ => False) rfl rfl ?aP (fun _ hk => hk.elim) ?aF ?aO ?aB ?aS ?aL ?_; (case aP => exact k57_mkM _ _ _ (⟨(rd_T57 l0 x9_1).f0, (rd_T57 l0 x9_1).f1, (⟨(rd_T57 l0 x9_1).f2.f0, (rd_T57 l0 x9_1).f2.f1⟩ : S24)⟩ : S57)); (case aB => exact (by repeat (first | (with_reducible first | exact HB.out | apply below_alloc | apply pw_below_drewN | apply below_drew1) | exact HB.out))); (case aF => exact (fun _ _ => trivial)); (case aO => exact (by (with_reducible repeat (first | apply Kd.R_alloc | apply Kd.R_drewN | apply Kd.R_drew)); exact HO_8.out)); (case aS => exact (below_size (by repeat (first | (with_reducible first | exact HB.out | apply below_alloc | apply pw_below_drewN | apply below_drew1) | exact HB.out)))); (case aL => have := LMc15.out; omega); intro v744 w16 ho hb hg hat; rw [← Ny743.out] at ho; have n0_ := Aside0.mk (hb); have n1_ := Aside0.mk (ho); clear HB; clear HO_8; have HB := n0_; have HO745 := n1_; clear n0_ n1_; clear ho hb hg hat))
          go_roundg kj5
          case measure => have := HK1.out; have := HJ5.out; omega
          case rel => exact ⟨(y743), (wrap64 (x9_1 + 1)), (by first | rfl | (simp; done) | (simp [*]; done)), H', ⟨by have := HK1.out; have := HJ5.out; omega⟩, ⟨by (with_reducible repeat (first | apply Kd.R_alloc | apply Kd.R_drewN | apply Kd.R_drew)); exact HO745.out⟩, ⟨by repeat (first | (with_reducible first | exact HB.out | apply below_alloc | apply pw_below_drewN | apply below_drew1) | exact HB.out)⟩⟩
         ·rw [if_neg c15] at H
          exact absurd H (by simp)
       ·rw [if_neg c10] at H
        exact absurd H (by simp)
      ·rw [if_neg c9] at H
       exact absurd H (by simp)
     ·replace c8 := Bool.eq_false_iff.mpr c8
      subst c8
      have H1 : (some x8_1) = some r := by rw [if_neg (show ¬ (false = true) by decide)] at H; exact H
      clear H
      have H := H1
      clear H1
      obtain rfl := Option.some.inj H
      go_wp2
      go_ret
      exact ⟨_, by first | rfl | (simp [errW_none, errW_some] <;> rfl) | (simp [*, errW_none, errW_some] <;> rfl), by (with_reducible repeat (first | apply Kd.R_alloc | apply Kd.R_drewN | apply Kd.R_drew)); exact HO_8.out, by repeat (first | (with_reducible first | exact HB.out | apply below_alloc | apply pw_below_drewN | apply below_drew1) | exact HB.out)⟩

end Go.Proofs.Ytannmdngejdjkaa.L
