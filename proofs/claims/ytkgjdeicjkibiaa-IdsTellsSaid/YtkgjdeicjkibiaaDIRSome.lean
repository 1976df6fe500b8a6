/- ref04.Both, some, Common, Without at ids. By hand. -/
import Derived.Test.YtkgjdeicjkibiaaDIRSort
namespace Go.Proofs.Ytkgjdeicjkibiaa.D
open Go.RowKit Go.Maps Go.Proofs.YtkgjdeicjkibiaaW.PrintWords Go.Proofs.YtkgjdeicjkibiaaW.PrintLast Go.Proofs.YtkgjdeicjkibiaaW.PrintMore Go.Proofs.YtkgjdeicjkibiaaW
set_option linter.unusedVariables false
set_option linter.unusedSimpArgs false
theorem filter_takeI (p : Id → Bool) (a : List Id) (k : Nat) (h : k < a.length) : (a.take (k + 1)).filter p = (a.take k).filter p ++ if p (rdI a k) = true then [rdI a k] else [] := by
  rw [List.take_succ_eq_append_getElem h, List.filter_append, rdI_at a k h]
  simp [List.filter_cons]
set_option maxHeartbeats 4000000 in
set_option maxRecDepth 100000 in
theorem rboth_calls (A1 : Option Addr) (c1 : Nat) (l1 : List Id) (A2 : Option Addr) (c2 : Nat) (l2 : List Id) (w : World) (h1 : Kd.C kI w A1 l1.length l1) (h2 : Kd.C kI w A2 l2.length l2) (hlim : (l1.length + l2.length) * 64 ≤ 140737488355328) :
    Calls Try.prog 21 #[.slice A1 l1.length c1, .slice A2 l2.length c2] w (RetI w (bothI l1 l2)) := by
  have hK : ∀ x ∈ l1 ++ l2, okId x := fun x hx => (List.mem_append.1 hx).elim (C_ok h1 x) (C_ok h2 x)
  obtain ⟨v1, V1, hr1, ho1, hg1, B1, d1, rfl⟩ := app_ids w 29 (base := w.heap.size) (l1 := []) (own_nil _ _ _ _) A1 c1 l1 h1 (by simp; omega) (Nat.le_refl _)
  simp only [List.nil_append, List.length_nil] at hr1 ho1
  have hb1 := (Below.refl w.heap.size w).grown hg1 (Nat.le_refl _) (fun j hj => by cases hj)
  obtain ⟨v2, V2, hr2, ho2, hg2, B2, d2, rfl⟩ := app_ids V1 29 ho1 A2 c2 l2 (Kd.C_below h2 hb1) (by omega) hb1.size
  have HB2 := Aside0.mk (hb1.grown hg2 hb1.size (own_base ho1))
  have HC := Aside0.mk (own_C ho2 hK)
  have HE : Aside0 (sortI (l1 ++ l2) = bothI l1 l2) := ⟨rfl⟩
  have hlim2 : (l1 ++ l2).length * 64 ≤ 140737488355328 := by rw [List.length_append]; exact hlim
  clear hg1 hg2 ho1 ho2 hK h1 h2 hb1
  generalize l1 ++ l2 = l at *
  have HS := Aside0.mk (rsort_calls B2 d2 l V2 HC.out hlim2)
  clear hlim2
  go_enter Try.func21, Try.ntmps21
  go_wp2_with (first
    | (at_builtin; refine Lib.wpList_append_run _ rfl _ _ _ _ rfl _ _ rfl rfl _ _ hr1 ?_; clear hr1; go_frame)
    | (at_builtin; refine Lib.wpList_append_run _ rfl _ _ _ _ rfl _ _ rfl rfl _ _ hr2 ?_; clear hr2; go_frame)
    | (go_at_call 20; refine HS.out.mono ?_; rintro e w2 ⟨A', c', rfl, hC, hb⟩; have HB3 := Aside0.mk (below_step HB2.out hb)))
  go_ret
  rw [← HE.out]
  exact ⟨A', c', rfl, hC, HB3.out⟩
set_option maxHeartbeats 4000000 in
set_option maxRecDepth 100000 in
theorem rsome_calls (A0 : Option Addr) (c0 : Nat) (a : List Id) (A1 : Option Addr) (c1 : Nat) (b : List Id) (want : Bool) (w : World) (hr0 : Kd.C kI w A0 a.length a) (hr1 : Kd.C kI w A1 b.length b) (hlim : a.length * 64 ≤ 140737488355328) :
    Calls Try.prog 38 #[.slice A0 a.length c0, .slice A1 b.length c1, .bool want] w (RetI w (someI a b want)) := by
  have HR := Aside0.mk hr0
  have HR1 := Aside0.mk hr1
  have HL := Aside0.mk hr0.2.1
  have HK := Aside0.mk (C_ok hr0)
  clear hr0 hr1
  go_enter Try.func38, Try.ntmps38
  go_wp2
  go_loopw [7, 8] (fun v i wr => ∃ (k : Nat) (out : List Id), k ≤ a.length ∧ i = .int .i64 k ∧ Aside0 (out = (a.take k).filter fun x => decide (x ∈ b) == want) ∧ Aside0 (wr.ownsRow w.heap.size 23 32 v out.length (rowI out)) ∧ Aside0 (Below w.heap.size w wr)) (fun _ i _ => a.length - (intOf i).toNat)
  case atStart => exact ⟨0, [], Nat.zero_le _, rfl, ⟨rfl⟩, ⟨own_nil _ _ _ _⟩, ⟨Below.refl _ _⟩⟩
  case round =>
    obtain ⟨k, out, hk, rfl, hE, hO, HB⟩ := hrel
    obtain ⟨A, c, rfl⟩ := own_slice hO.out
    by_cases hlt : k < a.length
    · obtain ⟨bb, o, rfl, hx, hok⟩ := at_I HR.out k hlt
      have HX := Aside0.mk (range_below hx HB.out)
      have hl63 := HL.out
      have HS : Aside0 ((a.take (k + 1)).filter (fun x => decide (x ∈ b) == want) = out ++ if decide (rdI a k ∈ b) == want then [rdI a k] else []) := ⟨by
        rw [hE.out]
        exact filter_takeI (fun x => decide (x ∈ b) == want) a k hlt⟩
      have hlen0 : out.length ≤ k := by
        rw [hE.out]
        exact Nat.le_trans (List.length_filter_le _ _) (by rw [List.length_take]; omega)
      generalize rdI a k = x at *
      have HCB := Aside0.mk (Kd.C_below HR1.out HB.out)
      clear hx hE
      have hk0 : (0 : Int) ≤ (k : Int) := Int.natCast_nonneg _
      have hk1 : (k : Int) < (a.length : Int) := by omega
      generalize hq : decide (x ∈ b) = q at HS
      have hcn := fun V (h : Kd.C kI V A1 b.length b) => rhas_calls A1 c1 b hok V h
      rw [hq] at hcn
      have HCN := Aside0.mk hcn
      clear hq hcn
      cases q <;> cases want
      all_goals
        simp only [beq_self_eq_true, if_true, show (false == true) = false from rfl, show (true == false) = false from rfl, Bool.false_eq_true, if_false, List.append_nil] at HS
      all_goals first
        | (have HNO : Aside0 (out ++ [x] = (out ++ [x])) := ⟨rfl⟩
           have HS2 : Aside0 ((a.take (k + 1)).filter _ = out ++ [x]) := HS
           go_wp2_with (first
             | (refine wpl_load _ _ x HX.out hok (by rfl) _ (by rfl) (by rfl) ?_; go_frame)
             | (go_at_call 25; refine (HCN.out _ HCB.out).mono ?_; rintro e w1 ⟨rfl, hb1⟩; have HB1 := Aside0.mk (below_step HB.out hb1); have HX := Aside0.mk (range_below HX.out hb1); have HO1 := Aside0.mk (own_below hO.out hb1); clear hb1; obtain ⟨v2, V2, hr2, ho2, hg2, A2, c2, rfl⟩ := app_ids (w1.alloc (.cells (rowI [x]).toArray 23)) 29 (HO1.out.alloc _) (some ⟨w1.heap.size, 0, none⟩) 1 [x] (C_of_blk1 (blk_new w1 (.cells (rowI [x]).toArray 23)) hok) (by simp <;> omega) (by have := HB1.out.size; simp; omega); have HB2 := Aside0.mk ((below_alloc HB1.out (.cells (rowI [x]).toArray 23)).grown hg2 (by have := HB1.out.size; simp; omega) (own_base HO1.out)); obtain ⟨r, hrr⟩ : ∃ r, r = out ++ [x] := ⟨_, rfl⟩; rw [← hrr] at hr2 ho2; rw [show [x].length = 1 from rfl] at hr2; have HRR := Aside0.mk hrr; have HO2 := Aside0.mk ho2; clear hrr ho2 hg2)
             | (refine wpl_build [x] (fun y hy => by rw [List.mem_singleton.1 hy]; exact hok) (by simp) (by simp) 1 rfl (by rfl) _ (by rfl) (by rfl) ?_; go_frame)
             | (at_builtin; refine Lib.wpList_append_run _ rfl _ _ _ _ rfl _ _ rfl rfl _ _ hr2 ?_; clear hr2; go_frame))
           go_roundw
           (case rel => exact ⟨k + 1, r, by omega, by go_num, ⟨by rw [HRR.out, HS2.out]⟩, HO2, HB2⟩)
           (case measure => simp [intOf]; omega))
        | (go_wp2_with (first
             | (refine wpl_load _ _ x HX.out hok (by rfl) _ (by rfl) (by rfl) ?_; go_frame)
             | (go_at_call 25; refine (HCN.out _ HCB.out).mono ?_; rintro e w1 ⟨rfl, hb1⟩; have HB1 := Aside0.mk (below_step HB.out hb1); have HO1 := Aside0.mk (own_below hO.out hb1); clear hb1))
           go_roundw
           (case rel => exact ⟨k + 1, out, by omega, by go_num, ⟨HS.out.symm⟩, HO1, HB1⟩)
           (case measure => simp [intOf]; omega))
    · have hkl : k = a.length := by omega
      subst hkl
      have HE2 : Aside0 (sortI out = someI a b want) := ⟨by rw [hE.out, List.take_length]; rfl⟩
      have hol : out.length ≤ a.length := by
        rw [hE.out]
        exact Nat.le_trans (List.length_filter_le _ _) (by rw [List.length_take]; omega)
      have HOK : Aside0 (∀ y ∈ out, okId y) := ⟨fun y hy => HK.out y (by rw [hE.out] at hy; exact List.mem_of_mem_take (List.mem_filter.1 hy).1)⟩
      have HS := Aside0.mk (rsort_calls A c out wr (own_C hO.out HOK.out) (by omega))
      clear hE
      go_wp2_with (first
        | (go_at_call 20; refine HS.out.mono ?_; rintro e w2 ⟨A', c', rfl, hC, hb⟩; have HB3 := Aside0.mk (below_step HB.out hb)))
      go_ret
      rw [← HE2.out]
      exact ⟨A', c', rfl, hC, HB3.out⟩
set_option maxHeartbeats 1000000 in
set_option maxRecDepth 100000 in
theorem rcommon_calls (A0 : Option Addr) (c0 : Nat) (a : List Id) (A1 : Option Addr) (c1 : Nat) (b : List Id) (w : World) (hr0 : Kd.C kI w A0 a.length a) (hr1 : Kd.C kI w A1 b.length b) (hlim : a.length * 64 ≤ 140737488355328) :
    Calls Try.prog 22 #[.slice A0 a.length c0, .slice A1 b.length c1] w (RetI w (someI a b true)) := by
  have HO := Aside0.mk (rsome_calls A0 c0 a A1 c1 b true w hr0 hr1 hlim)
  clear hr0 hr1
  go_enter Try.func22, Try.ntmps22
  go_wp2_with (first
    | (go_at_call 38; refine HO.out.mono ?_; rintro e w1 ⟨A, c, rfl, hC, hb⟩))
  go_ret
  exact ⟨A, c, rfl, hC, hb⟩
set_option maxHeartbeats 1000000 in
set_option maxRecDepth 100000 in
theorem rwithout_calls (A0 : Option Addr) (c0 : Nat) (a : List Id) (A1 : Option Addr) (c1 : Nat) (b : List Id) (w : World) (hr0 : Kd.C kI w A0 a.length a) (hr1 : Kd.C kI w A1 b.length b) (hlim : a.length * 64 ≤ 140737488355328) :
    Calls Try.prog 23 #[.slice A0 a.length c0, .slice A1 b.length c1] w (RetI w (someI a b false)) := by
  have HO := Aside0.mk (rsome_calls A0 c0 a A1 c1 b false w hr0 hr1 hlim)
  clear hr0 hr1
  go_enter Try.func23, Try.ntmps23
  go_wp2_with (first
    | (go_at_call 38; refine HO.out.mono ?_; rintro e w1 ⟨A, c, rfl, hC, hb⟩))
  go_ret
  exact ⟨A, c, rfl, hC, hb⟩
end Go.Proofs.Ytkgjdeicjkibiaa.D
