/- Several of the walk's texts in one: Sx18, SHCtrMerge, SHRegGet, SHCtrGet, Sx20. -/
import Derived.Lib.SliceRun
import Derived.Test.YtmcddoolniaehaaGreatMK03
import Derived.Test.YtmcddoolniaehaaGreatMK04
import Derived.Test.YtmcddoolniaehaaGreatMK05
import Derived.Test.YtmcddoolniaehaaGreatMK15
section
namespace Go.Proofs.YtmcddoolniaehaaGreat.S
open Go.RowKit Go.Proofs.YtmcddoolniaehaaGreatW.PrintWords Go.Proofs.YtmcddoolniaehaaGreatW.PrintLast Go.Proofs.YtmcddoolniaehaaGreatW.PrintMore
attribute [local go_sem] max2_int min2_int max_two min_two max_three min_three max_four min_four   -- for this text's walks alone
set_option linter.unusedVariables false
set_option linter.unusedSimpArgs false

def state_Same.f (k : Nat) (l0_0 : List (S73)) (l0_1 : List (S47)) (l0_2 : List (S43)) (l1_0 : List (S73)) (l1_1 : List (S47)) (l1_2 : List (S43)) : Option (Bool) := (api_Ctr.f k l0_0 l1_0).bind fun t189 => (if t189 = true then ((api_Reg.f k l0_1 l1_1).bind fun t190 => (if t190 = true then ((api_Pair.f k l0_2 l1_2).bind fun t191 => (some t191)) else (some false))) else (some false))
theorem state_Same.mono : ∀ a0 a1 a2 a3 a4 a5 k, LeO (state_Same.f k a0 a1 a2 a3 a4 a5) (state_Same.f (k + 1) a0 a1 a2 a3 a4 a5) := by
 intro a0 a1 a2 a3 a4 a5 k
 unfold state_Same.f
 repeat' first
   | (with_reducible exact api_Ctr.mono _ _ _)
   | (with_reducible exact api_Pair.mono _ _ _)
   | (with_reducible exact api_Reg.mono _ _ _)
   | (with_reducible exact LeO.refl _)
   | (with_reducible exact LeO.none _)
   | (with_reducible refine LeO.ite ?_ ?_)
   | (with_reducible refine LeO.bind ?_ (fun _ => ?_))
   | exact api_Ctr.mono _ _ _
   | exact api_Pair.mono _ _ _
   | exact api_Reg.mono _ _ _
   | exact LeO.none _
   | refine LeO.ite ?_ ?_
   | refine LeO.bind ?_ (fun _ => ?_)
set_option maxHeartbeats 8000000 in
set_option maxRecDepth 100000 in
theorem state_Same.calls (k : Nat) (A0_0 : Option Addr) (c0_0 : Nat) (l0_0 : List (S73)) (A0_1 : Option Addr) (c0_1 : Nat) (l0_1 : List (S47)) (A0_2 : Option Addr) (c0_2 : Nat) (l0_2 : List (S43)) (A1_0 : Option Addr) (c1_0 : Nat) (l1_0 : List (S73)) (A1_1 : Option Addr) (c1_1 : Nat) (l1_1 : List (S47)) (A1_2 : Option Addr) (c1_2 : Nat) (l1_2 : List (S43)) (r : Bool) (w : World) (hr0_0 : Kd.C k73 w A0_0 l0_0.length l0_0) (hc0_0 : l0_0.length ≤ c0_0) (hr0_1 : Kd.C k47 w A0_1 l0_1.length l0_1) (hc0_1 : l0_1.length ≤ c0_1) (hr0_2 : Kd.C k43 w A0_2 l0_2.length l0_2) (hc0_2 : l0_2.length ≤ c0_2) (hr1_0 : Kd.C k73 w A1_0 l1_0.length l1_0) (hc1_0 : l1_0.length ≤ c1_0) (hr1_1 : Kd.C k47 w A1_1 l1_1.length l1_1) (hc1_1 : l1_1.length ≤ c1_1) (hr1_2 : Kd.C k43 w A1_2 l1_2.length l1_2) (hc1_2 : l1_2.length ≤ c1_2) (h : state_Same.f k l0_0 l0_1 l0_2 l1_0 l1_1 l1_2 = some r) :
  Calls Tryz.prog 20 #[.agg #[.slice A0_0 l0_0.length c0_0, .slice A0_1 l0_1.length c0_1, .slice A0_2 l0_2.length c0_2], .agg #[.slice A1_0 l1_0.length c1_0, .slice A1_1 l1_1.length c1_1, .slice A1_2 l1_2.length c1_2]] w fun e w' => e = .returned (.bool r) ∧ Below w.heap.size w w' := by
 have hu26 := Tryz.underlying26
 have HR0_0 := Aside0.mk hr0_0
 have HC0_0 := Aside0.mk hc0_0
 clear hr0_0 hc0_0
 have HR0_1 := Aside0.mk hr0_1
 have HC0_1 := Aside0.mk hc0_1
 clear hr0_1 hc0_1
 have HR0_2 := Aside0.mk hr0_2
 have HC0_2 := Aside0.mk hc0_2
 clear hr0_2 hc0_2
 have HR1_0 := Aside0.mk hr1_0
 have HC1_0 := Aside0.mk hc1_0
 clear hr1_0 hc1_0
 have HR1_1 := Aside0.mk hr1_1
 have HC1_1 := Aside0.mk hc1_1
 clear hr1_1 hc1_1
 have HR1_2 := Aside0.mk hr1_2
 have HC1_2 := Aside0.mk hc1_2
 clear hr1_2 hc1_2
 have HB := Aside0.mk (Below.refl w.heap.size w)
 have H : ((api_Ctr.f k l0_0 l1_0).bind fun t189 => (if t189 = true then ((api_Reg.f k l0_1 l1_1).bind fun t190 => (if t190 = true then ((api_Pair.f k l0_2 l1_2).bind fun t191 => (some t191)) else (some false))) else (some false))) = some r := h
 clear h
 replace H := Option.bind_eq_some_iff.mp H
 obtain ⟨t189, A30, H⟩ := H
 replace H : (if t189 = true then ((api_Reg.f k l0_1 l1_1).bind fun t190 => (if t190 = true then ((api_Pair.f k l0_2 l1_2).bind fun t191 => (some t191)) else (some false))) else (some false)) = some r := H
 have A3 := Aside0.mk A30
 clear A30
 by_cases c4 : t189 = true
 ·subst c4
  have H1 : ((api_Reg.f k l0_1 l1_1).bind fun t190 => (if t190 = true then ((api_Pair.f k l0_2 l1_2).bind fun t191 => (some t191)) else (some false))) = some r := by rw [if_pos rfl] at H; exact H
  clear H
  have H := H1
  clear H1
  replace H := Option.bind_eq_some_iff.mp H
  obtain ⟨t190, A50, H⟩ := H
  replace H : (if t190 = true then ((api_Pair.f k l0_2 l1_2).bind fun t191 => (some t191)) else (some false)) = some r := H
  have A5 := Aside0.mk A50
  clear A50
  by_cases c6 : t190 = true
  ·subst c6
   have H1 : ((api_Pair.f k l0_2 l1_2).bind fun t191 => (some t191)) = some r := by rw [if_pos rfl] at H; exact H
   clear H
   have H := H1
   clear H1
   replace H := Option.bind_eq_some_iff.mp H
   obtain ⟨t191, A70, H⟩ := H
   replace H : (some t191) = some r := H
   have A7 := Aside0.mk A70
   clear A70
   obtain rfl := Option.some.inj H
   go_enter Tryz.func20, Tryz.ntmps20
   go_wp2_with (first | ((with_reducible refine gate_dst (N := 2) rfl ?_); refine box_event ?hg (N := 2) ?hd (cs := #[.slice A0_0 l0_0.length c0_0, .slice A0_1 l0_1.length c0_1, .slice A0_2 l0_2.length c0_2]) (t := 26) ?hr ?_; (case hd => rfl); (case hg => rfl); (case hr => first | (go_simp; done) | (go_simp; rfl)); intro gb187 hg w8 hbox hb; have n0_ := Aside0.mk (below_step (by repeat (first | (with_reducible first | exact HB.out | apply below_alloc | apply pw_below_drewN | apply below_drew1) | exact HB.out)) hb); have n1_ := Aside0.mk (hbox); have n2_ := Aside0.mk ((by rw [hg]; exact (below_size (by repeat (first | (with_reducible first | exact HB.out | apply below_alloc | apply pw_below_drewN | apply below_drew1) | exact HB.out))) : w.heap.size ≤ gb187)); have n3_ := Aside0.mk ((by rw [hg]; exact (below_size (by repeat (first | (with_reducible first | exact HB.out | apply below_alloc | apply pw_below_drewN | apply below_drew1) | exact HB.out))) : w.heap.size ≤ gb187)); clear HB; have HB := n0_; have BK187 := n1_; have GW187 := n2_; have GE187 := n3_; clear n0_ n1_ n2_ n3_; clear hb hbox hg) | ((with_reducible refine gate_dst (N := 3) rfl ?_); refine box_event ?hg (N := 3) ?hd (cs := #[.slice A1_0 l1_0.length c1_0, .slice A1_1 l1_1.length c1_1, .slice A1_2 l1_2.length c1_2]) (t := 26) ?hr ?_; (case hd => rfl); (case hg => rfl); (case hr => first | (go_simp; done) | (go_simp; rfl)); intro gb188 hg w9 hbox hb; have n0_ := Aside0.mk (blk_below (g := gb187) (o := .cells #[.slice A0_0 l0_0.length c0_0, .slice A0_1 l0_1.length c0_1, .slice A0_2 l0_2.length c0_2] 26 (0, 0)) (by (with_reducible repeat (first | apply blN | apply blD | apply blA)); exact BK187.out) hb); have n1_ := Aside0.mk (below_step (by repeat (first | (with_reducible first | exact HB.out | apply below_alloc | apply pw_below_drewN | apply below_drew1 | refine below_set ?_ GE187.out) | exact HB.out)) hb); have n2_ := Aside0.mk (hbox); have n3_ := Aside0.mk ((by rw [hg]; exact (below_size (by repeat (first | (with_reducible first | exact HB.out | apply below_alloc | apply pw_below_drewN | apply below_drew1 | refine below_set ?_ GE187.out) | exact HB.out))) : w.heap.size ≤ gb188)); have n4_ := Aside0.mk ((by rw [hg]; exact (below_size (by repeat (first | (with_reducible first | exact HB.out | apply below_alloc | apply pw_below_drewN | apply below_drew1 | refine below_set ?_ GE187.out) | exact HB.out))) : w.heap.size ≤ gb188)); have n5_ := Aside0.mk ((by rw [hg]; exact Nat.ne_of_lt (blk_lt (g := gb187) (o := .cells #[.slice A0_0 l0_0.length c0_0, .slice A0_1 l0_1.length c0_1, .slice A0_2 l0_2.length c0_2] 26 (0, 0)) (by (with_reducible repeat (first | apply blN | apply blD | apply blA)); exact BK187.out)) : gb187 ≠ gb188)); have n6_ := Aside0.mk ((by rw [hg]; exact Nat.ne_of_gt (blk_lt (g := gb187) (o := .cells #[.slice A0_0 l0_0.length c0_0, .slice A0_1 l0_1.length c0_1, .slice A0_2 l0_2.length c0_2] 26 (0, 0)) (by (with_reducible repeat (first | apply blN | apply blD | apply blA)); exact BK187.out)) : gb188 ≠ gb187)); clear BK187; clear HB; have BK187 := n0_; have HB := n1_; have BK188 := n2_; have GW188 := n3_; have GE188 := n4_; have NB187_188 := n5_; have NB188_187 := n6_; clear n0_ n1_ n2_ n3_ n4_ n5_ n6_; clear hb hbox hg; have hnb10 := NB187_188.out; have hnc10 := NB188_187.out; have hcz11_0 : w9.cell? ⟨gb187, 0, none⟩ = some (.slice A0_0 l0_0.length c0_0) := (blk_cell BK187.out 0).trans rfl; have hcz11_1 : w9.cell? ⟨gb187, 1, none⟩ = some (.slice A0_1 l0_1.length c0_1) := (blk_cell BK187.out 1).trans rfl; have hcz11_2 : w9.cell? ⟨gb187, 2, none⟩ = some (.slice A0_2 l0_2.length c0_2) := (blk_cell BK187.out 2).trans rfl; have hfz11_0 := blk_frozen BK187.out 0; have hfz11_1 := blk_frozen BK187.out 1; have hfz11_2 := blk_frozen BK187.out 2; have hcz12_0 : w9.cell? ⟨gb188, 0, none⟩ = some (.slice A1_0 l1_0.length c1_0) := (blk_cell BK188.out 0).trans rfl; have hcz12_1 : w9.cell? ⟨gb188, 1, none⟩ = some (.slice A1_1 l1_1.length c1_1) := (blk_cell BK188.out 1).trans rfl; have hcz12_2 : w9.cell? ⟨gb188, 2, none⟩ = some (.slice A1_2 l1_2.length c1_2) := (blk_cell BK188.out 2).trans rfl; have hfz12_0 := blk_frozen BK188.out 0; have hfz12_1 := blk_frozen BK188.out 1; have hfz12_2 := blk_frozen BK188.out 2) | ((with_reducible refine gate_callee (f := 67) rfl ?_); refine goesL_ (some 9) rfl rfl Tryz.func67 (by kernel_rfl) rfl #[.slice A0_0 l0_0.length c0_0, .slice A1_0 l1_0.length c1_0] rfl (by (try simp only [List.map_toArray, List.map_cons, List.map_nil]); first | done | rfl | (simp only [List.length_drop, List.length_take]; rfl)) ?_; (with_reducible refine (api_Ctr.calls k _ _ l0_0 _ _ l1_0 true _ ?side1 ?side2 ?side3 ?side4 A3.out).mono ?_); (case side1 => repeat (first | exact (Kd.C_below HR0_0.out HB.out) | (with_reducible refine Kd.C_alloc ?_ _) | (with_reducible refine Kd.C_drewN ?_ _) | (with_reducible refine Kd.C_drew ?_))); (case side2 => exact HC0_0.out); (case side3 => repeat (first | exact (Kd.C_below HR1_0.out HB.out) | (with_reducible refine Kd.C_alloc ?_ _) | (with_reducible refine Kd.C_drewN ?_ _) | (with_reducible refine Kd.C_drew ?_))); (case side4 => exact HC1_0.out); rintro e w' ⟨rfl, ⟨nd, rfl⟩⟩; refine ⟨_, rfl, ?_⟩) | (go_at_call 68; (with_reducible refine (api_Reg.calls k _ _ l0_1 _ _ l1_1 true _ ?side1 ?side2 ?side3 ?side4 A5.out).mono ?_); (case side1 => repeat (first | exact (Kd.C_below HR0_1.out (by repeat (first | (with_reducible first | exact HB.out | apply below_alloc | apply pw_below_drewN | apply below_drew1 | refine below_set ?_ GE187.out | refine below_set ?_ GE188.out) | exact HB.out))) | (with_reducible refine Kd.C_alloc ?_ _) | (with_reducible refine Kd.C_drewN ?_ _) | (with_reducible refine Kd.C_drew ?_))); (case side2 => exact HC0_1.out); (case side3 => repeat (first | exact (Kd.C_below HR1_1.out (by repeat (first | (with_reducible first | exact HB.out | apply below_alloc | apply pw_below_drewN | apply below_drew1 | refine below_set ?_ GE187.out | refine below_set ?_ GE188.out) | exact HB.out))) | (with_reducible refine Kd.C_alloc ?_ _) | (with_reducible refine Kd.C_drewN ?_ _) | (with_reducible refine Kd.C_drew ?_))); (case side4 => exact HC1_1.out); rintro e w' ⟨rfl, ⟨nd, rfl⟩⟩) | (go_at_call 69; (with_reducible refine (api_Pair.calls k _ _ l0_2 _ _ l1_2 t191 _ ?side1 ?side2 ?side3 ?side4 A7.out).mono ?_); (case side1 => repeat (first | exact (Kd.C_below HR0_2.out (by repeat (first | (with_reducible first | exact HB.out | apply below_alloc | apply pw_below_drewN | apply below_drew1 | refine below_set ?_ GE187.out | refine below_set ?_ GE188.out) | exact HB.out))) | (with_reducible refine Kd.C_alloc ?_ _) | (with_reducible refine Kd.C_drewN ?_ _) | (with_reducible refine Kd.C_drew ?_))); (case side2 => exact HC0_2.out); (case side3 => repeat (first | exact (Kd.C_below HR1_2.out (by repeat (first | (with_reducible first | exact HB.out | apply below_alloc | apply pw_below_drewN | apply below_drew1 | refine below_set ?_ GE187.out | refine below_set ?_ GE188.out) | exact HB.out))) | (with_reducible refine Kd.C_alloc ?_ _) | (with_reducible refine Kd.C_drewN ?_ _) | (with_reducible refine Kd.C_drew ?_))); (case side4 => exact HC1_2.out); rintro e w' ⟨rfl, ⟨nd, rfl⟩⟩))
   go_ret
   exact ⟨by first | rfl | (simp [errW_none, errW_some] <;> rfl) | (simp [*, errW_none, errW_some] <;> rfl), by repeat (first | (with_reducible first | exact HB.out | apply below_alloc | apply pw_below_drewN | apply below_drew1 | refine below_set ?_ GE187.out | refine below_set ?_ GE188.out) | exact HB.out)⟩
  ·replace c6 := Bool.eq_false_iff.mpr c6
   subst c6
   have H1 : (some false) = some r := by rw [if_neg (show ¬ (false = true) by decide)] at H; exact H
   clear H
   have H := H1
   clear H1
   obtain rfl := Option.some.inj H
   go_enter Tryz.func20, Tryz.ntmps20
   go_wp2_with (first | ((with_reducible refine gate_dst (N := 2) rfl ?_); refine box_event ?hg (N := 2) ?hd (cs := #[.slice A0_0 l0_0.length c0_0, .slice A0_1 l0_1.length c0_1, .slice A0_2 l0_2.length c0_2]) (t := 26) ?hr ?_; (case hd => rfl); (case hg => rfl); (case hr => first | (go_simp; done) | (go_simp; rfl)); intro gb187 hg w13 hbox hb; have n0_ := Aside0.mk (below_step (by repeat (first | (with_reducible first | exact HB.out | apply below_alloc | apply pw_below_drewN | apply below_drew1) | exact HB.out)) hb); have n1_ := Aside0.mk (hbox); have n2_ := Aside0.mk ((by rw [hg]; exact (below_size (by repeat (first | (with_reducible first | exact HB.out | apply below_alloc | apply pw_below_drewN | apply below_drew1) | exact HB.out))) : w.heap.size ≤ gb187)); have n3_ := Aside0.mk ((by rw [hg]; exact (below_size (by repeat (first | (with_reducible first | exact HB.out | apply below_alloc | apply pw_below_drewN | apply below_drew1) | exact HB.out))) : w.heap.size ≤ gb187)); clear HB; have HB := n0_; have BK187 := n1_; have GW187 := n2_; have GE187 := n3_; clear n0_ n1_ n2_ n3_; clear hb hbox hg) | ((with_reducible refine gate_dst (N := 3) rfl ?_); refine box_event ?hg (N := 3) ?hd (cs := #[.slice A1_0 l1_0.length c1_0, .slice A1_1 l1_1.length c1_1, .slice A1_2 l1_2.length c1_2]) (t := 26) ?hr ?_; (case hd => rfl); (case hg => rfl); (case hr => first | (go_simp; done) | (go_simp; rfl)); intro gb188 hg w14 hbox hb; have n0_ := Aside0.mk (blk_below (g := gb187) (o := .cells #[.slice A0_0 l0_0.length c0_0, .slice A0_1 l0_1.length c0_1, .slice A0_2 l0_2.length c0_2] 26 (0, 0)) (by (with_reducible repeat (first | apply blN | apply blD | apply blA)); exact BK187.out) hb); have n1_ := Aside0.mk (below_step (by repeat (first | (with_reducible first | exact HB.out | apply below_alloc | apply pw_below_drewN | apply below_drew1 | refine below_set ?_ GE187.out) | exact HB.out)) hb); have n2_ := Aside0.mk (hbox); have n3_ := Aside0.mk ((by rw [hg]; exact (below_size (by repeat (first | (with_reducible first | exact HB.out | apply below_alloc | apply pw_below_drewN | apply below_drew1 | refine below_set ?_ GE187.out) | exact HB.out))) : w.heap.size ≤ gb188)); have n4_ := Aside0.mk ((by rw [hg]; exact (below_size (by repeat (first | (with_reducible first | exact HB.out | apply below_alloc | apply pw_below_drewN | apply below_drew1 | refine below_set ?_ GE187.out) | exact HB.out))) : w.heap.size ≤ gb188)); have n5_ := Aside0.mk ((by rw [hg]; exact Nat.ne_of_lt (blk_lt (g := gb187) (o := .cells #[.slice A0_0 l0_0.length c0_0, .slice A0_1 l0_1.length c0_1, .slice A0_2 l0_2.length c0_2] 26 (0, 0)) (by (with_reducible repeat (first | apply blN | apply blD | apply blA)); exact BK187.out)) : gb187 ≠ gb188)); have n6_ := Aside0.mk ((by rw [hg]; exact Nat.ne_of_gt (blk_lt (g := gb187) (o := .cells #[.slice A0_0 l0_0.length c0_0, .slice A0_1 l0_1.length c0_1, .slice A0_2 l0_2.length c0_2] 26 (0, 0)) (by (with_reducible repeat (first | apply blN | apply blD | apply blA)); exact BK187.out)) : gb188 ≠ gb187)); clear BK187; clear HB; have BK187 := n0_; have HB := n1_; have BK188 := n2_; have GW188 := n3_; have GE188 := n4_; have NB187_188 := n5_; have NB188_187 := n6_; clear n0_ n1_ n2_ n3_ n4_ n5_ n6_; clear hb hbox hg; have hnb15 := NB187_188.out; have hnc15 := NB188_187.out; have hcz16_0 : w14.cell? ⟨gb187, 0, none⟩ = some (.slice A0_0 l0_0.length c0_0) := (blk_cell BK187.out 0).trans rfl; have hcz16_1 : w14.cell? ⟨gb187, 1, none⟩ = some (.slice A0_1 l0_1.length c0_1) := (blk_cell BK187.out 1).trans rfl; have hcz16_2 : w14.cell? ⟨gb187, 2, none⟩ = some (.slice A0_2 l0_2.length c0_2) := (blk_cell BK187.out 2).trans rfl; have hfz16_0 := blk_frozen BK187.out 0; have hfz16_1 := blk_frozen BK187.out 1; have hfz16_2 := blk_frozen BK187.out 2; have hcz17_0 : w14.cell? ⟨gb188, 0, none⟩ = some (.slice A1_0 l1_0.length c1_0) := (blk_cell BK188.out 0).trans rfl; have hcz17_1 : w14.cell? ⟨gb188, 1, none⟩ = some (.slice A1_1 l1_1.length c1_1) := (blk_cell BK188.out 1).trans rfl; have hcz17_2 : w14.cell? ⟨gb188, 2, none⟩ = some (.slice A1_2 l1_2.length c1_2) := (blk_cell BK188.out 2).trans rfl; have hfz17_0 := blk_frozen BK188.out 0; have hfz17_1 := blk_frozen BK188.out 1; have hfz17_2 := blk_frozen BK188.out 2) | ((with_reducible refine gate_callee (f := 67) rfl ?_); refine goesL_ (some 9) rfl rfl Tryz.func67 (by kernel_rfl) rfl #[.slice A0_0 l0_0.length c0_0, .slice A1_0 l1_0.length c1_0] rfl (by (try simp only [List.map_toArray, List.map_cons, List.map_nil]); first | done | rfl | (simp only [List.length_drop, List.length_take]; rfl)) ?_; (with_reducible refine (api_Ctr.calls k _ _ l0_0 _ _ l1_0 true _ ?side1 ?side2 ?side3 ?side4 A3.out).mono ?_); (case side1 => repeat (first | exact (Kd.C_below HR0_0.out HB.out) | (with_reducible refine Kd.C_alloc ?_ _) | (with_reducible refine Kd.C_drewN ?_ _) | (with_reducible refine Kd.C_drew ?_))); (case side2 => exact HC0_0.out); (case side3 => repeat (first | exact (Kd.C_below HR1_0.out HB.out) | (with_reducible refine Kd.C_alloc ?_ _) | (with_reducible refine Kd.C_drewN ?_ _) | (with_reducible refine Kd.C_drew ?_))); (case side4 => exact HC1_0.out); rintro e w' ⟨rfl, ⟨nd, rfl⟩⟩; refine ⟨_, rfl, ?_⟩) | (go_at_call 68; (with_reducible refine (api_Reg.calls k _ _ l0_1 _ _ l1_1 false _ ?side1 ?side2 ?side3 ?side4 A5.out).mono ?_); (case side1 => repeat (first | exact (Kd.C_below HR0_1.out (by repeat (first | (with_reducible first | exact HB.out | apply below_alloc | apply pw_below_drewN | apply below_drew1 | refine below_set ?_ GE187.out | refine below_set ?_ GE188.out) | exact HB.out))) | (with_reducible refine Kd.C_alloc ?_ _) | (with_reducible refine Kd.C_drewN ?_ _) | (with_reducible refine Kd.C_drew ?_))); (case side2 => exact HC0_1.out); (case side3 => repeat (first | exact (Kd.C_below HR1_1.out (by repeat (first | (with_reducible first | exact HB.out | apply below_alloc | apply pw_below_drewN | apply below_drew1 | refine below_set ?_ GE187.out | refine below_set ?_ GE188.out) | exact HB.out))) | (with_reducible refine Kd.C_alloc ?_ _) | (with_reducible refine Kd.C_drewN ?_ _) | (with_reducible refine Kd.C_drew ?_))); (case side4 => exact HC1_1.out); rintro e w' ⟨rfl, ⟨nd, rfl⟩⟩))
   go_ret
   exact ⟨by first | rfl | (simp [errW_none, errW_some] <;> rfl) | (simp [*, errW_none, errW_some] <;> rfl), by repeat (first | (with_reducible first | exact HB.out | apply below_alloc | apply pw_below_drewN | apply below_drew1 | refine below_set ?_ GE187.out | refine below_set ?_ GE188.out) | exact HB.out)⟩
 ·replace c4 := Bool.eq_false_iff.mpr c4
  subst c4
  have H1 : (some false) = some r := by rw [if_neg (show ¬ (false = true) by decide)] at H; exact H
  clear H
  have H := H1
  clear H1
  obtain rfl := Option.some.inj H
  go_enter Tryz.func20, Tryz.ntmps20
  go_wp2_with (first | ((with_reducible refine gate_dst (N := 2) rfl ?_); refine box_event ?hg (N := 2) ?hd (cs := #[.slice A0_0 l0_0.length c0_0, .slice A0_1 l0_1.length c0_1, .slice A0_2 l0_2.length c0_2]) (t := 26) ?hr ?_; (case hd => rfl); (case hg => rfl); (case hr => first | (go_simp; done) | (go_simp; rfl)); intro gb187 hg w18 hbox hb; have n0_ := Aside0.mk (below_step (by repeat (first | (with_reducible first | exact HB.out | apply below_alloc | apply pw_below_drewN | apply below_drew1) | exact HB.out)) hb); have n1_ := Aside0.mk (hbox); have n2_ := Aside0.mk ((by rw [hg]; exact (below_size (by repeat (first | (with_reducible first | exact HB.out | apply below_alloc | apply pw_below_drewN | apply below_drew1) | exact HB.out))) : w.heap.size ≤ gb187)); have n3_ := Aside0.mk ((by rw [hg]; exact (below_size (by repeat (first | (with_reducible first | exact HB.out | apply below_alloc | apply pw_below_drewN | apply below_drew1) | exact HB.out))) : w.heap.size ≤ gb187)); clear HB; have HB := n0_; have BK187 := n1_; have GW187 := n2_; have GE187 := n3_; clear n0_ n1_ n2_ n3_; clear hb hbox hg) | ((with_reducible refine gate_dst (N := 3) rfl ?_); refine box_event ?hg (N := 3) ?hd (cs := #[.slice A1_0 l1_0.length c1_0, .slice A1_1 l1_1.length c1_1, .slice A1_2 l1_2.length c1_2]) (t := 26) ?hr ?_; (case hd => rfl); (case hg => rfl); (case hr => first | (go_simp; done) | (go_simp; rfl)); intro gb188 hg w19 hbox hb; have n0_ := Aside0.mk (blk_below (g := gb187) (o := .cells #[.slice A0_0 l0_0.length c0_0, .slice A0_1 l0_1.length c0_1, .slice A0_2 l0_2.length c0_2] 26 (0, 0)) (by (with_reducible repeat (first | apply blN | apply blD | apply blA)); exact BK187.out) hb); have n1_ := Aside0.mk (below_step (by repeat (first | (with_reducible first | exact HB.out | apply below_alloc | apply pw_below_drewN | apply below_drew1 | refine below_set ?_ GE187.out) | exact HB.out)) hb); have n2_ := Aside0.mk (hbox); have n3_ := Aside0.mk ((by rw [hg]; exact (below_size (by repeat (first | (with_reducible first | exact HB.out | apply below_alloc | apply pw_below_drewN | apply below_drew1 | refine below_set ?_ GE187.out) | exact HB.out))) : w.heap.size ≤ gb188)); have n4_ := Aside0.mk ((by rw [hg]; exact (below_size (by repeat (first | (with_reducible first | exact HB.out | apply below_alloc | apply pw_below_drewN | apply below_drew1 | refine below_set ?_ GE187.out) | exact HB.out))) : w.heap.size ≤ gb188)); have n5_ := Aside0.mk ((by rw [hg]; exact Nat.ne_of_lt (blk_lt (g := gb187) (o := .cells #[.slice A0_0 l0_0.length c0_0, .slice A0_1 l0_1.length c0_1, .slice A0_2 l0_2.length c0_2] 26 (0, 0)) (by (with_reducible repeat (first | apply blN | apply blD | apply blA)); exact BK187.out)) : gb187 ≠ gb188)); have n6_ := Aside0.mk ((by rw [hg]; exact Nat.ne_of_gt (blk_lt (g := gb187) (o := .cells #[.slice A0_0 l0_0.length c0_0, .slice A0_1 l0_1.length c0_1, .slice A0_2 l0_2.length c0_2] 26 (0, 0)) (by (with_reducible repeat (first | apply blN | apply blD | apply blA)); exact BK187.out)) : gb188 ≠ gb187)); clear BK187; clear HB; have BK187 := n0_; have HB := n1_; have BK188 := n2_; have GW188 := n3_; have GE188 := n4_; have NB187_188 := n5_; have NB188_187 := n6_; clear n0_ n1_ n2_ n3_ n4_ n5_ n6_; clear hb hbox hg; have hnb20 := NB187_188.out; have hnc20 := NB188_187.out; have hcz21_0 : w19.cell? ⟨gb187, 0, none⟩ = some (.slice A0_0 l0_0.length c0_0) := (blk_cell BK187.out 0).trans rfl; have hcz21_1 : w19.cell? ⟨gb187, 1, none⟩ = some (.slice A0_1 l0_1.length c0_1) := (blk_cell BK187.out 1).trans rfl; have hcz21_2 : w19.cell? ⟨gb187, 2, none⟩ = some (.slice A0_2 l0_2.length c0_2) := (blk_cell BK187.out 2).trans rfl; have hfz21_0 := blk_frozen BK187.out 0; have hfz21_1 := blk_frozen BK187.out 1; have hfz21_2 := blk_frozen BK187.out 2; have hcz22_0 : w19.cell? ⟨gb188, 0, none⟩ = some (.slice A1_0 l1_0.length c1_0) := (blk_cell BK188.out 0).trans rfl; have hcz22_1 : w19.cell? ⟨gb188, 1, none⟩ = some (.slice A1_1 l1_1.length c1_1) := (blk_cell BK188.out 1).trans rfl; have hcz22_2 : w19.cell? ⟨gb188, 2, none⟩ = some (.slice A1_2 l1_2.length c1_2) := (blk_cell BK188.out 2).trans rfl; have hfz22_0 := blk_frozen BK188.out 0; have hfz22_1 := blk_frozen BK188.out 1; have hfz22_2 := blk_frozen BK188.out 2) | ((with_reducible refine gate_callee (f := 67) rfl ?_); refine goesL_ (some 9) rfl rfl Tryz.func67 (by kernel_rfl) rfl #[.slice A0_0 l0_0.length c0_0, .slice A1_0 l1_0.length c1_0] rfl (by (try simp only [List.map_toArray, List.map_cons, List.map_nil]); first | done | rfl | (simp only [List.length_drop, List.length_take]; rfl)) ?_; (with_reducible refine (api_Ctr.calls k _ _ l0_0 _ _ l1_0 false _ ?side1 ?side2 ?side3 ?side4 A3.out).mono ?_); (case side1 => repeat (first | exact (Kd.C_below HR0_0.out HB.out) | (with_reducible refine Kd.C_alloc ?_ _) | (with_reducible refine Kd.C_drewN ?_ _) | (with_reducible refine Kd.C_drew ?_))); (case side2 => exact HC0_0.out); (case side3 => repeat (first | exact (Kd.C_below HR1_0.out HB.out) | (with_reducible refine Kd.C_alloc ?_ _) | (with_reducible refine Kd.C_drewN ?_ _) | (with_reducible refine Kd.C_drew ?_))); (case side4 => exact HC1_0.out); rintro e w' ⟨rfl, ⟨nd, rfl⟩⟩; refine ⟨_, rfl, ?_⟩))
  go_ret
  exact ⟨by first | rfl | (simp [errW_none, errW_some] <;> rfl) | (simp [*, errW_none, errW_some] <;> rfl), by repeat (first | (with_reducible first | exact HB.out | apply below_alloc | apply pw_below_drewN | apply below_drew1 | refine below_set ?_ GE187.out | refine below_set ?_ GE188.out) | exact HB.out)⟩

end Go.Proofs.YtmcddoolniaehaaGreat.S
end
section
namespace Go.Proofs.YtmcddoolniaehaaGreat.S
open Go.RowKit Go.Maps Go.Sort Go.Proofs.YtmcddoolniaehaaGreatW.PrintWords Go.Proofs.YtmcddoolniaehaaGreatW.PrintLast Go.Proofs.YtmcddoolniaehaaGreatW.PrintMore Go.Proofs.YtmcddoolniaehaaGreatW
set_option linter.unusedVariables false
set_option linter.unusedSimpArgs false
def mergeC (base a b : List Ct) : List Ct := if mayC base && (mayC a && mayC b) then outM (addM (-1) (addM 1 (addM 1 [] a) b) base) else []
def ctr_Merge.f (l0 : List (S73)) (l1 : List (S73)) (l2 : List (S73)) : Option ((List (S73))) :=
  if smallC l0 = true ∧ smallC l1 = true ∧ smallC l2 = true then some (mergeC l0 l1 l2) else none
set_option maxHeartbeats 4000000 in
set_option maxRecDepth 100000 in
theorem ctr_Merge.calls (A0 : Option Addr) (c0 : Nat) (l0 : List (S73)) (A1 : Option Addr) (c1 : Nat) (l1 : List (S73)) (A2 : Option Addr) (c2 : Nat) (l2 : List (S73)) (r : List (S73)) (w : World) (hr0 : Kd.C k73 w A0 l0.length l0) (hc0 : l0.length ≤ c0) (hr1 : Kd.C k73 w A1 l1.length l1) (hc1 : l1.length ≤ c1) (hr2 : Kd.C k73 w A2 l2.length l2) (hc2 : l2.length ≤ c2) (h : ctr_Merge.f l0 l1 l2 = some r) :
    Calls Tryz.prog 61 #[.slice A0 l0.length c0, .slice A1 l1.length c1, .slice A2 l2.length c2] w fun e w' => ∃ v0_ : Value, e = .returned (v0_) ∧ Kd.R k73 73 w' w.heap.size (fun _ => True) v0_ r ∧ Below w.heap.size w w' := by
  unfold ctr_Merge.f at h
  split at h
  case isFalse => cases h
  case isTrue hh =>
  cases h
  obtain ⟨q0, q1, q2⟩ := hh
  have hlen0 := smallC_len q0
  have hlen1 := smallC_len q1
  have hlen2 := smallC_len q2
  have HMAY0 := Aside0.mk (fun (W : World) (hb : Below w.heap.size w W) => ctr_May.calls (l0.length + 1) A0 c0 l0 (mayC l0) W (Kd.C_below hr0 hb) hc0 (mayC_f (l0.length + 1) l0 (by omega) (by omega) (smallC_all q0)))
  have HMAY1 := Aside0.mk (fun (W : World) (hb : Below w.heap.size w W) => ctr_May.calls (l1.length + 1) A1 c1 l1 (mayC l1) W (Kd.C_below hr1 hb) hc1 (mayC_f (l1.length + 1) l1 (by omega) (by omega) (smallC_all q1)))
  have HMAY2 := Aside0.mk (fun (W : World) (hb : Below w.heap.size w W) => ctr_May.calls (l2.length + 1) A2 c2 l2 (mayC l2) W (Kd.C_below hr2 hb) hc2 (mayC_f (l2.length + 1) l2 (by omega) (by omega) (smallC_all q2)))
  have HR0 := Aside0.mk hr0
  have HR1 := Aside0.mk hr1
  have HR2 := Aside0.mk hr2
  have HS0 := Aside0.mk (smallC_all q0)
  have HS1 := Aside0.mk (smallC_all q1)
  have HS2 := Aside0.mk (smallC_all q2)
  clear hr0 hr1 hr2 q0 q1 q2
  have hum := Tryz.underlying100
  have hmm := @run_makeMap Tryz.prog
  go_enter Tryz.func61, Tryz.ntmps61
  go_wp2_with fail
  refine (HMAY0.out _ (Below.refl _ _)).mono ?_
  rintro e w1 ⟨rfl, hb1⟩
  have HB1 := Aside0.mk hb1
  clear hb1 HMAY0
  cases hm0 : mayC l0 with
  | false =>
    have HI := Aside0.mk (show mergeC l0 l1 l2 = [] by simp [mergeC, hm0])
    clear hm0
    go_wp2
    go_ret
    exact ⟨_, rfl, by rw [HI.out]; exact Kd.R_nil _ _ _ _ _, HB1.out⟩
  | true =>
    go_wp2_with fail
    refine (HMAY1.out _ HB1.out).mono ?_
    rintro e w2 ⟨rfl, hb2⟩
    have HB2 := Aside0.mk (below_step HB1.out hb2)
    clear hb2 HMAY1 HB1
    cases hm1 : mayC l1 with
    | false =>
      have HI := Aside0.mk (show mergeC l0 l1 l2 = [] by simp [mergeC, hm1])
      clear hm0 hm1
      go_wp2
      go_ret
      exact ⟨_, rfl, by rw [HI.out]; exact Kd.R_nil _ _ _ _ _, HB2.out⟩
    | true =>
      go_wp2_with fail
      refine (HMAY2.out _ HB2.out).mono ?_
      rintro e w3 ⟨rfl, hb3⟩
      have HB3 := Aside0.mk (below_step HB2.out hb3)
      clear hb3 HMAY2 HB2
      cases hm2 : mayC l2 with
      | false =>
        have HI := Aside0.mk (show mergeC l0 l1 l2 = [] by simp [mergeC, hm2])
        clear hm0 hm1 hm2
        go_wp2
        go_ret
        exact ⟨_, rfl, by rw [HI.out]; exact Kd.R_nil _ _ _ _ _, HB3.out⟩
      | true =>
        have HI := Aside0.mk (show mergeC l0 l1 l2 = outM (addM (-1) (addM 1 (addM 1 [] l1) l2) l0) by simp [mergeC, hm0, hm1, hm2])
        clear hm0 hm1 hm2
        have hw3 := HB3.out.size
        have hl1 : 0 + l1.length ≤ maxLen := by unfold maxLen; omega
        have HADD1 := Aside0.mk (sums_add w w3.heap.size 0 [] A1 c1 l1 1 (w3.alloc (.map #[] 0)) (below_alloc HB3.out _) hw3 (World.ownsMap_made w3 Tryz.prog 9 (plainElem (H := Unit) Tryz.prog 3)) List.Pairwise.nil HR1.out hl1 (fun x hx => kSmall_le (HS1.out x hx)))
        go_wp2_with fail
        refine HADD1.out.mono ?_
        rintro e w4 ⟨rfl, ho4, hb4⟩
        have HB4 := Aside0.mk hb4
        have hl2 : 0 + l1.length + l2.length ≤ maxLen := by unfold maxLen; omega
        have hU1 := addM_up 1 l1 [] List.Pairwise.nil
        have HADD2 := Aside0.mk (sums_add w w3.heap.size _ (addM 1 [] l1) A2 c2 l2 1 w4 hb4 hw3 ho4 hU1 HR2.out hl2 (fun x hx => kSmall_le (HS2.out x hx)))
        have HU2 := Aside0.mk (addM_up 1 l2 _ hU1)
        clear ho4 hb4 HADD1 hmm hU1
        go_wp2_with fail
        refine HADD2.out.mono ?_
        rintro e w5 ⟨rfl, ho5, hb5⟩
        have hl3 : 0 + l1.length + l2.length + l0.length ≤ maxLen := by unfold maxLen; omega
        have HADD3 := Aside0.mk (sums_add w w3.heap.size _ _ A0 c0 l0 (-1) w5 hb5 hw3 ho5 HU2.out HR0.out hl3 (fun x hx => kSmall_le (HS0.out x hx)))
        have HU3 := Aside0.mk (addM_up (-1) l0 _ HU2.out)
        clear ho5 hb5 HADD2 HB4
        go_wp2_with fail
        refine HADD3.out.mono ?_
        rintro e w6 ⟨rfl, ho6, hb6⟩
        have hlenI : (addM (-1) (addM 1 (addM 1 [] l1) l2) l0).length * 32 ≤ 140737488355328 := by
          have h1 := addM_len 1 l1 []
          have h2 := addM_len 1 l2 (addM 1 [] l1)
          have h3 := addM_len (-1) l0 (addM 1 (addM 1 [] l1) l2)
          simp only [List.length_nil] at h1
          exact Nat.le_trans (Nat.mul_le_mul_right 32 (show _ ≤ l1.length + l2.length + l0.length by omega)) (by omega)
        have HL := Aside0.mk (list_calls w3.heap.size _ _ w6 ho6 HU3.out hlenI)
        have HB6 := Aside0.mk hb6
        clear ho6 hb6 HADD3 HU3 HU2 hlenI
        go_wp2_with fail
        refine HL.out.mono ?_
        rintro e w7 ⟨v, rfl, ho7, hb7⟩
        obtain ⟨A', c', rfl⟩ := own_slice ho7
        have HO7 := Aside0.mk (own_lower' ho7 HB6.out.size)
        have HB7 := Aside0.mk (below_step HB6.out hb7)
        clear ho7 hb7 HL HB6
        go_wp2
        go_ret
        exact ⟨_, rfl, by rw [HI.out]; exact R_ctr HO7.out, HB7.out⟩
end Go.Proofs.YtmcddoolniaehaaGreat.S
end
section
namespace Go.Proofs.YtmcddoolniaehaaGreat.S
open Go.RowKit Go.Proofs.YtmcddoolniaehaaGreatW.PrintWords Go.Proofs.YtmcddoolniaehaaGreatW.PrintLast Go.Proofs.YtmcddoolniaehaaGreatW.PrintMore
set_option linter.unusedVariables false
set_option linter.unusedSimpArgs false

def firstAt {α : Type} (p : α → Bool) : Nat → List α → Int
  | _, [] => -1
  | k, x :: l => if p x then (k : Int) else firstAt p (k + 1) l
theorem firstAt_drop {α : Type} (p : α → Bool) (l : List α) : ∀ (k : Nat), k ≤ l.length → (∀ j, j < k → ∀ h : j < l.length, p l[j] = false) → firstAt p k (l.drop k) = firstAt p 0 l := by
  intro k
  induction k with
  | zero => intro _ _; rfl
  | succ k ih =>
    intro hk hp
    rw [← ih (by omega) (fun j hj h => hp j (by omega) h)]
    rw [List.drop_eq_getElem_cons (show k < l.length by omega)]
    simp [firstAt, hp k (by omega) (by omega)]
def regEnc (x : S47) : Value := .agg #[.string x.f0, .string x.f1, .int .i64 x.f2, .int .i64 x.f3.f0, .int .i64 x.f3.f1]
def regKey (key : ByteArray) (x : S47) : Bool := x.f0.toList == key.toList

theorem reg_clo (key : ByteArray) (B : Nat) (w : World) (hB : B < w.heap.size) (hcell : w.cell? ⟨B, 0, none⟩ = some (.string key)) (x : S47) :
    Calls Tryz.prog 71 #[.agg #[.string x.f0, .string x.f1, .int .i64 x.f2, .int .i64 x.f3.f0, .int .i64 x.f3.f1], .pointer (some ⟨B, 0, none⟩)] w fun e w' => e = .returned (.bool (regKey key x)) ∧ Below w.heap.size w w' := by
  have hne : B ≠ w.heap.size := by omega
  have H := Aside0.mk (show regKey key x = (x.f0.toList == key.toList) from rfl)
  go_enter Tryz.func71, Tryz.ntmps71
  go_wp2
  go_ret
  exact ⟨rfl, below_alloc (Below.refl _ _) _⟩

theorem reg_idx (key : ByteArray) (B : Nat) (w : World) (hB : B < w.heap.size) (hcell : w.cell? ⟨B, 0, none⟩ = some (.string key)) (A0 : Option Addr) (c0 : Nat) (l0 : List S47) (hr0 : Kd.C k47 w A0 l0.length l0) :
    Calls Tryz.prog 70 #[.slice A0 l0.length c0, .func (.func 71) #[] #[.pointer (some ⟨B, 0, none⟩)]] w fun e w' => e = .returned (.int .i64 (firstAt (regKey key) 0 l0)) ∧ Below w.heap.size w w' := by
  have HR := Aside0.mk hr0
  have HC := Aside0.mk hcell
  have HL := Aside0.mk hr0.2.1
  clear hr0 hcell
  go_enter Tryz.func70, Tryz.ntmps70
  go_wp2
  go_loopw [8] (fun i wr => ∃ k : Nat, k ≤ l0.length ∧ i = .int .i64 k ∧ Aside0 (∀ j, j < k → ∀ h : j < l0.length, regKey key l0[j] = false) ∧ Aside0 (Below w.heap.size w wr)) (fun i _ => l0.length - (intOf i).toNat)
  case atStart => exact ⟨0, Nat.zero_le _, rfl, ⟨fun j hj => by omega⟩, ⟨Below.refl _ _⟩⟩
  case round =>
    obtain ⟨k, hk, rfl, ha, HB⟩ := hrel
    by_cases hlt : k < l0.length
    · obtain ⟨ad, e, hx0, hx1, hx2, hx3, hx4⟩ := at_T47 HR.out k (by omega) (by omega)
      cases e
      replace hx0 := (HB.out.cell (World.block_lt_of_cell? w _ hx0)).trans hx0
      replace hx1 := (HB.out.cell (World.block_lt_of_cell? w _ hx1)).trans hx1
      replace hx2 := (HB.out.cell (World.block_lt_of_cell? w _ hx2)).trans hx2
      replace hx3 := (HB.out.cell (World.block_lt_of_cell? w _ hx3)).trans hx3
      replace hx4 := (HB.out.cell (World.block_lt_of_cell? w _ hx4)).trans hx4
      simp only [Int.toNat_natCast] at hx0 hx1 hx2 hx3 hx4
      have HX := Aside0.mk (show rd_T47 l0 k = l0[k] by simp [rd_T47, List.getD_eq_getElem?_getD, List.getElem?_eq_getElem hlt])
      have h63 := HL.out
      have hBr : B < wr.heap.size := Nat.lt_of_lt_of_le hB HB.out.size
      have hcl := reg_clo key B wr hBr ((HB.out.cell (p := ⟨B, 0, none⟩) hB).trans HC.out) (rd_T47 l0 k)
      have HCL := Aside0.mk hcl
      clear hcl
      cases hq : regKey key (rd_T47 l0 k) with
      | true =>
        have HF := Aside0.mk (show firstAt (regKey key) 0 l0 = (k : Int) by
          rw [← firstAt_drop (regKey key) l0 k hk ha.out, List.drop_eq_getElem_cons hlt]
          rw [HX.out] at hq
          simp [firstAt, hq])
        go_wp2_with fail
        refine HCL.out.mono ?_
        rintro e w' ⟨rfl, hb⟩
        have HB' := Aside0.mk (below_step HB.out hb)
        clear hx0 hx1 hx2 hx3 hx4 HB hb HCL hBr
        go_wp2
        go_ret
        exact ⟨by rw [HF.out]; rfl, HB'.out⟩
      | false =>
        have HF := Aside0.mk (show ∀ j, j < k + 1 → ∀ h : j < l0.length, regKey key l0[j] = false by
          intro j hj h
          rcases Nat.lt_or_ge j k with q | q
          · exact ha.out j q h
          · obtain rfl : j = k := by omega
            rw [← HX.out]; exact hq)
        go_wp2_with fail
        refine HCL.out.mono ?_
        rintro e w' ⟨rfl, hb⟩
        have HB' := Aside0.mk (below_step HB.out hb)
        clear hx0 hx1 hx2 hx3 hx4 HB hb HCL hBr ha
        go_wp2
        go_roundw
        case rel => exact ⟨k + 1, by omega, by go_num, HF, HB'⟩
        case measure => simp [intOf]; omega
    · have HF := Aside0.mk (show firstAt (regKey key) 0 l0 = -1 by
        obtain rfl : k = l0.length := by omega
        rw [← firstAt_drop (regKey key) l0 _ (Nat.le_refl _) ha.out, List.drop_length]; rfl)
      go_wp2
      go_ret
      exact ⟨by rw [HF.out]; rfl, HB.out⟩

theorem firstAt_find {α : Type} (p : α → Bool) : ∀ (l : List α) (k : Nat), (firstAt p k l = -1 ∧ l.find? p = none) ∨ ∃ (j : Nat) (h : j < l.length), firstAt p k l = ((k + j : Nat) : Int) ∧ l.find? p = some l[j]
  | [], _ => .inl ⟨rfl, rfl⟩
  | x :: l, k => by
    unfold firstAt
    cases hp : p x with
    | true => exact .inr ⟨0, by simp, by simp, by simp [hp]⟩
    | false =>
      simp only [List.find?_cons, hp]
      rcases firstAt_find p l (k + 1) with ⟨h1, h2⟩ | ⟨j, h, h1, h2⟩
      · exact .inl ⟨by simpa using h1, h2⟩
      · exact .inr ⟨j + 1, by simp; omega, by rw [if_neg (by simp)]; rw [h1]; congr 1; omega, by simpa using h2⟩
def reg_Get.f (l0 : List (S47)) (a1 : ByteArray) : Option (ByteArray × ByteArray × Int × Int × Int × Bool) :=
  match l0.find? (regKey a1) with
  | some x => some (x.f0, x.f1, x.f2, x.f3.f0, x.f3.f1, true)
  | none => some (⟨#[]⟩, ⟨#[]⟩, 0, 0, 0, false)
set_option maxRecDepth 100000 in
theorem reg_Get.calls (A0 : Option Addr) (c0 : Nat) (l0 : List (S47)) (a1 : ByteArray) (r1 : ByteArray) (r2 : ByteArray) (r3 : Int) (r4 : Int) (r5 : Int) (r6 : Bool) (w : World) (hr0 : Kd.C k47 w A0 l0.length l0) (hc0 : l0.length ≤ c0) (h : reg_Get.f l0 a1 = some (r1, r2, r3, r4, r5, r6)) :
    Calls Tryz.prog 21 #[.slice A0 l0.length c0, .string a1] w fun e w' => e = .returned (.tuple #[.agg #[.string r1, .string r2, .int .i64 r3, .int .i64 r4, .int .i64 r5], .bool r6]) ∧ Below w.heap.size w w' := by
  have hu := Tryz.underlying47
  have HW := Aside0.mk (Below.refl w.heap.size w)
  have HR := Aside0.mk hr0
  have HL := Aside0.mk hr0.2.1
  have HI := fun W => reg_idx a1 w.heap.size W
  rcases firstAt_find (regKey a1) l0 0 with ⟨h1, h2⟩ | ⟨j, hj, h1, h2⟩
  · have H2 : (⟨#[]⟩, ⟨#[]⟩, 0, 0, 0, false) = (r1, r2, r3, r4, r5, r6) := by simpa [reg_Get.f, h2] using h
    simp only [Prod.mk.injEq] at H2
    obtain ⟨rfl, rfl, rfl, rfl, rfl, rfl⟩ := H2
    have H1 := Aside0.mk h1
    clear h h1 h2 hr0 hc0
    go_enter Tryz.func21, Tryz.ntmps21
    go_wp2_with fail
    refine (HI _ ?h1 ?h2 A0 c0 l0 (Kd.C_below HR.out (below_alloc (below_alloc HW.out _) _))).mono ?_
    case h1 => simp; omega
    case h2 => simp
    rintro e w' ⟨rfl, hb⟩
    have hk := blk_below (blk_new _ _) hb
    have hlt := blk_lt hk
    have HB := Aside0.mk (below_step (below_alloc (below_alloc HW.out _) _) hb)
    clear hb HI HW
    rw [H1.out]
    simp only [World.size_alloc] at hk hlt
    have hc0 := (blk_cell hk 0).trans rfl
    have hc1 := (blk_cell hk 1).trans rfl
    have hc2 := (blk_cell hk 2).trans rfl
    have hc3 := (blk_cell hk 3).trans rfl
    have hc4 := (blk_cell hk 4).trans rfl
    have hf0 := blk_frozen hk 0
    have hf1 := blk_frozen hk 1
    have hf2 := blk_frozen hk 2
    have hf3 := blk_frozen hk 3
    have hf4 := blk_frozen hk 4
    clear hk
    go_wp2
    refine bodyPost_ret (v := .tuple #[.agg #[.string ⟨#[]⟩, .string ⟨#[]⟩, .int .i64 0, .int .i64 0, .int .i64 0], .bool false]) (by simp [results, Tryz.results21, go_sem, hc0, hc1, hc2, hc3, hc4]) rfl ⟨rfl, ?_⟩
    exact below_set (below_set (below_set (below_set (below_set HB.out (by omega)) (by omega)) (by omega)) (by omega)) (by omega)
  · have H2 : (l0[j].f0, l0[j].f1, l0[j].f2, l0[j].f3.f0, l0[j].f3.f1, true) = (r1, r2, r3, r4, r5, r6) := by simpa [reg_Get.f, h2] using h
    have HX := Aside0.mk (show rd_T47 l0 j = l0[j] by simp [rd_T47, List.getD_eq_getElem?_getD, List.getElem?_eq_getElem hj])
    rw [← HX.out] at H2
    simp only [Prod.mk.injEq] at H2
    obtain ⟨rfl, rfl, rfl, rfl, rfl, rfl⟩ := H2
    have H1 := Aside0.mk (show firstAt (regKey a1) 0 l0 = (j : Int) by rw [h1]; simp)
    clear h h1 h2 hr0 hc0 HX
    obtain ⟨ad, e, hx0, hx1, hx2, hx3, hx4⟩ := at_T47 HR.out j (by omega) (by omega)
    cases e
    simp only [Int.toNat_natCast] at hx0 hx1 hx2 hx3 hx4
    have HX0 := Aside0.mk hx0
    have HX1 := Aside0.mk hx1
    have HX2 := Aside0.mk hx2
    have HX3 := Aside0.mk hx3
    have HX4 := Aside0.mk hx4
    clear hx0 hx1 hx2 hx3 hx4
    go_enter Tryz.func21, Tryz.ntmps21
    go_wp2_with fail
    refine (HI _ ?h1 ?h2 (some ad) c0 l0 (Kd.C_below HR.out (below_alloc (below_alloc HW.out _) _))).mono ?_
    case h1 => simp; omega
    case h2 => simp
    rintro e w' ⟨rfl, hb⟩
    have hk := blk_below (blk_new _ _) hb
    have hlt := blk_lt hk
    have HB := Aside0.mk (below_step (below_alloc (below_alloc HW.out _) _) hb)
    clear hb HI HW
    rw [H1.out]
    simp only [World.size_alloc] at hk hlt
    have hc0 := (blk_cell hk 0).trans rfl
    have hc1 := (blk_cell hk 1).trans rfl
    have hc2 := (blk_cell hk 2).trans rfl
    have hc3 := (blk_cell hk 3).trans rfl
    have hc4 := (blk_cell hk 4).trans rfl
    have hf0 := blk_frozen hk 0
    have hf1 := blk_frozen hk 1
    have hf2 := blk_frozen hk 2
    have hf3 := blk_frozen hk 3
    have hf4 := blk_frozen hk 4
    clear hk
    have hx0 := (HB.out.cell (World.block_lt_of_cell? w _ HX0.out)).trans HX0.out
    have hx1 := (HB.out.cell (World.block_lt_of_cell? w _ HX1.out)).trans HX1.out
    have hx2 := (HB.out.cell (World.block_lt_of_cell? w _ HX2.out)).trans HX2.out
    have hx3 := (HB.out.cell (World.block_lt_of_cell? w _ HX3.out)).trans HX3.out
    have hx4 := (HB.out.cell (World.block_lt_of_cell? w _ HX4.out)).trans HX4.out
    have hl := HL.out
    clear HX0 HX1 HX2 HX3 HX4
    go_wp2
    refine bodyPost_ret (v := .tuple #[.agg #[.string (rd_T47 l0 j).f0, .string (rd_T47 l0 j).f1, .int .i64 (rd_T47 l0 j).f2, .int .i64 (rd_T47 l0 j).f3.f0, .int .i64 (rd_T47 l0 j).f3.f1], .bool true]) (by simp [results, Tryz.results21, go_sem, hc0, hc1, hc2, hc3, hc4]) rfl ⟨rfl, ?_⟩
    exact below_set (below_set (below_set (below_set (below_set HB.out (by omega)) (by omega)) (by omega)) (by omega)) (by omega)
end Go.Proofs.YtmcddoolniaehaaGreat.S
end
section
namespace Go.Proofs.YtmcddoolniaehaaGreat.S
open Go.RowKit Go.Proofs.YtmcddoolniaehaaGreatW.PrintWords Go.Proofs.YtmcddoolniaehaaGreatW.PrintLast Go.Proofs.YtmcddoolniaehaaGreatW.PrintMore
set_option linter.unusedVariables false
set_option linter.unusedSimpArgs false
def ctrKey (key : ByteArray) (x : S73) : Bool := x.f0.toList == key.toList

theorem ctr_clo (key : ByteArray) (B : Nat) (w : World) (hB : B < w.heap.size) (hcell : w.cell? ⟨B, 0, none⟩ = some (.string key)) (x : S73) :
    Calls Tryz.prog 74 #[.agg #[.string x.f0, .int .i64 x.f1], .pointer (some ⟨B, 0, none⟩)] w fun e w' => e = .returned (.bool (ctrKey key x)) ∧ Below w.heap.size w w' := by
  have hne : B ≠ w.heap.size := by omega
  have H := Aside0.mk (show ctrKey key x = (x.f0.toList == key.toList) from rfl)
  go_enter Tryz.func74, Tryz.ntmps74
  go_wp2
  go_ret
  exact ⟨rfl, below_alloc (Below.refl _ _) _⟩

theorem ctr_idx (key : ByteArray) (B : Nat) (w : World) (hB : B < w.heap.size) (hcell : w.cell? ⟨B, 0, none⟩ = some (.string key)) (A0 : Option Addr) (c0 : Nat) (l0 : List S73) (hr0 : Kd.C k73 w A0 l0.length l0) :
    Calls Tryz.prog 73 #[.slice A0 l0.length c0, .func (.func 74) #[] #[.pointer (some ⟨B, 0, none⟩)]] w fun e w' => e = .returned (.int .i64 (firstAt (ctrKey key) 0 l0)) ∧ Below w.heap.size w w' := by
  have HR := Aside0.mk hr0
  have HC := Aside0.mk hcell
  have HL := Aside0.mk hr0.2.1
  clear hr0 hcell
  go_enter Tryz.func73, Tryz.ntmps73
  go_wp2
  go_loopw [8] (fun i wr => ∃ k : Nat, k ≤ l0.length ∧ i = .int .i64 k ∧ Aside0 (∀ j, j < k → ∀ h : j < l0.length, ctrKey key l0[j] = false) ∧ Aside0 (Below w.heap.size w wr)) (fun i _ => l0.length - (intOf i).toNat)
  case atStart => exact ⟨0, Nat.zero_le _, rfl, ⟨fun j hj => by omega⟩, ⟨Below.refl _ _⟩⟩
  case round =>
    obtain ⟨k, hk, rfl, ha, HB⟩ := hrel
    by_cases hlt : k < l0.length
    · obtain ⟨ad, e, hx0, hx1⟩ := at_T73 HR.out k (by omega) (by omega)
      cases e
      replace hx0 := (HB.out.cell (World.block_lt_of_cell? w _ hx0)).trans hx0
      replace hx1 := (HB.out.cell (World.block_lt_of_cell? w _ hx1)).trans hx1
      simp only [Int.toNat_natCast] at hx0 hx1
      have HX := Aside0.mk (show rd_T73 l0 k = l0[k] by simp [rd_T73, List.getD_eq_getElem?_getD, List.getElem?_eq_getElem hlt])
      have h63 := HL.out
      have hBr : B < wr.heap.size := Nat.lt_of_lt_of_le hB HB.out.size
      have hcl := ctr_clo key B wr hBr ((HB.out.cell (p := ⟨B, 0, none⟩) hB).trans HC.out) (rd_T73 l0 k)
      have HCL := Aside0.mk hcl
      clear hcl
      cases hq : ctrKey key (rd_T73 l0 k) with
      | true =>
        have HF := Aside0.mk (show firstAt (ctrKey key) 0 l0 = (k : Int) by
          rw [← firstAt_drop (ctrKey key) l0 k hk ha.out, List.drop_eq_getElem_cons hlt]
          rw [HX.out] at hq
          simp [firstAt, hq])
        go_wp2_with fail
        refine HCL.out.mono ?_
        rintro e w' ⟨rfl, hb⟩
        have HB' := Aside0.mk (below_step HB.out hb)
        clear hx0 hx1 HB hb HCL hBr
        go_wp2
        go_ret
        exact ⟨by rw [HF.out]; rfl, HB'.out⟩
      | false =>
        have HF := Aside0.mk (show ∀ j, j < k + 1 → ∀ h : j < l0.length, ctrKey key l0[j] = false by
          intro j hj h
          rcases Nat.lt_or_ge j k with q | q
          · exact ha.out j q h
          · obtain rfl : j = k := by omega
            rw [← HX.out]; exact hq)
        go_wp2_with fail
        refine HCL.out.mono ?_
        rintro e w' ⟨rfl, hb⟩
        have HB' := Aside0.mk (below_step HB.out hb)
        clear hx0 hx1 HB hb HCL hBr ha
        go_wp2
        go_roundw
        case rel => exact ⟨k + 1, by omega, by go_num, HF, HB'⟩
        case measure => simp [intOf]; omega
    · have HF := Aside0.mk (show firstAt (ctrKey key) 0 l0 = -1 by
        obtain rfl : k = l0.length := by omega
        rw [← firstAt_drop (ctrKey key) l0 _ (Nat.le_refl _) ha.out, List.drop_length]; rfl)
      go_wp2
      go_ret
      exact ⟨by rw [HF.out]; rfl, HB.out⟩

def ctr_Get.f (l0 : List (S73)) (a1 : ByteArray) : Option (Int) :=
  match l0.find? (ctrKey a1) with
  | some x => some x.f1
  | none => some 0
set_option maxRecDepth 100000 in
theorem ctr_Get.calls (A0 : Option Addr) (c0 : Nat) (l0 : List (S73)) (a1 : ByteArray) (r : Int) (w : World) (hr0 : Kd.C k73 w A0 l0.length l0) (hc0 : l0.length ≤ c0) (h : ctr_Get.f l0 a1 = some r) :
    Calls Tryz.prog 23 #[.slice A0 l0.length c0, .string a1] w fun e w' => e = .returned (.int .i64 r) ∧ Below w.heap.size w w' := by
  have hu := Tryz.underlying73
  have HW := Aside0.mk (Below.refl w.heap.size w)
  have HR := Aside0.mk hr0
  have HL := Aside0.mk hr0.2.1
  have HI := fun W => ctr_idx a1 w.heap.size W
  rcases firstAt_find (ctrKey a1) l0 0 with ⟨h1, h2⟩ | ⟨j, hj, h1, h2⟩
  · obtain rfl : 0 = r := by simpa [ctr_Get.f, h2] using h
    have H1 := Aside0.mk h1
    clear h h1 h2 hr0 hc0
    go_enter Tryz.func23, Tryz.ntmps23
    go_wp2_with fail
    refine (HI _ ?h1 ?h2 A0 c0 l0 (Kd.C_below HR.out (below_alloc HW.out _))).mono ?_
    case h1 => simp
    case h2 => simp
    rintro e w' ⟨rfl, hb⟩
    have HB := Aside0.mk (below_step (below_alloc HW.out _) hb)
    clear hb HI HW
    rw [H1.out]
    go_wp2
    go_ret
    exact ⟨rfl, HB.out⟩
  · have HX := Aside0.mk (show rd_T73 l0 j = l0[j] by simp [rd_T73, List.getD_eq_getElem?_getD, List.getElem?_eq_getElem hj])
    obtain rfl : l0[j].f1 = r := by simpa [ctr_Get.f, h2] using h
    rw [← HX.out]
    have H1 := Aside0.mk (show firstAt (ctrKey a1) 0 l0 = (j : Int) by rw [h1]; simp)
    clear h h1 h2 hr0 hc0 HX
    obtain ⟨ad, e, hx0, hx1⟩ := at_T73 HR.out j (by omega) (by omega)
    cases e
    simp only [Int.toNat_natCast, add_plain] at hx0 hx1
    have HX1 := Aside0.mk hx1
    clear hx0 hx1
    go_enter Tryz.func23, Tryz.ntmps23
    go_wp2_with fail
    refine (HI _ ?h1 ?h2 (some ad) c0 l0 (Kd.C_below HR.out (below_alloc HW.out _))).mono ?_
    case h1 => simp
    case h2 => simp
    rintro e w' ⟨rfl, hb⟩
    have HB := Aside0.mk (below_step (below_alloc HW.out _) hb)
    clear hb HI HW
    rw [H1.out]
    have hx1 := (HB.out.cell (World.block_lt_of_cell? w _ HX1.out)).trans HX1.out
    have hl := HL.out
    clear HX1
    go_wp2
    go_ret
    exact ⟨rfl, HB.out⟩
end Go.Proofs.YtmcddoolniaehaaGreat.S
end
section
namespace Go.Proofs.YtmcddoolniaehaaGreat.S
open Go.RowKit Go.Proofs.YtmcddoolniaehaaGreatW.PrintWords Go.Proofs.YtmcddoolniaehaaGreatW.PrintLast Go.Proofs.YtmcddoolniaehaaGreatW.PrintMore
attribute [local go_sem] max2_int min2_int max_two min_two max_three min_three max_four min_four   -- for this text's walks alone
set_option linter.unusedVariables false
set_option linter.unusedSimpArgs false

def law06_Few.l0 : Nat → List (S73) → Int → Option (Bool)
 | 0, _, _ => none
 | k + 1, x0, x3 => if x3 < (x0.length : Int) then (if 0 ≤ x3 then (if (((rd_T73 x0 x3).f0).size : Int) > 100 then (some false) else (law06_Few.l0 k x0 (wrap64 (x3 + 1)))) else (none)) else (some true)
def law06_Few.f (k : Nat) (l0 : List (S73)) : Option (Bool) := if (l0.length : Int) > 30 then (some false) else (law06_Few.l0 k l0 0)
theorem law06_Few.mono_l : ∀ k, (∀ y0 y1, LeO (law06_Few.l0 k y0 y1) (law06_Few.l0 (k + 1) y0 y1))
 | 0 => fun _ _ r h => by simp [law06_Few.l0] at h
 | k + 1 => by
  have ih0 := law06_Few.mono_l k
  ·intro y0 y1
   unfold law06_Few.l0
   repeat' first
   | (with_reducible exact ih0 _ _)
   | (with_reducible exact LeO.refl _)
   | (with_reducible exact LeO.none _)
   | (with_reducible refine LeO.ite ?_ ?_)
   | (with_reducible refine LeO.bind ?_ (fun _ => ?_))
   | exact ih0 _ _
   | exact LeO.none _
   | refine LeO.ite ?_ ?_
   | refine LeO.bind ?_ (fun _ => ?_)
theorem law06_Few.mono : ∀ a0 k, LeO (law06_Few.f k a0) (law06_Few.f (k + 1) a0) := by
 intro a0 k
 have ih0 := law06_Few.mono_l k
 unfold law06_Few.f
 repeat' first
   | (with_reducible exact ih0 _ _)
   | (with_reducible exact LeO.refl _)
   | (with_reducible exact LeO.none _)
   | (with_reducible refine LeO.ite ?_ ?_)
   | (with_reducible refine LeO.bind ?_ (fun _ => ?_))
   | exact ih0 _ _
   | exact LeO.none _
   | refine LeO.ite ?_ ?_
   | refine LeO.bind ?_ (fun _ => ?_)
set_option maxHeartbeats 8000000 in
set_option maxRecDepth 100000 in
theorem law06_Few.calls (k : Nat) (A0 : Option Addr) (c0 : Nat) (l0 : List (S73)) (r : Bool) (w : World) (hr0 : Kd.C k73 w A0 l0.length l0) (hc0 : l0.length ≤ c0) (h : law06_Few.f k l0 = some r) :
  Calls Tryz.prog 24 #[.slice A0 l0.length c0] w fun e w' => e = .returned (.bool r) ∧ Drawn0 w w' := by
 have HR0 := Aside0.mk hr0
 have HC0 := Aside0.mk hc0
 clear hr0 hc0
 have H : (if (l0.length : Int) > 30 then (some false) else (law06_Few.l0 k l0 0)) = some r := h
 clear h
 by_cases c2 : (l0.length : Int) > 30
 ·rw [if_pos c2] at H
  have c2b0 : decide (30 < (l0.length : Int)) = true := decide_eq_true c2
  have c2b1 : decide (30 < l0.length) = true := decide_eq_true (by omega)
  clear c2
  obtain rfl := Option.some.inj H
  go_enter Tryz.func24, Tryz.ntmps24
  go_wp2
  go_ret
  exact ⟨by first | rfl | (simp; done) | (simp [*]; done), by repeat (first | exact Drawn0.refl _ | apply Drawn0.step)⟩
 ·rw [if_neg c2] at H
  have c2b0 : decide (30 < (l0.length : Int)) = false := decide_eq_false c2
  have c2b1 : decide (30 < l0.length) = false := decide_eq_false (by omega)
  clear c2
  have H' := Aside0.mk H
  clear H
  go_enter Tryz.func24, Tryz.ntmps24
  go_wp2
  go_loopg [3] k (fun kq v3 w' => ∃ (x3_1 : Int), v3 = .int .i64 x3_1 ∧ Aside0 (law06_Few.l0 kq l0 x3_1 = some r) ∧ Aside0 (kq ≤ k) ∧ Drawn0 w w')
  case atStart => exact ⟨(0), (by first | rfl | (simp; done) | (simp [*]; done)), H', ⟨Nat.le_refl _⟩, by repeat (first | exact Drawn0.refl _ | apply Drawn0.step)⟩
  case round =>
   clear H'
   try clear c2
   try clear c2b0
   try clear c2b1
   try clear p2
   obtain ⟨x3_1, rfl, HA, HK1, ⟨m1, rfl⟩⟩ := hrel
   cases gk with
   | zero => exact absurd HA.out (by simp [law06_Few.l0])
   | succ k1 =>
    have H := HA.out
    clear HA
    simp only [law06_Few.l0] at H
    by_cases c3 : x3_1 < (l0.length : Int)
    ·rw [if_pos c3] at H
     have c3b0 : decide (x3_1 < (l0.length : Int)) = true := decide_eq_true c3
     clear c3
     by_cases c4 : 0 ≤ x3_1
     ·rw [if_pos c4] at H
      have c4b0 : decide (0 ≤ x3_1) = true := decide_eq_true c4
      clear c4
      by_cases c5 : (((rd_T73 l0 x3_1).f0).size : Int) > 100
      ·rw [if_pos c5] at H
       have c5b0 : decide (100 < (((rd_T73 l0 x3_1).f0).size : Int)) = true := decide_eq_true c5
       have c5b1 : decide (100 < ((rd_T73 l0 x3_1).f0).size) = true := decide_eq_true (by omega)
       clear c5
       obtain rfl := Option.some.inj H
       have p220 : 0 ≤ (x3_1 : Int) := of_decide_eq_true (by first | (with_reducible assumption) | assumption)
       have q220 : x3_1 < (l0.length : Int) := of_decide_eq_true (by first | (with_reducible assumption) | assumption)
       obtain ⟨ad220, e220, hx220_0, hx220_1⟩ := at_T73 HR0.out x3_1 p220 q220
       cases e220
       replace p220 := eq_true p220
       replace q220 := eq_true q220
       go_wp2
       go_ret
       exact ⟨by first | rfl | (simp; done) | (simp [*]; done), by repeat (first | exact Drawn0.refl _ | apply Drawn0.step)⟩
      ·rw [if_neg c5] at H
       have c5b0 : decide (100 < (((rd_T73 l0 x3_1).f0).size : Int)) = false := decide_eq_false c5
       have c5b1 : decide (100 < ((rd_T73 l0 x3_1).f0).size) = false := decide_eq_false (by omega)
       clear c5
       have H' := Aside0.mk H
       clear H
       have p220 : 0 ≤ (x3_1 : Int) := of_decide_eq_true (by first | (with_reducible assumption) | assumption)
       have q220 : x3_1 < (l0.length : Int) := of_decide_eq_true (by first | (with_reducible assumption) | assumption)
       obtain ⟨ad220, e220, hx220_0, hx220_1⟩ := at_T73 HR0.out x3_1 p220 q220
       cases e220
       replace p220 := eq_true p220
       replace q220 := eq_true q220
       go_wp2
       go_roundg k1
       case measure => have := HK1.out; omega
       case rel => exact ⟨(wrap64 (x3_1 + 1)), (by first | rfl | (simp; done) | (simp [*]; done)), H', ⟨by have := HK1.out; omega⟩, by repeat (first | exact Drawn0.refl _ | apply Drawn0.step)⟩
     ·rw [if_neg c4] at H
      exact absurd H (by simp)
    ·rw [if_neg c3] at H
     have c3b0 : decide (x3_1 < (l0.length : Int)) = false := decide_eq_false c3
     clear c3
     obtain rfl := Option.some.inj H
     go_wp2
     go_ret
     exact ⟨by first | rfl | (simp; done) | (simp [*]; done), by repeat (first | exact Drawn0.refl _ | apply Drawn0.step)⟩

end Go.Proofs.YtmcddoolniaehaaGreat.S
end
