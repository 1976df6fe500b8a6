/- Several of the walk's texts in one: SHRMay, Sx9, SHDos, SMapK, SAgg, SHKinds. -/
import Derived.BigQuiet
import Derived.Maps.RangeWalk
import Derived.Maps.AppendAt
import Derived.Laws.EntriesVeiled
import Derived.WideMake
import Derived.MapKept
import Derived.Deep.MidRow
import Derived.Great.BuildSlice
import Derived.Test.YtmcddoolniaehaaGreatMD04
import Derived.Test.YtmcddoolniaehaaGreatMD05
import Derived.Test.YtmcddoolniaehaaGreatMD11
section
namespace Go.Proofs.YtmcddoolniaehaaGreat.S
open Go.RowKit Go.Proofs.YtmcddoolniaehaaGreatW.PrintWords Go.Proofs.YtmcddoolniaehaaGreatW.PrintLast Go.Proofs.YtmcddoolniaehaaGreatW.PrintMore Go.Proofs.YtmcddoolniaehaaGreatW
attribute [local go_sem ↓] Go.wp_at_zero Go.wp_at_succ
set_option linter.unusedVariables false
set_option linter.unusedSimpArgs false
def reg_May.l0 : Nat → List (S47) → List (S47) → Int → Int → Option (Bool)
 | 0, _, _, _, _ => none
 | k + 1, x0, x5, x6, x7 => if x7 < x6 then (if 0 ≤ x7 then (if x7 < (x5.length : Int) then ((reg_one.f ((rd_T47 x5 x7).f0) ((rd_T47 x5 x7).f1) ((rd_T47 x5 x7).f2) ((rd_T47 x5 x7).f3.f0) ((rd_T47 x5 x7).f3.f1)).bind fun t110 => (if t110 = true then (if x7 > 0 then (if 0 ≤ (wrap64 (x7 - 1)) then (if (wrap64 (x7 - 1)) < (x0.length : Int) then (if ((Op.bytesLess (((rd_T47 x0 (wrap64 (x7 - 1))).f0).toList) (((rd_T47 x5 x7).f0).toList)) = true) then (reg_May.l0 k x0 x5 x6 (wrap64 (x7 + 1))) else (some false)) else (none)) else (none)) else (reg_May.l0 k x0 x5 x6 (wrap64 (x7 + 1)))) else (some false))) else (none)) else (none)) else (some true)
def reg_May.f (k : Nat) (l0 : List (S47)) : Option (Bool) := reg_May.l0 k l0 l0 (l0.length : Int) 0
theorem reg_May.mono_l : ∀ k, (∀ y0 y1 y2 y3, LeO (reg_May.l0 k y0 y1 y2 y3) (reg_May.l0 (k + 1) y0 y1 y2 y3))
 | 0 => fun _ _ _ _ r h => by simp [reg_May.l0] at h
 | k + 1 => by
  have ih0 := reg_May.mono_l k
  ·intro y0 y1 y2 y3
   unfold reg_May.l0
   repeat' first
   | (with_reducible exact ih0 _ _ _ _)
   | (with_reducible exact LeO.refl _)
   | (with_reducible exact LeO.none _)
   | (with_reducible refine LeO.ite ?_ ?_)
   | (with_reducible refine LeO.bind ?_ (fun _ => ?_))
   | exact ih0 _ _ _ _
   | exact LeO.none _
   | refine LeO.ite ?_ ?_
   | refine LeO.bind ?_ (fun _ => ?_)
theorem reg_May.mono : ∀ a0 k, LeO (reg_May.f k a0) (reg_May.f (k + 1) a0) := by
 intro a0 k
 have ih0 := reg_May.mono_l k
 unfold reg_May.f
 repeat' first
   | (with_reducible exact ih0 _ _ _ _)
   | (with_reducible exact LeO.refl _)
   | (with_reducible exact LeO.none _)
   | (with_reducible refine LeO.ite ?_ ?_)
   | (with_reducible refine LeO.bind ?_ (fun _ => ?_))
   | exact ih0 _ _ _ _
   | exact LeO.none _
   | refine LeO.ite ?_ ?_
   | refine LeO.bind ?_ (fun _ => ?_)
theorem reg_May.step {k1 : Nat} {l0 : List (S47)} {x : Int} {r : Bool} (H : reg_May.l0 (k1 + 1) l0 l0 (l0.length : Int) x = some r) (c2 : x < (l0.length : Int)) :
    0 ≤ x ∧ (∃ t, reg_one.f (rd_T47 l0 x).f0 (rd_T47 l0 x).f1 (rd_T47 l0 x).f2 (rd_T47 l0 x).f3.f0 (rd_T47 l0 x).f3.f1 = some t ∧ (t = false ∧ r = false ∨ t = true ∧ (decide (0 < x) = false ∧ reg_May.l0 k1 l0 l0 (l0.length : Int) (wrap64 (x + 1)) = some r ∨ decide (0 < x) = true ∧ 0 ≤ wrap64 (x - 1) ∧ wrap64 (x - 1) < (l0.length : Int) ∧ ∃ b, Op.bytesLess (rd_T47 l0 (wrap64 (x - 1))).f0.toList (rd_T47 l0 x).f0.toList = b ∧ (b = true ∧ reg_May.l0 k1 l0 l0 (l0.length : Int) (wrap64 (x + 1)) = some r ∨ b = false ∧ r = false)))) := by
  simp only [reg_May.l0] at H
  rw [if_pos c2] at H
  by_cases c3 : 0 ≤ x
  rotate_left
  · rw [if_neg c3] at H; cases H
  rw [if_pos c3, if_pos c2] at H
  refine ⟨c3, ?_⟩
  obtain ⟨t, h1, H⟩ := Option.bind_eq_some_iff.mp H
  refine ⟨t, h1, ?_⟩
  rcases t with _ | _
  · exact .inl ⟨rfl, by simpa using H.symm⟩
  rw [if_pos rfl] at H
  refine .inr ⟨rfl, ?_⟩
  by_cases z : 0 < x
  rotate_left
  · rw [if_neg z] at H; exact .inl ⟨decide_eq_false z, H⟩
  rw [if_pos z] at H
  by_cases c9 : 0 ≤ wrap64 (x - 1)
  rotate_left
  · rw [if_neg c9] at H; cases H
  rw [if_pos c9] at H
  by_cases c10 : wrap64 (x - 1) < (l0.length : Int)
  rotate_left
  · rw [if_neg c10] at H; cases H
  rw [if_pos c10] at H
  refine .inr ⟨decide_eq_true z, c9, c10, _, rfl, ?_⟩
  cases hb : Op.bytesLess (rd_T47 l0 (wrap64 (x - 1))).f0.toList (rd_T47 l0 x).f0.toList with
  | true => rw [hb, if_pos rfl] at H; exact .inl ⟨rfl, H⟩
  | false => rw [hb] at H; exact .inr ⟨rfl, by simpa using H.symm⟩
set_option maxHeartbeats 8000000 in
set_option maxRecDepth 100000 in
theorem reg_May.calls (k : Nat) (A0 : Option Addr) (c0 : Nat) (l0 : List (S47)) (r : Bool) (w : World) (hr0 : Kd.C k47 w A0 l0.length l0) (hc0 : l0.length ≤ c0) (h : reg_May.f k l0 = some r) :
    Calls Tryz.prog 51 #[.slice A0 l0.length c0] w fun e w' => e = .returned (.bool r) ∧ Below w.heap.size w w' := by
  have hu := Tryz.underlying47
  have HR := Aside0.mk hr0
  have H' := Aside0.mk (show reg_May.l0 k l0 l0 (l0.length : Int) 0 = some r from h)
  clear hr0 hc0 h
  go_enter Tryz.func51, Tryz.ntmps51
  go_wp2
  go_loopg [7] k (fun kq v w' => ∃ x : Int, v = .int .i64 x ∧ Aside0 (reg_May.l0 kq l0 l0 (l0.length : Int) x = some r) ∧ Aside0 (kq ≤ k) ∧ Aside0 (Below w.heap.size w w'))
  case atStart => exact ⟨0, rfl, H', ⟨Nat.le_refl _⟩, ⟨Below.refl _ _⟩⟩
  case round =>
    clear H'
    obtain ⟨x, rfl, HA, HK1, HB⟩ := hrel
    cases gk with
    | zero => exact absurd HA.out (by simp [reg_May.l0])
    | succ k1 =>
      by_cases c2 : x < (l0.length : Int)
      · obtain ⟨c3, H⟩ := reg_May.step HA.out c2
        obtain ⟨ad, e, hx0, hx1, hx2, hx3, hx4⟩ := at_T47 HR.out x c3 c2
        cases e
        replace hx0 := (HB.out.cell (World.block_lt_of_cell? w _ hx0)).trans hx0; replace hx1 := (HB.out.cell (World.block_lt_of_cell? w _ hx1)).trans hx1; replace hx2 := (HB.out.cell (World.block_lt_of_cell? w _ hx2)).trans hx2; replace hx3 := (HB.out.cell (World.block_lt_of_cell? w _ hx3)).trans hx3; replace hx4 := (HB.out.cell (World.block_lt_of_cell? w _ hx4)).trans hx4
        have H0 := Aside0.mk H
        clear H HA
        generalize rd_T47 l0 x = e at *
        have p1 := eq_true c3
        have q1 := eq_true c2
        go_wp2_with fail
        have hBX := Aside0.mk (Bx.new HB.out (.cells #[.string e.f0, .string e.f1, .int .i64 e.f2, .int .i64 e.f3.f0, .int .i64 e.f3.f1] 47))
        revert hBX
        generalize wr.alloc (.cells #[.string e.f0, .string e.f1, .int .i64 e.f2, .int .i64 e.f3.f0, .int .i64 e.f3.f1] 47) = W0
        generalize wr.heap.size = g0
        intro hBX
        clear p1 q1 hx0 hx1 hx2 hx3 hx4 HB
        obtain ⟨t, hK1, H⟩ := H0.out
        have K1 := Aside0.mk (fun W : World => reg_one.calls _ _ _ _ _ _ W hK1)
        clear hK1 H0
        rcases H with ⟨rfl, rfl⟩ | ⟨rfl, ⟨xb, H⟩ | ⟨xb, y0, y1, b, hb, H⟩⟩
        rotate_right
        · have hji := wrapIn y1 y0
          generalize wrap64 (x - 1) = j at *
          obtain ⟨ad2, e2, hy0, hy1, hy2, hy3, hy4⟩ := at_T47 HR.out j y0 y1
          cases e2
          generalize rd_T47 l0 j = y at *
          have y2 := eq_true y0
          have y3 := eq_true y1
          refine in_ (n := 18) (S := Bx w g0 _) (by kernel_rfl) rfl hBX.out.drew (fun hHeld => ?_)
          repeat (first
            | (refine run_ (v := ?_) (a' := ?_) rfl rfl hHeld ?_ ?_ ?_; rotate_left; (focus (intro w2 hs; have s0 := (blk_cell hs.x 0).trans rfl; have s1 := (blk_cell hs.x 1).trans rfl; have s2 := (blk_cell hs.x 2).trans rfl; have s3 := (blk_cell hs.x 3).trans rfl; have s4 := (blk_cell hs.x 4).trans rfl; have u0 := (hs.b.cell (World.block_lt_of_cell? w _ hy0)).trans hy0; go_simp; with_reducible rfl)); rotate_left; (focus (simp only [Act.put, sqA, sqB, sqC] <;> rfl)))
            | (refine skip_ (a' := ?_) rfl rfl hHeld ?_ ?_; rotate_left; (focus (simp only [Act.put, sqA, sqB, sqC] <;> rfl)))
            | (refine ask_ rfl rfl (fun K hK => ?_); go_simp; (first | (go_at_call 82; with_reducible refine (K1.out _).mono ?_)); rintro e1 w1 ⟨rfl, hb⟩; replace hHeld := hHeld.go hb; go_wp2_with fail; refine hK.out _ _ hHeld (fun _ => ?_); clear hK K hb; try simp only [Act.put, sqA, sqB, sqC]))
          refine wpAnyH_done (by kernel_rfl) ?_ _
          rcases H with ⟨rfl, H⟩ | ⟨rfl, rfl⟩
          all_goals first | (go_wp2; go_ret; exact ⟨rfl, hHeld.b⟩) | (go_wp2; go_roundg k1; (case measure => have := HK1.out; omega); (case rel => exact ⟨wrap64 (x + 1), rfl, ⟨H⟩, ⟨by have := HK1.out; omega⟩, ⟨hHeld.b⟩⟩))
        all_goals
          refine in_ (n := 18) (S := Bx w g0 _) (by kernel_rfl) rfl hBX.out.drew (fun hHeld => ?_)
          repeat (first
            | (refine run_ (v := ?_) (a' := ?_) rfl rfl hHeld ?_ ?_ ?_; rotate_left; (focus (intro w2 hs; have s0 := (blk_cell hs.x 0).trans rfl; have s1 := (blk_cell hs.x 1).trans rfl; have s2 := (blk_cell hs.x 2).trans rfl; have s3 := (blk_cell hs.x 3).trans rfl; have s4 := (blk_cell hs.x 4).trans rfl; go_simp; with_reducible rfl)); rotate_left; (focus (simp only [Act.put, sqA, sqB, sqC] <;> rfl)))
            | (refine skip_ (a' := ?_) rfl rfl hHeld ?_ ?_; rotate_left; (focus (simp only [Act.put, sqA, sqB, sqC] <;> rfl)))
            | (refine ask_ rfl rfl (fun K hK => ?_); go_simp; (first | (go_at_call 82; with_reducible refine (K1.out _).mono ?_)); rintro e1 w1 ⟨rfl, hb⟩; replace hHeld := hHeld.go hb; go_wp2_with fail; refine hK.out _ _ hHeld (fun _ => ?_); clear hK K hb; try simp only [Act.put, sqA, sqB, sqC]))
          refine wpAnyH_done (by kernel_rfl) ?_ _
          first | (go_wp2; go_ret; exact ⟨rfl, hHeld.b⟩) | (go_wp2; go_roundg k1; (case measure => have := HK1.out; omega); (case rel => exact ⟨wrap64 (x + 1), rfl, ⟨H⟩, ⟨by have := HK1.out; omega⟩, ⟨hHeld.b⟩⟩))
      · have q1 := decide_eq_false c2
        have H := HA.out
        simp only [reg_May.l0] at H
        rw [if_neg c2] at H
        cases H
        go_wp2
        go_ret
        exact ⟨rfl, HB.out⟩
end Go.Proofs.YtmcddoolniaehaaGreat.S
end
section
namespace Go.Proofs.YtmcddoolniaehaaGreat.S
open Go.RowKit Go.Proofs.YtmcddoolniaehaaGreatW.PrintWords Go.Proofs.YtmcddoolniaehaaGreatW.PrintLast Go.Proofs.YtmcddoolniaehaaGreatW.PrintMore
attribute [local go_sem] max2_int min2_int max_two min_two max_three min_three max_four min_four   -- for this text's walks alone
set_option linter.unusedVariables false
set_option linter.unusedSimpArgs false

def reg_Put.f (k : Nat) (l0 : List (S47)) (a1_0 : ByteArray) (a1_1 : ByteArray) (a1_2 : Int) (a1_3 : Int) (a1_4 : Int) : Option ((List (S47))) := (reg_May.f k l0).bind fun t134 => (if t134 = true then ((reg_one.f a1_0 a1_1 a1_2 a1_3 a1_4).bind fun t135 => (if t135 = true then ((reg_with.f l0 (([(⟨a1_0, a1_1, a1_2, (⟨a1_3, a1_4⟩ : S30)⟩ : S47)] : List (S47)))).bind fun t139 => (some t139)) else (some ([] : List (S47))))) else (some ([] : List (S47))))
theorem reg_Put.mono : ∀ a0 a1 a2 a3 a4 a5 k, LeO (reg_Put.f k a0 a1 a2 a3 a4 a5) (reg_Put.f (k + 1) a0 a1 a2 a3 a4 a5) := by
 intro a0 a1 a2 a3 a4 a5 k
 unfold reg_Put.f
 repeat' first
   | (with_reducible exact reg_May.mono _ _)
   | (with_reducible exact LeO.refl _)
   | (with_reducible exact LeO.none _)
   | (with_reducible refine LeO.ite ?_ ?_)
   | (with_reducible refine LeO.bind ?_ (fun _ => ?_))
   | exact reg_May.mono _ _
   | exact LeO.none _
   | refine LeO.ite ?_ ?_
   | refine LeO.bind ?_ (fun _ => ?_)
set_option maxHeartbeats 8000000 in
set_option maxRecDepth 100000 in
theorem reg_Put.calls (k : Nat) (A0 : Option Addr) (c0 : Nat) (l0 : List (S47)) (a1_0 : ByteArray) (a1_1 : ByteArray) (a1_2 : Int) (a1_3 : Int) (a1_4 : Int) (r : List (S47)) (w : World) (hr0 : Kd.C k47 w A0 l0.length l0) (hc0 : l0.length ≤ c0) (h : reg_Put.f k l0 a1_0 a1_1 a1_2 a1_3 a1_4 = some r) :
  Calls Tryz.prog 33 #[.slice A0 l0.length c0, .agg #[.string a1_0, .string a1_1, .int .i64 a1_2, .int .i64 a1_3, .int .i64 a1_4]] w fun e w' => ∃ v0_ : Value, e = .returned (v0_) ∧ Kd.R k47 47 w' w.heap.size (fun _ => True) v0_ r ∧ Below w.heap.size w w' := by
 have hu47 := Tryz.underlying47
 have HR0 := Aside0.mk hr0
 have HC0 := Aside0.mk hc0
 clear hr0 hc0
 have HB := Aside0.mk (Below.refl w.heap.size w)
 have H : ((reg_May.f k l0).bind fun t134 => (if t134 = true then ((reg_one.f a1_0 a1_1 a1_2 a1_3 a1_4).bind fun t135 => (if t135 = true then ((reg_with.f l0 (([(⟨a1_0, a1_1, a1_2, (⟨a1_3, a1_4⟩ : S30)⟩ : S47)] : List (S47)))).bind fun t139 => (some t139)) else (some ([] : List (S47))))) else (some ([] : List (S47))))) = some r := h
 clear h
 replace H := Option.bind_eq_some_iff.mp H
 obtain ⟨t134, A30, H⟩ := H
 replace H : (if t134 = true then ((reg_one.f a1_0 a1_1 a1_2 a1_3 a1_4).bind fun t135 => (if t135 = true then ((reg_with.f l0 (([(⟨a1_0, a1_1, a1_2, (⟨a1_3, a1_4⟩ : S30)⟩ : S47)] : List (S47)))).bind fun t139 => (some t139)) else (some ([] : List (S47))))) else (some ([] : List (S47)))) = some r := H
 have A3 := Aside0.mk A30
 clear A30
 by_cases c4 : t134 = true
 ·subst c4
  have H1 : ((reg_one.f a1_0 a1_1 a1_2 a1_3 a1_4).bind fun t135 => (if t135 = true then ((reg_with.f l0 (([(⟨a1_0, a1_1, a1_2, (⟨a1_3, a1_4⟩ : S30)⟩ : S47)] : List (S47)))).bind fun t139 => (some t139)) else (some ([] : List (S47))))) = some r := by rw [if_pos rfl] at H; exact H
  clear H
  have H := H1
  clear H1
  replace H := Option.bind_eq_some_iff.mp H
  obtain ⟨t135, A50, H⟩ := H
  replace H : (if t135 = true then ((reg_with.f l0 (([(⟨a1_0, a1_1, a1_2, (⟨a1_3, a1_4⟩ : S30)⟩ : S47)] : List (S47)))).bind fun t139 => (some t139)) else (some ([] : List (S47)))) = some r := H
  have A5 := Aside0.mk A50
  clear A50
  by_cases c6 : t135 = true
  ·subst c6
   have H1 : ((reg_with.f l0 (([(⟨a1_0, a1_1, a1_2, (⟨a1_3, a1_4⟩ : S30)⟩ : S47)] : List (S47)))).bind fun t139 => (some t139)) = some r := by rw [if_pos rfl] at H; exact H
   clear H
   have H := H1
   clear H1
   obtain ⟨y136, hy136⟩ : ∃ y_ : List (S47), y_ = (([(⟨a1_0, a1_1, a1_2, (⟨a1_3, a1_4⟩ : S30)⟩ : S47)] : List (S47))) := ⟨_, rfl⟩
   replace H : ((reg_with.f l0 y136).bind fun t139 => (some t139)) = some r := by first | (rw [hy136]; with_reducible exact H) | (have H2_ := (Option.bind_some _ _).symm.trans H; rw [hy136]; with_reducible exact H2_) | (have H2_ := (Option.bind_some _ _).symm.trans H; with_reducible exact H2_) | with_reducible exact H | (rw [hy136]; exact H) | exact H
   have Ny136 := Aside0.mk hy136
   clear hy136
   replace H := Option.bind_eq_some_iff.mp H
   obtain ⟨t139, A70, H⟩ := H
   replace H : (some t139) = some r := H
   have A7 := Aside0.mk A70
   clear A70
   obtain rfl := Option.some.inj H
   go_enter Tryz.func33, Tryz.ntmps33
   go_wp2_with (first | ((with_reducible refine gate_dst (N := 3) rfl ?_); refine box_event ?hg (N := 3) ?hd (cs := #[.string a1_0, .string a1_1, .int .i64 a1_2, .int .i64 a1_3, .int .i64 a1_4]) (t := 47) ?hr ?_; (case hd => rfl); (case hg => rfl); (case hr => first | (go_simp; done) | (go_simp; rfl)); intro gb133 hg w8 hbox hb; have n0_ := Aside0.mk (below_step (by repeat (first | (with_reducible first | exact HB.out | apply below_alloc | apply pw_below_drewN | apply below_drew1) | exact HB.out)) hb); have n1_ := Aside0.mk (hbox); have n2_ := Aside0.mk ((by rw [hg]; exact (below_size (by repeat (first | (with_reducible first | exact HB.out | apply below_alloc | apply pw_below_drewN | apply below_drew1) | exact HB.out))) : w.heap.size ≤ gb133)); have n3_ := Aside0.mk ((by rw [hg]; exact (below_size (by repeat (first | (with_reducible first | exact HB.out | apply below_alloc | apply pw_below_drewN | apply below_drew1) | exact HB.out))) : w.heap.size ≤ gb133)); clear HB; have HB := n0_; have BK133 := n1_; have GW133 := n2_; have GE133 := n3_; clear n0_ n1_ n2_ n3_; clear hb hbox hg) | ((with_reducible refine gate_callee (f := 51) rfl ?_); refine goesL_ (some 6) rfl rfl Tryz.func51 (by kernel_rfl) rfl #[.slice A0 l0.length c0] rfl (by (try simp only [List.map_toArray, List.map_cons, List.map_nil]); first | done | rfl | (simp only [List.length_drop, List.length_take]; rfl)) ?_; (with_reducible refine (reg_May.calls k _ _ l0 true _ ?side1 ?side2 A3.out).mono ?_); (case side1 => repeat (first | exact (Kd.C_below HR0.out HB.out) | (with_reducible refine Kd.C_alloc ?_ _) | (with_reducible refine Kd.C_drewN ?_ _) | (with_reducible refine Kd.C_drew ?_))); (case side2 => exact HC0.out); rintro e w9 ⟨rfl, hb⟩; refine ⟨_, rfl, ?_⟩; have n0_ := Aside0.mk (blk_below (g := gb133) (o := .cells #[.string a1_0, .string a1_1, .int .i64 a1_2, .int .i64 a1_3, .int .i64 a1_4] 47 (0, 0)) (by (with_reducible repeat (first | refine blk_drewN ?_ _ | refine blk_drew ?_ | refine blk_alloc ?_ _)); exact BK133.out) hb); have n1_ := Aside0.mk (below_step (by repeat (first | (with_reducible first | exact HB.out | apply below_alloc | apply pw_below_drewN | apply below_drew1 | refine below_set ?_ GE133.out) | exact HB.out)) hb); clear BK133; clear HB; have BK133 := n0_; have HB := n1_; clear n0_ n1_; (try clear hb); (try clear hb2); (try clear hk); (try clear hi); have hcz10_0 : w9.cell? ⟨gb133, 0, none⟩ = some (.string a1_0) := (blk_cell BK133.out 0).trans rfl; have hcz10_1 : w9.cell? ⟨gb133, 1, none⟩ = some (.string a1_1) := (blk_cell BK133.out 1).trans rfl; have hcz10_2 : w9.cell? ⟨gb133, 2, none⟩ = some (.int .i64 a1_2) := (blk_cell BK133.out 2).trans rfl; have hcz10_3 : w9.cell? ⟨gb133, 3, none⟩ = some (.int .i64 a1_3) := (blk_cell BK133.out 3).trans rfl; have hcz10_4 : w9.cell? ⟨gb133, 4, none⟩ = some (.int .i64 a1_4) := (blk_cell BK133.out 4).trans rfl; have hfz10_0 := blk_frozen BK133.out 0; have hfz10_1 := blk_frozen BK133.out 1; have hfz10_2 := blk_frozen BK133.out 2; have hfz10_3 := blk_frozen BK133.out 3; have hfz10_4 := blk_frozen BK133.out 4) | (go_at_call 82; (with_reducible refine (reg_one.calls a1_0 a1_1 a1_2 a1_3 a1_4 true _ A5.out).mono ?_); rintro e w11 ⟨rfl, hb⟩; have n0_ := Aside0.mk (blk_below (g := gb133) (o := .cells #[.string a1_0, .string a1_1, .int .i64 a1_2, .int .i64 a1_3, .int .i64 a1_4] 47 (0, 0)) (by (with_reducible repeat (first | refine blk_drewN ?_ _ | refine blk_drew ?_ | refine blk_alloc ?_ _)); exact BK133.out) hb); have n1_ := Aside0.mk (below_step (by repeat (first | (with_reducible first | exact HB.out | apply below_alloc | apply pw_below_drewN | apply below_drew1 | refine below_set ?_ GE133.out) | exact HB.out)) hb); clear BK133; clear HB; have BK133 := n0_; have HB := n1_; clear n0_ n1_; (try clear hb); (try clear hb2); (try clear hk); (try clear hi); have hcz12_0 : w11.cell? ⟨gb133, 0, none⟩ = some (.string a1_0) := (blk_cell BK133.out 0).trans rfl; have hcz12_1 : w11.cell? ⟨gb133, 1, none⟩ = some (.string a1_1) := (blk_cell BK133.out 1).trans rfl; have hcz12_2 : w11.cell? ⟨gb133, 2, none⟩ = some (.int .i64 a1_2) := (blk_cell BK133.out 2).trans rfl; have hcz12_3 : w11.cell? ⟨gb133, 3, none⟩ = some (.int .i64 a1_3) := (blk_cell BK133.out 3).trans rfl; have hcz12_4 : w11.cell? ⟨gb133, 4, none⟩ = some (.int .i64 a1_4) := (blk_cell BK133.out 4).trans rfl; have hfz12_0 := blk_frozen BK133.out 0; have hfz12_1 := blk_frozen BK133.out 1; have hfz12_2 := blk_frozen BK133.out 2; have hfz12_3 := blk_frozen BK133.out 3; have hfz12_4 := blk_frozen BK133.out 4) | ((with_reducible refine gate_dst (N := 15) rfl ?_); refine Kd.R_lit k47 _ 47 ?hg (N := 15) ?hd (xs := ([(⟨a1_0, a1_1, a1_2, (⟨a1_3, a1_4⟩ : S30)⟩ : S47)] : List (S47))) (inner := [.string a1_0, .string a1_1, .int .i64 a1_2, .int .i64 a1_3, .int .i64 a1_4]) (ok := fun _ => True) (okp := fun _ => True) ?hr ?hp (fun _ hk => hk) trivial (Below.refl _ _) (Nat.le_refl _) (by simp) ?_; (case hd => rfl); (case hg => rfl); (case hr => first | (go_simp; done) | (go_simp; rfl)); (case hp => exact (Reps.c5 (show Kd.M k47 _ _ _ (⟨a1_0, a1_1, a1_2, (⟨a1_3, a1_4⟩ : S30)⟩ : S47) [.string a1_0, .string a1_1, .int .i64 a1_2, .int .i64 a1_3, .int .i64 a1_4] from (k47_mkM _ _ _ (⟨a1_0, a1_1, a1_2, (⟨a1_3, a1_4⟩ : S30)⟩ : S47) )) (Reps.none _ _))); intro v137 w13 ho14 hb hg_ hnew_; clear hg_ hnew_; (first | rw [← Ny136.out] at ho14 | (simp only [Int.reduceToNat] at ho14; rw [← Ny136.out] at ho14)); have n0_ := Aside0.mk (Kd.R_lower (Kd.R_newB ho14 (g := gb133) (o := .cells #[.string a1_0, .string a1_1, .int .i64 a1_2, .int .i64 a1_3, .int .i64 a1_4] 47 (0, 0)) (by (with_reducible repeat (first | refine blk_drewN ?_ _ | refine blk_drew ?_ | refine blk_alloc ?_ _)); exact BK133.out)) (below_size (by repeat (first | (with_reducible first | exact HB.out | apply below_alloc | apply pw_below_drewN | apply below_drew1 | refine below_set ?_ GE133.out) | exact HB.out)))); have n1_ := Aside0.mk (blk_below (g := gb133) (o := .cells #[.string a1_0, .string a1_1, .int .i64 a1_2, .int .i64 a1_3, .int .i64 a1_4] 47 (0, 0)) (by (with_reducible repeat (first | refine blk_drewN ?_ _ | refine blk_drew ?_ | refine blk_alloc ?_ _)); exact BK133.out) hb); have n2_ := Aside0.mk (below_step (by repeat (first | (with_reducible first | exact HB.out | apply below_alloc | apply pw_below_drewN | apply below_drew1 | refine below_set ?_ GE133.out) | exact HB.out)) hb); clear BK133; clear HB; have HO138 := n0_; have BK133 := n1_; have HB := n2_; clear n0_ n1_ n2_; clear hb ho14; obtain ⟨Ao15, co15, eo15⟩ := Kd.R_slice HO138.out; subst eo15) | ((with_reducible refine gate_callee (f := 83) rfl ?_); refine goesL_ (some 16) rfl rfl Tryz.func83 (by kernel_rfl) rfl #[.slice A0 l0.length c0, .slice Ao15 y136.length co15] rfl (by (try simp only [List.map_toArray, List.map_cons, List.map_nil]); first | done | rfl | (simp only [List.length_drop, List.length_take]; rfl)) ?_; (with_reducible refine (reg_with.calls _ _ l0 _ _ y136 t139 _ ?side1 ?side2 ?side3 ?side4 A7.out).mono ?_); (case side1 => repeat (first | exact (Kd.C_below HR0.out HB.out) | (with_reducible refine Kd.C_alloc ?_ _) | (with_reducible refine Kd.C_drewN ?_ _) | (with_reducible refine Kd.C_drew ?_))); (case side2 => exact HC0.out); (case side3 => repeat (first | exact (Kd.R_reads' HO138.out).2.2 | (with_reducible refine Kd.C_alloc ?_ _) | (with_reducible refine Kd.C_drewN ?_ _) | (with_reducible refine Kd.C_drew ?_))); (case side4 => exact (Kd.R_reads' HO138.out).2.1); rintro e w16 ⟨v140, rfl, ho0, hb⟩; refine ⟨_, rfl, ?_⟩; have n0_ := Aside0.mk (Kd.R_elder' (by (with_reducible repeat (first | apply Kd.R_alloc | apply Kd.R_drewN | apply Kd.R_drew)); exact HO138.out) (Kd.R_base ho0) hb); have n1_ := Aside0.mk (Kd.R_lower (Kd.R_newB (Kd.R_new' ho0 (Kd.R_lt (by (with_reducible repeat (first | apply Kd.R_alloc | apply Kd.R_drewN | apply Kd.R_drew)); exact HO138.out))) (g := gb133) (o := .cells #[.string a1_0, .string a1_1, .int .i64 a1_2, .int .i64 a1_3, .int .i64 a1_4] 47 (0, 0)) (by (with_reducible repeat (first | refine blk_drewN ?_ _ | refine blk_drew ?_ | refine blk_alloc ?_ _)); exact BK133.out)) (below_size (by repeat (first | (with_reducible first | exact HB.out | apply below_alloc | apply pw_below_drewN | apply below_drew1 | refine below_set ?_ GE133.out) | exact HB.out)))); have n2_ := Aside0.mk (blk_below (g := gb133) (o := .cells #[.string a1_0, .string a1_1, .int .i64 a1_2, .int .i64 a1_3, .int .i64 a1_4] 47 (0, 0)) (by (with_reducible repeat (first | refine blk_drewN ?_ _ | refine blk_drew ?_ | refine blk_alloc ?_ _)); exact BK133.out) hb); have n3_ := Aside0.mk (below_step (by repeat (first | (with_reducible first | exact HB.out | apply below_alloc | apply pw_below_drewN | apply below_drew1 | refine below_set ?_ GE133.out) | exact HB.out)) hb); clear HO138; clear BK133; clear HB; have HO138 := n0_; have HO141 := n1_; have BK133 := n2_; have HB := n3_; clear n0_ n1_ n2_ n3_; (try clear hb); (try clear hb2); (try clear hk); (try clear hi); (try clear ho0)))
   go_ret
   exact ⟨_, by first | rfl | (simp [errW_none, errW_some] <;> rfl) | (simp [*, errW_none, errW_some] <;> rfl), by (with_reducible repeat (first | apply Kd.R_alloc | apply Kd.R_drewN | apply Kd.R_drew)); exact Kd.R_mono HO141.out (fun _ hk => trivial), by repeat (first | (with_reducible first | exact HB.out | apply below_alloc | apply pw_below_drewN | apply below_drew1 | refine below_set ?_ GE133.out) | exact HB.out)⟩
  ·replace c6 := Bool.eq_false_iff.mpr c6
   subst c6
   have H1 : (some ([] : List (S47))) = some r := by rw [if_neg (show ¬ (false = true) by decide)] at H; exact H
   clear H
   have H := H1
   clear H1
   obtain rfl := Option.some.inj H
   go_enter Tryz.func33, Tryz.ntmps33
   go_wp2_with (first | ((with_reducible refine gate_dst (N := 3) rfl ?_); refine box_event ?hg (N := 3) ?hd (cs := #[.string a1_0, .string a1_1, .int .i64 a1_2, .int .i64 a1_3, .int .i64 a1_4]) (t := 47) ?hr ?_; (case hd => rfl); (case hg => rfl); (case hr => first | (go_simp; done) | (go_simp; rfl)); intro gb133 hg w17 hbox hb; have n0_ := Aside0.mk (below_step (by repeat (first | (with_reducible first | exact HB.out | apply below_alloc | apply pw_below_drewN | apply below_drew1) | exact HB.out)) hb); have n1_ := Aside0.mk (hbox); have n2_ := Aside0.mk ((by rw [hg]; exact (below_size (by repeat (first | (with_reducible first | exact HB.out | apply below_alloc | apply pw_below_drewN | apply below_drew1) | exact HB.out))) : w.heap.size ≤ gb133)); have n3_ := Aside0.mk ((by rw [hg]; exact (below_size (by repeat (first | (with_reducible first | exact HB.out | apply below_alloc | apply pw_below_drewN | apply below_drew1) | exact HB.out))) : w.heap.size ≤ gb133)); clear HB; have HB := n0_; have BK133 := n1_; have GW133 := n2_; have GE133 := n3_; clear n0_ n1_ n2_ n3_; clear hb hbox hg) | ((with_reducible refine gate_callee (f := 51) rfl ?_); refine goesL_ (some 6) rfl rfl Tryz.func51 (by kernel_rfl) rfl #[.slice A0 l0.length c0] rfl (by (try simp only [List.map_toArray, List.map_cons, List.map_nil]); first | done | rfl | (simp only [List.length_drop, List.length_take]; rfl)) ?_; (with_reducible refine (reg_May.calls k _ _ l0 true _ ?side1 ?side2 A3.out).mono ?_); (case side1 => repeat (first | exact (Kd.C_below HR0.out HB.out) | (with_reducible refine Kd.C_alloc ?_ _) | (with_reducible refine Kd.C_drewN ?_ _) | (with_reducible refine Kd.C_drew ?_))); (case side2 => exact HC0.out); rintro e w18 ⟨rfl, hb⟩; refine ⟨_, rfl, ?_⟩; have n0_ := Aside0.mk (blk_below (g := gb133) (o := .cells #[.string a1_0, .string a1_1, .int .i64 a1_2, .int .i64 a1_3, .int .i64 a1_4] 47 (0, 0)) (by (with_reducible repeat (first | refine blk_drewN ?_ _ | refine blk_drew ?_ | refine blk_alloc ?_ _)); exact BK133.out) hb); have n1_ := Aside0.mk (below_step (by repeat (first | (with_reducible first | exact HB.out | apply below_alloc | apply pw_below_drewN | apply below_drew1 | refine below_set ?_ GE133.out) | exact HB.out)) hb); clear BK133; clear HB; have BK133 := n0_; have HB := n1_; clear n0_ n1_; (try clear hb); (try clear hb2); (try clear hk); (try clear hi); have hcz19_0 : w18.cell? ⟨gb133, 0, none⟩ = some (.string a1_0) := (blk_cell BK133.out 0).trans rfl; have hcz19_1 : w18.cell? ⟨gb133, 1, none⟩ = some (.string a1_1) := (blk_cell BK133.out 1).trans rfl; have hcz19_2 : w18.cell? ⟨gb133, 2, none⟩ = some (.int .i64 a1_2) := (blk_cell BK133.out 2).trans rfl; have hcz19_3 : w18.cell? ⟨gb133, 3, none⟩ = some (.int .i64 a1_3) := (blk_cell BK133.out 3).trans rfl; have hcz19_4 : w18.cell? ⟨gb133, 4, none⟩ = some (.int .i64 a1_4) := (blk_cell BK133.out 4).trans rfl; have hfz19_0 := blk_frozen BK133.out 0; have hfz19_1 := blk_frozen BK133.out 1; have hfz19_2 := blk_frozen BK133.out 2; have hfz19_3 := blk_frozen BK133.out 3; have hfz19_4 := blk_frozen BK133.out 4) | (go_at_call 82; (with_reducible refine (reg_one.calls a1_0 a1_1 a1_2 a1_3 a1_4 false _ A5.out).mono ?_); rintro e w20 ⟨rfl, hb⟩; have n0_ := Aside0.mk (blk_below (g := gb133) (o := .cells #[.string a1_0, .string a1_1, .int .i64 a1_2, .int .i64 a1_3, .int .i64 a1_4] 47 (0, 0)) (by (with_reducible repeat (first | refine blk_drewN ?_ _ | refine blk_drew ?_ | refine blk_alloc ?_ _)); exact BK133.out) hb); have n1_ := Aside0.mk (below_step (by repeat (first | (with_reducible first | exact HB.out | apply below_alloc | apply pw_below_drewN | apply below_drew1 | refine below_set ?_ GE133.out) | exact HB.out)) hb); clear BK133; clear HB; have BK133 := n0_; have HB := n1_; clear n0_ n1_; (try clear hb); (try clear hb2); (try clear hk); (try clear hi)))
   go_ret
   exact ⟨_, by first | rfl | (simp [errW_none, errW_some] <;> rfl) | (simp [*, errW_none, errW_some] <;> rfl), by first | exact Kd.R_nil _ _ _ _ _ | exact Kd.N_nil _ _ _ _ _ | exact Kd.V_nil _ _ _ _ _ | exact Kd.Q_nil _ _ _ _ _ | exact Kd.S_nil _ _ _ _ _, by repeat (first | (with_reducible first | exact HB.out | apply below_alloc | apply pw_below_drewN | apply below_drew1 | refine below_set ?_ GE133.out) | exact HB.out)⟩
 ·replace c4 := Bool.eq_false_iff.mpr c4
  subst c4
  have H1 : (some ([] : List (S47))) = some r := by rw [if_neg (show ¬ (false = true) by decide)] at H; exact H
  clear H
  have H := H1
  clear H1
  obtain rfl := Option.some.inj H
  go_enter Tryz.func33, Tryz.ntmps33
  go_wp2_with (first | ((with_reducible refine gate_dst (N := 3) rfl ?_); refine box_event ?hg (N := 3) ?hd (cs := #[.string a1_0, .string a1_1, .int .i64 a1_2, .int .i64 a1_3, .int .i64 a1_4]) (t := 47) ?hr ?_; (case hd => rfl); (case hg => rfl); (case hr => first | (go_simp; done) | (go_simp; rfl)); intro gb133 hg w21 hbox hb; have n0_ := Aside0.mk (below_step (by repeat (first | (with_reducible first | exact HB.out | apply below_alloc | apply pw_below_drewN | apply below_drew1) | exact HB.out)) hb); have n1_ := Aside0.mk (hbox); have n2_ := Aside0.mk ((by rw [hg]; exact (below_size (by repeat (first | (with_reducible first | exact HB.out | apply below_alloc | apply pw_below_drewN | apply below_drew1) | exact HB.out))) : w.heap.size ≤ gb133)); have n3_ := Aside0.mk ((by rw [hg]; exact (below_size (by repeat (first | (with_reducible first | exact HB.out | apply below_alloc | apply pw_below_drewN | apply below_drew1) | exact HB.out))) : w.heap.size ≤ gb133)); clear HB; have HB := n0_; have BK133 := n1_; have GW133 := n2_; have GE133 := n3_; clear n0_ n1_ n2_ n3_; clear hb hbox hg) | ((with_reducible refine gate_callee (f := 51) rfl ?_); refine goesL_ (some 6) rfl rfl Tryz.func51 (by kernel_rfl) rfl #[.slice A0 l0.length c0] rfl (by (try simp only [List.map_toArray, List.map_cons, List.map_nil]); first | done | rfl | (simp only [List.length_drop, List.length_take]; rfl)) ?_; (with_reducible refine (reg_May.calls k _ _ l0 false _ ?side1 ?side2 A3.out).mono ?_); (case side1 => repeat (first | exact (Kd.C_below HR0.out HB.out) | (with_reducible refine Kd.C_alloc ?_ _) | (with_reducible refine Kd.C_drewN ?_ _) | (with_reducible refine Kd.C_drew ?_))); (case side2 => exact HC0.out); rintro e w22 ⟨rfl, hb⟩; refine ⟨_, rfl, ?_⟩; have n0_ := Aside0.mk (blk_below (g := gb133) (o := .cells #[.string a1_0, .string a1_1, .int .i64 a1_2, .int .i64 a1_3, .int .i64 a1_4] 47 (0, 0)) (by (with_reducible repeat (first | refine blk_drewN ?_ _ | refine blk_drew ?_ | refine blk_alloc ?_ _)); exact BK133.out) hb); have n1_ := Aside0.mk (below_step (by repeat (first | (with_reducible first | exact HB.out | apply below_alloc | apply pw_below_drewN | apply below_drew1 | refine below_set ?_ GE133.out) | exact HB.out)) hb); clear BK133; clear HB; have BK133 := n0_; have HB := n1_; clear n0_ n1_; (try clear hb); (try clear hb2); (try clear hk); (try clear hi)))
  go_ret
  exact ⟨_, by first | rfl | (simp [errW_none, errW_some] <;> rfl) | (simp [*, errW_none, errW_some] <;> rfl), by first | exact Kd.R_nil _ _ _ _ _ | exact Kd.N_nil _ _ _ _ _ | exact Kd.V_nil _ _ _ _ _ | exact Kd.Q_nil _ _ _ _ _ | exact Kd.S_nil _ _ _ _ _, by repeat (first | (with_reducible first | exact HB.out | apply below_alloc | apply pw_below_drewN | apply below_drew1 | refine below_set ?_ GE133.out) | exact HB.out)⟩

end Go.Proofs.YtmcddoolniaehaaGreat.S
end
section
namespace Go.Proofs.YtmcddoolniaehaaGreat.S
open Go.RowKit Go.Proofs.YtmcddoolniaehaaGreatW.PrintWords Go.Proofs.YtmcddoolniaehaaGreatW.PrintLast Go.Proofs.YtmcddoolniaehaaGreatW.PrintMore Go.Proofs.YtmcddoolniaehaaGreatW
set_option linter.unusedVariables false
set_option linter.unusedSimpArgs false
theorem R_far {α : Type} {d : Kd α} {e base : Nat} {ok : Nat → Prop} {W W1 : World} {v : Value} {xs : List α} (h : d.R e W base ok v xs) {b t : Nat} {cs : Array Value} (hb : W.heap[b]? = some (.cells cs t (0, 0))) (hne : ∀ q, q ∈ e :: d.E → q ≠ t) (hW : ∀ k, k ≠ b → W1.heap[k]? = W.heap[k]?) : d.R e W1 base ok v xs :=
  Kd.R_mono (Kd.R_move (Kd.R_bound h) (fun k hk => hW k (fun e => by
    subst e
    obtain ⟨_, _, _, q, hq, cells, hc⟩ := hk
    rw [hb] at hc
    cases hc
    exact hne _ hq rfl))) (fun k hk => hk.1)
theorem neC : ∀ q, q ∈ 73 :: (k73).E → q ≠ 26 := by simp [show (k73).E = [] from rfl]
theorem neR : ∀ q, q ∈ 47 :: (k47).E → q ≠ 26 := by simp [show (k47).E = [] from rfl]
theorem neP : ∀ q, q ∈ 43 :: (k43).E → q ≠ 26 := by simp [show (k43).E = [] from rfl]
set_option maxHeartbeats 2000000 in
set_option maxRecDepth 100000 in
theorem do1_calls (K tb ob gb eb : Nat) (A : Option Addr) (c : Nat) (l r : List S73) (v1 v2 : Value) (kind : Int) (key elem : ByteArray) (n gen node seq : Int) (w : World) (hT : w.heap[tb]? = some (.cells #[.slice A l.length c, v1, v2] 26 (0, 0))) (hO : w.heap[ob]? = some (.cells #[.int .i64 kind, .string key, .string elem, .int .i64 n] 28 (0, 0))) (hC : Kd.C k73 w A l.length l) (hc : l.length ≤ c) (h : ctr_Inc.f l key n = some r) :
    Calls Tryz.prog 30 #[.pointer (some ⟨tb, 0, none⟩), .pointer (some ⟨ob, 0, none⟩)] w fun e w' => e = .returned (.tuple #[]) ∧ ∃ v0 W1, Kd.R k73 73 W1 w.heap.size (fun _ => True) v0 r ∧ Below w.heap.size w W1 ∧ w' = W1.setCell ⟨tb, 0, none⟩ v0 := by
  have t0 : w.cell? ⟨tb, 0, none⟩ = _ := blk_cell hT 0
  have o1 : w.cell? ⟨ob, 1, none⟩ = _ := blk_cell hO 1
  have o3 : w.cell? ⟨ob, 3, none⟩ = _ := blk_cell hO 3
  simp only [List.getElem?_toArray, List.getElem?_cons_zero, List.getElem?_cons_succ] at t0 o1 o3
  have HT := Aside0.mk hT
  have HF := Aside0.mk (ctr_Inc.calls A c l key n r w hC hc h)
  clear hC hT hO h
  go_enter Tryz.func30, Tryz.ntmps30
  go_wp2_with fail
  refine HF.out.mono ?_
  rintro e w1 ⟨v0, rfl, hr, hb⟩
  obtain ⟨A', c', rfl, hc', _⟩ := Kd.R_reads hr
  have hT1 := blk_below HT.out hb
  have s1 := blk_cell hT1 0
  have f1 := blk_frozen hT1 0
  simp only [List.getElem?_toArray, List.getElem?_cons_zero, List.getElem?_cons_succ] at s1
  have HR := Aside0.mk hr
  have HB := Aside0.mk hb
  clear hr hb hT1 HT HF t0 o1 o3
  go_wp2
  go_end0
  exact ⟨rfl, _, w1, HR.out, HB.out, rfl⟩
set_option maxHeartbeats 2000000 in
set_option maxRecDepth 100000 in
theorem do2_calls (K tb ob gb eb : Nat) (A : Option Addr) (c : Nat) (l r : List S47) (v1 v2 : Value) (kind : Int) (key elem : ByteArray) (n gen node seq : Int) (w : World) (hT : w.heap[tb]? = some (.cells #[v1, .slice A l.length c, v2] 26 (0, 0))) (hO : w.heap[ob]? = some (.cells #[.int .i64 kind, .string key, .string elem, .int .i64 n] 28 (0, 0))) (hE : w.heap[eb]? = some (.cells #[.int .i64 node, .int .i64 seq] 30 (0, 0))) (hG : w.heap[gb]? = some (.cells #[.int .i64 gen] 3 (0, 0))) (hC : Kd.C k47 w A l.length l) (hc : l.length ≤ c) (h : reg_Put.f K l key elem gen node seq = some r) :
    Calls Tryz.prog 32 #[.pointer (some ⟨tb, 0, none⟩), .pointer (some ⟨ob, 0, none⟩), .pointer (some ⟨gb, 0, none⟩), .pointer (some ⟨eb, 0, none⟩)] w fun e w' => e = .returned (.tuple #[]) ∧ ∃ v0 W1, Kd.R k47 47 W1 w.heap.size (fun _ => True) v0 r ∧ Below w.heap.size w W1 ∧ w' = W1.setCell ⟨tb, 1, none⟩ v0 := by
  have t1 : w.cell? ⟨tb, 1, none⟩ = _ := blk_cell hT 1
  have o1 : w.cell? ⟨ob, 1, none⟩ = _ := blk_cell hO 1
  have o2 : w.cell? ⟨ob, 2, none⟩ = _ := blk_cell hO 2
  have e0 : w.cell? ⟨eb, 0, none⟩ = _ := blk_cell hE 0
  have e1 : w.cell? ⟨eb, 1, none⟩ = _ := blk_cell hE 1
  have g0 : w.cell? ⟨gb, 0, none⟩ = _ := blk_cell hG 0
  simp only [List.getElem?_toArray, List.getElem?_cons_zero, List.getElem?_cons_succ] at t1 o1 o2 e0 e1 g0
  have HT := Aside0.mk hT
  have HF := Aside0.mk (reg_Put.calls K A c l key elem gen node seq r w hC hc h)
  clear hC hT hO h hE hG
  go_enter Tryz.func32, Tryz.ntmps32
  go_wp2_with fail
  refine HF.out.mono ?_
  rintro e w1 ⟨v0, rfl, hr, hb⟩
  obtain ⟨A', c', rfl, hc', _⟩ := Kd.R_reads hr
  have hT1 := blk_below HT.out hb
  have s1 := blk_cell hT1 1
  have f1 := blk_frozen hT1 1
  simp only [List.getElem?_toArray, List.getElem?_cons_zero, List.getElem?_cons_succ] at s1
  have HR := Aside0.mk hr
  have HB := Aside0.mk hb
  clear hr hb hT1 HT HF t1 o1 o2 e0 e1 g0
  go_wp2
  go_end0
  exact ⟨rfl, _, w1, HR.out, HB.out, rfl⟩
set_option maxHeartbeats 2000000 in
set_option maxRecDepth 100000 in
theorem do3_calls (K tb ob gb eb : Nat) (A : Option Addr) (c : Nat) (l r : List S43) (v1 v2 : Value) (kind : Int) (key elem : ByteArray) (n gen node seq : Int) (w : World) (hT : w.heap[tb]? = some (.cells #[v1, v2, .slice A l.length c] 26 (0, 0))) (hO : w.heap[ob]? = some (.cells #[.int .i64 kind, .string key, .string elem, .int .i64 n] 28 (0, 0))) (hE : w.heap[eb]? = some (.cells #[.int .i64 node, .int .i64 seq] 30 (0, 0))) (hC : Kd.C k43 w A l.length l) (hc : l.length ≤ c) (h : pair_Add.f l key elem node seq = some r) :
    Calls Tryz.prog 34 #[.pointer (some ⟨tb, 0, none⟩), .pointer (some ⟨ob, 0, none⟩), .pointer (some ⟨eb, 0, none⟩)] w fun e w' => e = .returned (.tuple #[]) ∧ ∃ v0 W1, Kd.R k43 43 W1 w.heap.size (fun _ => True) v0 r ∧ Below w.heap.size w W1 ∧ w' = W1.setCell ⟨tb, 2, none⟩ v0 := by
  have t2 : w.cell? ⟨tb, 2, none⟩ = _ := blk_cell hT 2
  have o1 : w.cell? ⟨ob, 1, none⟩ = _ := blk_cell hO 1
  have o2 : w.cell? ⟨ob, 2, none⟩ = _ := blk_cell hO 2
  have e0 : w.cell? ⟨eb, 0, none⟩ = _ := blk_cell hE 0
  have e1 : w.cell? ⟨eb, 1, none⟩ = _ := blk_cell hE 1
  simp only [List.getElem?_toArray, List.getElem?_cons_zero, List.getElem?_cons_succ] at t2 o1 o2 e0 e1
  have HT := Aside0.mk hT
  have HF := Aside0.mk (pair_Add.calls A c l key elem node seq r w hC hc h)
  clear hC hT hO h hE
  go_enter Tryz.func34, Tryz.ntmps34
  go_wp2_with fail
  refine HF.out.mono ?_
  rintro e w1 ⟨v0, rfl, hr, hb⟩
  obtain ⟨A', c', rfl, hc', _⟩ := Kd.R_reads hr
  have hT1 := blk_below HT.out hb
  have s1 := blk_cell hT1 2
  have f1 := blk_frozen hT1 2
  simp only [List.getElem?_toArray, List.getElem?_cons_zero, List.getElem?_cons_succ] at s1
  have HR := Aside0.mk hr
  have HB := Aside0.mk hb
  clear hr hb hT1 HT HF t2 o1 o2 e0 e1
  go_wp2
  go_end0
  exact ⟨rfl, _, w1, HR.out, HB.out, rfl⟩
set_option maxHeartbeats 2000000 in
set_option maxRecDepth 100000 in
theorem do4_calls (K tb ob gb eb : Nat) (A : Option Addr) (c : Nat) (l r : List S43) (v1 v2 : Value) (kind : Int) (key elem : ByteArray) (n gen node seq : Int) (w : World) (hT : w.heap[tb]? = some (.cells #[v1, v2, .slice A l.length c] 26 (0, 0))) (hO : w.heap[ob]? = some (.cells #[.int .i64 kind, .string key, .string elem, .int .i64 n] 28 (0, 0))) (hC : Kd.C k43 w A l.length l) (hc : l.length ≤ c) (h : pair_Del.f l key elem = some r) :
    Calls Tryz.prog 36 #[.pointer (some ⟨tb, 0, none⟩), .pointer (some ⟨ob, 0, none⟩)] w fun e w' => e = .returned (.tuple #[]) ∧ ∃ v0 W1, Kd.R k43 43 W1 w.heap.size (fun _ => True) v0 r ∧ Below w.heap.size w W1 ∧ w' = W1.setCell ⟨tb, 2, none⟩ v0 := by
  have t2 : w.cell? ⟨tb, 2, none⟩ = _ := blk_cell hT 2
  have o1 : w.cell? ⟨ob, 1, none⟩ = _ := blk_cell hO 1
  have o2 : w.cell? ⟨ob, 2, none⟩ = _ := blk_cell hO 2
  simp only [List.getElem?_toArray, List.getElem?_cons_zero, List.getElem?_cons_succ] at t2 o1 o2
  have HT := Aside0.mk hT
  have HF := Aside0.mk (pair_Del.calls A c l key elem r w hC hc h)
  clear hC hT hO h
  go_enter Tryz.func36, Tryz.ntmps36
  go_wp2_with fail
  refine HF.out.mono ?_
  rintro e w1 ⟨v0, rfl, hr, hb⟩
  obtain ⟨A', c', rfl, hc', _⟩ := Kd.R_reads hr
  have hT1 := blk_below HT.out hb
  have s1 := blk_cell hT1 2
  have f1 := blk_frozen hT1 2
  simp only [List.getElem?_toArray, List.getElem?_cons_zero, List.getElem?_cons_succ] at s1
  have HR := Aside0.mk hr
  have HB := Aside0.mk hb
  clear hr hb hT1 HT HF t2 o1 o2
  go_wp2
  go_end0
  exact ⟨rfl, _, w1, HR.out, HB.out, rfl⟩
end Go.Proofs.YtmcddoolniaehaaGreat.S
end
section
namespace Go.Proofs.YtmcddoolniaehaaGreat.S
open Go.RowKit Go.Proofs.YtmcddoolniaehaaGreatW.PrintWords Go.Proofs.YtmcddoolniaehaaGreatW.PrintLast Go.Proofs.YtmcddoolniaehaaGreatW
set_option linter.unusedVariables false
variable {P : Program}
theorem run_insert_int (w : World) (mty kt et : TypeId) (q : IntKind) (r clock : Nat) (es : Array MapEntry) (n : Int) (val : Value) (hm : P.underlying mty = some (.map kt et)) (hk : P.underlying kt = some (.int q)) (hb : w.heap[r]? = some (.map es clock))
    (hf : Instr.findNow (.int q) (.int q n) es.toList 0 = some none) :
    (Instr.mapUpdate mty (.map (some r)) (.int q n) val).run P w = .ok () { w with heap := w.heap.setIfInBounds r (.map (es.push { key := .int q n, val := val, born := clock }) (clock + 1)) } := by
  have hc : (Instr.checkKey false 10000 kt (.int q n)).run P w = .ok () w := MapKept.run_checkKey (k := .int q n) hk (by simp [MapKept.IsKey]) false 9999
  simp [Instr.mapUpdate, run_underlying hm, MapKept.run_getObj_map hb, hc, MapKept.run_findKey hk hf, MapKept.run_setObj_map _ hb, Result.andThen]
theorem run_lookup_int (w : World) (mty kt et : TypeId) (q : IntKind) (r clock : Nat) (es : Array MapEntry) (n : Int) (i : Nat) (val : Value) (hm : P.underlying mty = some (.map kt et)) (hk : P.underlying kt = some (.int q)) (hb : w.heap[r]? = some (.map es clock))
    (hf : Instr.findNow (.int q) (.int q n) es.toList 0 = some (some (i, val))) :
    (Instr.lookup mty (.map (some r)) (.int q n) true).run P w = .ok (.tuple #[val, .bool true]) w := by
  have hc : (Instr.checkKey es.isEmpty 10000 kt (.int q n)).run P w = .ok () w := MapKept.run_checkKey (k := .int q n) hk (by simp [MapKept.IsKey]) _ 9999
  simp [Instr.lookup, run_underlying hm, MapKept.run_getObj_map hb, hc, MapKept.run_findKey hk hf, Result.andThen]
theorem run_lookup_int_none (w : World) (mty kt et : TypeId) (q : IntKind) (r clock : Nat) (es : Array MapEntry) (n : Int) (z : Value) (hm : P.underlying mty = some (.map kt et)) (hk : P.underlying kt = some (.int q)) (hb : w.heap[r]? = some (.map es clock))
    (hz : (zeroValue et).run P w = .ok z w) (hf : Instr.findNow (.int q) (.int q n) es.toList 0 = some none) :
    (Instr.lookup mty (.map (some r)) (.int q n) true).run P w = .ok (.tuple #[z, .bool false]) w := by
  have hc : (Instr.checkKey es.isEmpty 10000 kt (.int q n)).run P w = .ok () w := MapKept.run_checkKey (k := .int q n) hk (by simp [MapKept.IsKey]) _ 9999
  simp [Instr.lookup, run_underlying hm, MapKept.run_getObj_map hb, hc, MapKept.run_findKey hk hf, hz, Result.andThen]
section
variable {ops : Array Oper} {rest : List Oper} {o : Oper} {a : Act} {w : World} {Q : Exit → Act → World → Prop}
theorem wpl_makeMap (t : TypeId) (hgd : o.guard = none) (ho : o.op = .makeMap t none) (h : ∀ W1 : World, W1.heap[w.heap.size]? = some (.map #[] 0) → Below w.heap.size w W1 → wpList P ops Q rest (a.put o.dst (.map (some w.heap.size))) W1) : wpList P ops Q (o :: rest) a w := by
  refine wpList_plain hgd fun K' hK' => ?_
  unfold Oper.wp
  simp [execOp, ho, run_makeMap_plain, Result.andThen]
  exact hK' _ _ (h _ (MapKept.heap_alloc w _).1 (below_alloc (Below.refl _ _) _))
theorem wpl_insert (mty kt et : TypeId) (q : IntKind) (r clock : Nat) (es : Array MapEntry) (n : Int) (val : Value) (hm : P.underlying mty = some (.map kt et)) (hk : P.underlying kt = some (.int q)) (hb : w.heap[r]? = some (.map es clock))
    (hf : Instr.findNow (.int q) (.int q n) es.toList 0 = some none) (hgd : o.guard = none) (m x v : Operand) (ho : o.op = .insert mty m x v) (h1 : a.eval m = .map (some r)) (h2 : a.eval x = .int q n) (h3 : a.eval v = val)
    (h : ∀ W1 : World, W1.heap[r]? = some (.map (es.push { key := .int q n, val := val, born := clock }) (clock + 1)) → (∀ k, k ≠ r → W1.heap[k]? = w.heap[k]?) → (∀ w0 : World, w0.heap.size ≤ r → Below w0.heap.size w0 w → Below w0.heap.size w0 W1) → W1.heap.size = w.heap.size → wpList P ops Q rest (a.put o.dst undef) W1) :
    wpList P ops Q (o :: rest) a w := by
  refine wpList_plain hgd fun K' hK' => ?_
  have hrun := run_insert_int w mty kt et q r clock es n val hm hk hb hf
  obtain ⟨e1, e2⟩ := MapKept.heap_set (o' := .map (es.push { key := .int q n, val := val, born := clock }) (clock + 1)) hb
  unfold Oper.wp
  simp [execOp, ho, h1, h2, h3, hrun, Result.andThen]
  refine hK' _ _ (h _ e1 e2 (fun w0 hr hB => ⟨hB.os, hB.tape, hB.output, by simpa using hB.size, fun i hi => ?_⟩) (by simp))
  rw [e2 i (by omega)]
  exact hB.block i hi
theorem wpl_lookup_is (mty kt et : TypeId) (q : IntKind) (r clock : Nat) (es : Array MapEntry) (n : Int) (i : Nat) (val : Value) (hm : P.underlying mty = some (.map kt et)) (hk : P.underlying kt = some (.int q)) (hb : w.heap[r]? = some (.map es clock))
    (hf : Instr.findNow (.int q) (.int q n) es.toList 0 = some (some (i, val))) (hgd : o.guard = none) (m x : Operand) (ho : o.op = .lookup mty m x true) (h1 : a.eval m = .map (some r)) (h2 : a.eval x = .int q n)
    (h : wpList P ops Q rest (a.put o.dst (.tuple #[val, .bool true])) w) : wpList P ops Q (o :: rest) a w := by
  refine wpList_plain hgd fun K' hK' => ?_
  have hrun := run_lookup_int w mty kt et q r clock es n i val hm hk hb hf
  unfold Oper.wp
  simp [execOp, ho, h1, h2, hrun, Result.andThen]
  exact hK' _ _ h
theorem wpl_lookup_not (mty kt et : TypeId) (q : IntKind) (r clock : Nat) (es : Array MapEntry) (n : Int) (z : Value) (hm : P.underlying mty = some (.map kt et)) (hk : P.underlying kt = some (.int q)) (hb : w.heap[r]? = some (.map es clock)) (hz : (zeroValue et).run P w = .ok z w)
    (hf : Instr.findNow (.int q) (.int q n) es.toList 0 = some none) (hgd : o.guard = none) (m x : Operand) (ho : o.op = .lookup mty m x true) (h1 : a.eval m = .map (some r)) (h2 : a.eval x = .int q n)
    (h : wpList P ops Q rest (a.put o.dst (.tuple #[z, .bool false])) w) : wpList P ops Q (o :: rest) a w := by
  refine wpList_plain hgd fun K' hK' => ?_
  have hrun := run_lookup_int_none w mty kt et q r clock es n z hm hk hb hz hf
  unfold Oper.wp
  simp [execOp, ho, h1, h2, hrun, Result.andThen]
  exact hK' _ _ h
end
end Go.Proofs.YtmcddoolniaehaaGreat.S
end
section
namespace Go.Proofs.YtmcddoolniaehaaGreat.S
open Go.RowKit Go.Proofs.YtmcddoolniaehaaGreatW.PrintWords Go.Proofs.YtmcddoolniaehaaGreatW.PrintLast Go.Proofs.YtmcddoolniaehaaGreatW.PrintMore Go.Proofs.YtmcddoolniaehaaGreatW
set_option linter.unusedVariables false
set_option linter.unusedSimpArgs false
theorem range_below {w w1 : World} {b o : Nat} {cs : List Value} (h : w.rangeAt b o cs) (hb : Below w.heap.size w w1) : w1.rangeAt b o cs := fun j v hv => pw_cell_below hb (h j v hv)
theorem range_of_blk {w : World} {g t : Nat} {cs : List Value} (h : w.heap[g]? = some (.cells cs.toArray t (0, 0))) : w.rangeAt g 0 cs := fun j v hv => by
  rw [Nat.zero_add]
  unfold World.cell?
  rw [h]
  simp [hv]
theorem there_of_blk {w : World} {g t : Nat} {cs : List Value} (h : w.heap[g]? = some (.cells cs.toArray t (0, 0))) : w.there g 0 cs.length := fun j hj => by
  rw [Nat.zero_add]
  refine ⟨?_, blk_frozen h j⟩
  unfold World.cell?
  rw [h]
  simp [hj]
theorem below_setCells {w0 : World} {b : Nat} (hb : w0.heap.size ≤ b) : ∀ (vs : List Value) (o : Nat) (V : World), Below w0.heap.size w0 V → Below w0.heap.size w0 (V.setCells b o vs)
  | [], _, _, h => h
  | v :: vs, o, V, h => below_setCells hb vs (o + 1) _ (below_set h hb)
theorem size_setCells {b : Nat} : ∀ (vs : List Value) (o : Nat) (V : World), (V.setCells b o vs).heap.size = V.heap.size
  | [], _, _ => rfl
  | v :: vs, o, V => by
    show ((V.setCell ⟨b, o, none⟩ v).setCells b (o + 1) vs).heap.size = _
    rw [size_setCells vs (o + 1)]
    simp [World.setCell]
theorem heap_setCells_far {b : Nat} : ∀ (vs : List Value) (o : Nat) (V : World) (k : Nat), k ≠ b → (V.setCells b o vs).heap[k]? = V.heap[k]?
  | [], _, _, _, _ => rfl
  | v :: vs, o, V, k, hk => (heap_setCells_far vs (o + 1) (V.setCell ⟨b, o, none⟩ v) k hk).trans (Below.heap_setCell V ⟨b, o, none⟩ v k hk)
theorem setCells_heap : ∀ (vs : List Value) (w : World) (b o : Nat) (cs : Array Value) (t : TypeId), w.heap[b]? = some (.cells cs t (0, 0)) → o + vs.length ≤ cs.size →
    ∃ cs', (w.setCells b o vs).heap[b]? = some (.cells cs' t (0, 0)) ∧ cs'.size = cs.size ∧ (∀ j, j < vs.length → cs'[o + j]? = vs[j]?) ∧ (∀ j, (j < o ∨ o + vs.length ≤ j) → cs'[j]? = cs[j]?)
  | [], w, b, o, cs, t, h, hl => ⟨cs, h, rfl, fun j hj => absurd hj (by simp), fun j _ => rfl⟩
  | v :: vs, w, b, o, cs, t, h, hl => by
    obtain ⟨cs', h1, h2, h3, h4⟩ := setCells_heap vs (w.setCell ⟨b, o, none⟩ v) b (o + 1) (cs.setIfInBounds o v) t (blk_set h o v) (by simp at hl ⊢; omega)
    refine ⟨cs', h1, by simpa using h2, fun j hj => ?_, fun j hj => ?_⟩
    · match j with
      | 0 =>
        rw [Nat.add_zero, h4 o (.inl (by omega))]
        simp at hl
        simp [show o < cs.size by omega]
      | j + 1 =>
        have := h3 j (by simpa using hj)
        rw [show o + (j + 1) = o + 1 + j by omega, this]
        rfl
    · have hl' : (v :: vs).length = vs.length + 1 := rfl
      rw [h4 j (by rcases hj with hj | hj; exact .inl (by omega); exact .inr (by omega))]
      simp only [Array.getElem?_setIfInBounds]
      rw [if_neg (by omega)]
theorem tape_setCells {b : Nat} : ∀ (vs : List Value) (o : Nat) (V : World), (V.setCells b o vs).tape = V.tape
  | [], _, _ => rfl
  | v :: vs, o, V => (tape_setCells vs (o + 1) (V.setCell ⟨b, o, none⟩ v)).trans rfl
section
variable {ops : Array Oper} {rest : List Oper} {op : Oper} {a : Act} {w : World} {Q : Exit → Act → World → Prop}
theorem wpl_store_newA (t : TypeId) (w0 : World) (Z : Array Value) (cs : List Value) (h1 : ∀ u ∈ cs, u.oneCell' = true) (hi : (Tryz.prog.info? t).map (·.size) = some cs.length) (hw : w = w0.alloc (.cells Z t)) (hZ : Z.size = cs.length) (hgd : op.guard = none) (x y : Operand) (ho : op.op = .store t x y)
    (hx : a.eval x = .pointer (some ⟨w0.heap.size, 0, none⟩)) (hy : a.eval y = .agg cs.toArray)
    (h : ∀ W1 : World, W1.heap[w0.heap.size]? = some (.cells cs.toArray t (0, 0)) → Below w0.heap.size w0 W1 → W1.heap.size = w0.heap.size + 1 → wpList Tryz.prog ops Q rest (a.put op.dst undef) W1) : wpList Tryz.prog ops Q (op :: rest) a w := by
  subst hw
  have hb := blk_new w0 (.cells Z t)
  refine wpList_store_mid hgd t x y ho w0.heap.size 0 cs.toArray hx hy (fun j hj => ?_) (by rw [List.size_toArray]; exact hi) (all_oneCell_toArray h1) ?_
  · rw [List.size_toArray] at hj
    rw [Nat.zero_add]
    refine ⟨?_, blk_frozen hb j⟩
    rw [blk_cell hb j]
    simp [hZ, hj]
  · obtain ⟨cs', h2, h3, h4, _⟩ := setCells_heap cs _ w0.heap.size 0 Z _ hb (by rw [hZ]; omega)
    have he : cs' = cs.toArray := by
      apply Array.ext_getElem?
      intro j
      by_cases hj : j < cs.length
      · have := h4 j hj
        rw [Nat.zero_add] at this
        rw [this]
        simp
      · rw [Array.getElem?_eq_none (by omega), Array.getElem?_eq_none (by simp; omega)]
    subst he
    exact h _ h2 (below_setCells (Nat.le_refl _) _ _ _ (below_alloc (Below.refl _ _) _)) (by rw [size_setCells]; simp)
theorem wpl_store_blkA (t : TypeId) (b : Nat) (Z : Array Value) (cs : List Value) (h1 : ∀ u ∈ cs, u.oneCell' = true) (hi : (Tryz.prog.info? t).map (·.size) = some cs.length) (hb : w.heap[b]? = some (.cells Z t (0, 0))) (hZ : Z.size = cs.length) (hgd : op.guard = none) (x y : Operand) (ho : op.op = .store t x y)
    (hx : a.eval x = .pointer (some ⟨b, 0, none⟩)) (hy : a.eval y = .agg cs.toArray)
    (h : ∀ W1 : World, W1.heap[b]? = some (.cells cs.toArray t (0, 0)) → (∀ w0 : World, w0.heap.size ≤ b → Below w0.heap.size w0 w → Below w0.heap.size w0 W1) → (∀ k, k ≠ b → W1.heap[k]? = w.heap[k]?) → W1.heap.size = w.heap.size → W1.tape = w.tape → wpList Tryz.prog ops Q rest (a.put op.dst undef) W1) : wpList Tryz.prog ops Q (op :: rest) a w := by
  refine wpList_store_mid hgd t x y ho b 0 cs.toArray hx hy (fun j hj => ?_) (by rw [List.size_toArray]; exact hi) (all_oneCell_toArray h1) ?_
  · rw [List.size_toArray] at hj
    rw [Nat.zero_add]
    refine ⟨?_, blk_frozen hb j⟩
    rw [blk_cell hb j]
    simp [hZ, hj]
  · obtain ⟨cs', h2, h3, h4, _⟩ := setCells_heap cs w b 0 Z _ hb (by rw [hZ]; omega)
    have he : cs' = cs.toArray := by
      apply Array.ext_getElem?
      intro j
      by_cases hj : j < cs.length
      · have := h4 j hj
        rw [Nat.zero_add] at this
        rw [this]
        simp
      · rw [Array.getElem?_eq_none (by omega), Array.getElem?_eq_none (by simp; omega)]
    subst he
    refine h _ h2 (fun w0 h0 hB => below_setCells h0 _ _ _ hB) (fun k hk => heap_setCells_far _ _ _ k hk) (size_setCells _ _ _) ?_
    exact tape_setCells _ _ _
end
theorem fold_set : ∀ (vs : List Value) (Z : Array Value) (off s : Nat), off + s + vs.length ≤ Z.size →
    ∃ C, (vs.zipIdx s).foldl (fun cs (x : Value × Nat) => cs.setIfInBounds (off + x.2) x.1) Z = C ∧ C.size = Z.size ∧ (∀ j, j < vs.length → C[off + s + j]? = vs[j]?) ∧ ∀ j, (j < off + s ∨ off + s + vs.length ≤ j) → C[j]? = Z[j]?
  | [], Z, off, s, h => ⟨Z, rfl, rfl, fun j hj => absurd hj (by simp), fun j _ => rfl⟩
  | v :: vs, Z, off, s, h => by
    have hl : (v :: vs).length = vs.length + 1 := rfl
    obtain ⟨C, h1, h2, h3, h4⟩ := fold_set vs (Z.setIfInBounds (off + s) v) off (s + 1) (by rw [Array.size_setIfInBounds]; omega)
    refine ⟨C, by rw [List.zipIdx_cons, List.foldl_cons]; exact h1, by simpa using h2, fun j hj => ?_, fun j hj => ?_⟩
    · match j with
      | 0 =>
        rw [Nat.add_zero, h4 _ (.inl (by omega)), Array.getElem?_setIfInBounds, if_pos rfl, if_pos (by omega)]
        rfl
      | j + 1 =>
        have := h3 j (by omega)
        rw [show off + s + (j + 1) = off + (s + 1) + j by omega, this]
        rfl
    · rw [h4 j (by omega), Array.getElem?_setIfInBounds, if_neg (by omega)]
theorem fill_one (cs : List Value) (sz : Nat) (Z : Array Value) (hl : cs.length = sz) (hZ : Z.size = sz) : Instr.fill (fun i => some (i * sz, sz)) Z [(0, Value.agg cs.toArray)] = some cs.toArray := by
  obtain ⟨C0, e0, z0, p0, q0⟩ := fold_set cs Z 0 0 (by omega)
  unfold Instr.fill
  simp only [Value.cells, Nat.zero_mul]
  rw [if_neg (by simp; omega)]
  unfold Instr.fill
  have e : cs.toArray.zipIdx.foldl (fun cs (x : Value × Nat) => cs.setIfInBounds (0 + x.2) x.1) Z = C0 := by
    rw [← Array.foldl_toList, Array.toList_zipIdx]
    exact e0
  have hC : C0 = cs.toArray := by
    apply Array.ext_getElem?
    intro j
    by_cases hj : j < cs.length
    · have := p0 j hj
      rw [show 0 + 0 + j = j by omega] at this
      rw [this]
      simp
    · rw [Array.getElem?_eq_none (by omega), Array.getElem?_eq_none (by simp; omega)]
  exact congrArg some (e.trans hC)
theorem wpl_build1A {ops : Array Oper} {rest : List Oper} {op : Oper} {a : Act} {w : World} {Q : Exit → Act → World → Prop} (ts t : TypeId) (cs : List Value) (hu : Tryz.prog.underlying ts = some (.slice t)) (h1 : (Tryz.prog.info? t).map (·.size) = some cs.length) (h2 : ((Tryz.prog.info? t).bind (·.zero)).isSome = true) (hc : cs.length ≤ 1000) (hc0 : 0 < cs.length) (hgd : op.guard = none)
    (parts : Array (Nat × Operand)) (ho : op.op = .buildSlice ts 1 parts) (hp : parts.toList.map (fun q => (q.1, a.eval q.2)) = [(0, .agg cs.toArray)])
    (h : wpList Tryz.prog ops Q rest (a.put op.dst (.slice (some ⟨w.heap.size, 0, none⟩) 1 1)) (w.alloc (.cells cs.toArray t))) : wpList Tryz.prog ops Q (op :: rest) a w := by
  cases hie : Tryz.prog.info? t with
  | none => simp [hie] at h1
  | some ie =>
    simp only [hie, Option.map_some, Option.some.injEq, Option.bind_some] at h1 h2
    obtain ⟨z, hz⟩ := Option.isSome_iff_exists.1 h2
    refine wpList_buildSlice hgd ts t 1 parts ho _ ie z hu hie hz (by rw [h1]; omega) (by rw [h1]; omega) ?_ h
    rw [Array.toList_map, hp, h1]
    exact fill_one cs cs.length _ rfl (by simp)
end Go.Proofs.YtmcddoolniaehaaGreat.S
end
section
namespace Go.Proofs.YtmcddoolniaehaaGreat.S
open Go.RowKit Go.Proofs.YtmcddoolniaehaaGreatW.PrintWords Go.Proofs.YtmcddoolniaehaaGreatW.PrintLast Go.Proofs.YtmcddoolniaehaaGreatW.PrintMore Go.Proofs.YtmcddoolniaehaaGreatW
set_option linter.unusedVariables false
set_option linter.unusedSimpArgs false
def fnV (n : Nat) : Value := .func (.func n) #[] #[]
def countsV : List Value := [fnV 101, fnV 102, fnV 103]
def namesV : List Value := [fnV 106, fnV 107, fnV 108]
theorem lt_of_blk {w : World} {b : Nat} {o : Obj} (h : w.heap[b]? = some o) : b < w.heap.size := (Array.getElem?_eq_some_iff.1 h).1
theorem info_kind : (Tryz.prog.info? 91).map (·.size) = some 3 := by kernel_rfl
theorem counts_one : ∀ u ∈ countsV, u.oneCell' = true := by
  intro u hu
  simp only [countsV, List.mem_cons, List.not_mem_nil, or_false] at hu
  rcases hu with rfl | rfl | rfl <;> rfl
theorem names_one : ∀ u ∈ namesV, u.oneCell' = true := by
  intro u hu
  simp only [namesV, List.mem_cons, List.not_mem_nil, or_false] at hu
  rcases hu with rfl | rfl | rfl <;> rfl
def kindsV : Array MapEntry := #[⟨.int .i64 0, .agg countsV.toArray, 0⟩, ⟨.int .i64 1, .agg namesV.toArray, 1⟩, ⟨.int .i64 2, .agg namesV.toArray, 2⟩, ⟨.int .i64 3, .agg namesV.toArray, 3⟩]
set_option maxHeartbeats 2000000 in
set_option maxRecDepth 100000 in
theorem kinds_calls (w : World) :
    Calls Tryz.prog 75 #[] w fun e w' => ∃ r, e = .returned (.map (some r)) ∧ w'.heap[r]? = some (.map kindsV 4) ∧ Below w.heap.size w w' := by
  go_enter Tryz.func75, Tryz.ntmps75
  go_wp2_with (first
    | (refine wpl_store_newA 91 w #[.nilFunc, .nilFunc, .nilFunc] countsV counts_one info_kind rfl rfl rfl _ _ rfl rfl rfl ?_; intro U1 hk1 hB1 hs1; have HB := Aside0.mk hB1; have H1 := Aside0.mk hk1; clear hs1 hk1 hB1; go_frame)
    | (refine wpl_store_newA 91 U1 #[.nilFunc, .nilFunc, .nilFunc] namesV names_one info_kind rfl rfl rfl _ _ rfl rfl rfl ?_; intro U2 hk2 hB2 hs2; replace HB := Aside0.mk (below_step HB.out hB2); replace H1 := Aside0.mk (blk_below H1.out hB2); have H2 := Aside0.mk hk2; clear hk2 hB2 hs2; go_frame)
    | (refine wpList_load_mid (by rfl) 91 _ (by rfl) w.heap.size 0 (by rfl) countsV _ (range_of_blk (t := 91) H1.out) Tryz.underlying91 rfl info_kind ?_; go_frame)
    | (refine wpList_load_mid (by rfl) 91 _ (by rfl) U1.heap.size 0 (by rfl) namesV _ (range_of_blk (t := 91) H2.out) Tryz.underlying91 rfl info_kind ?_; go_frame)
    | (refine wpl_makeMap 93 rfl rfl ?_; intro U3 hm3 hB3; have HS1 : Aside0 (w.heap.size < U2.heap.size) := ⟨lt_of_blk H1.out⟩; have HS2 : Aside0 (U1.heap.size < U2.heap.size) := ⟨lt_of_blk H2.out⟩; replace HB := Aside0.mk (below_step HB.out hB3); replace H1 := Aside0.mk (blk_below H1.out hB3); replace H2 := Aside0.mk (blk_below H2.out hB3); have HM := Aside0.mk hm3; clear hm3 hB3; go_frame)
    | (refine wpl_insert 93 3 91 .i64 U2.heap.size _ _ _ _ Tryz.underlying93 Tryz.underlying3 HM.out (by rfl) rfl _ _ _ rfl rfl rfl rfl ?_; intro U4 hm4 ho4 hB4 hs4; replace H1 := Aside0.mk ((ho4 _ (Nat.ne_of_lt HS1.out)).trans H1.out); replace H2 := Aside0.mk ((ho4 _ (Nat.ne_of_lt HS2.out)).trans H2.out); replace HB := Aside0.mk (hB4 w (Nat.le_of_lt HS1.out) HB.out); replace HM := Aside0.mk hm4; clear hm4 ho4 hB4 hs4; go_frame))
  go_ret
  exact ⟨_, rfl, HM.out, HB.out⟩
end Go.Proofs.YtmcddoolniaehaaGreat.S
end
