/- Several of the walk's texts in one: SHRCMay, SRC0, Sx19, SHRRMay. -/
import Derived.BigQuiet
import Derived.Test.YtmcddoolniaehaaGreatMD04
import Derived.Test.YtmcddoolniaehaaGreatMD05
import Derived.Test.YtmcddoolniaehaaGreatMD21
section
namespace Go.Proofs.YtmcddoolniaehaaGreat.S
open Go.RowKit Go.Proofs.YtmcddoolniaehaaGreatW.PrintWords Go.Proofs.YtmcddoolniaehaaGreatW.PrintLast Go.Proofs.YtmcddoolniaehaaGreatW.PrintMore Go.Proofs.YtmcddoolniaehaaGreatW
attribute [local go_sem ↓] Go.wp_at_zero Go.wp_at_succ
set_option linter.unusedVariables false
set_option linter.unusedSimpArgs false
def ref06_May.l0 : Nat → List (S73) → Int → Option (Bool)
 | 0, _, _ => none
 | k + 1, x0, x3 => if x3 < (x0.length : Int) then (if 0 ≤ x3 then ((ref05_Key.f k ((rd_T73 x0 x3).f0)).bind fun t227 => (if t227 = true then (if ((rd_T73 x0 x3).f1) = 0 then (some false) else (if x3 > 0 then (if 0 ≤ (wrap64 (x3 - 1)) then (if (wrap64 (x3 - 1)) < (x0.length : Int) then (if ((Op.bytesLess (((rd_T73 x0 (wrap64 (x3 - 1))).f0).toList) (((rd_T73 x0 x3).f0).toList)) = true) then (ref06_May.l0 k x0 (wrap64 (x3 + 1))) else (some false)) else (none)) else (none)) else (ref06_May.l0 k x0 (wrap64 (x3 + 1))))) else (some false))) else (none)) else (some true)
def ref06_May.f (k : Nat) (l0 : List (S73)) : Option (Bool) := ref06_May.l0 k l0 0
theorem ref06_May.mono_l : ∀ k, (∀ y0 y1, LeO (ref06_May.l0 k y0 y1) (ref06_May.l0 (k + 1) y0 y1))
 | 0 => fun _ _ r h => by simp [ref06_May.l0] at h
 | k + 1 => by
  have ih0 := ref06_May.mono_l k
  ·intro y0 y1
   unfold ref06_May.l0
   repeat' first
   | (with_reducible exact ih0 _ _)
   | (with_reducible exact ref05_Key.mono _ _)
   | (with_reducible exact LeO.refl _)
   | (with_reducible exact LeO.none _)
   | (with_reducible refine LeO.ite ?_ ?_)
   | (with_reducible refine LeO.bind ?_ (fun _ => ?_))
   | exact ih0 _ _
   | exact ref05_Key.mono _ _
   | exact LeO.none _
   | refine LeO.ite ?_ ?_
   | refine LeO.bind ?_ (fun _ => ?_)
theorem ref06_May.mono : ∀ a0 k, LeO (ref06_May.f k a0) (ref06_May.f (k + 1) a0) := by
 intro a0 k
 have ih0 := ref06_May.mono_l k
 unfold ref06_May.f
 repeat' first
   | (with_reducible exact ih0 _ _)
   | (with_reducible exact ref05_Key.mono _ _)
   | (with_reducible exact LeO.refl _)
   | (with_reducible exact LeO.none _)
   | (with_reducible refine LeO.ite ?_ ?_)
   | (with_reducible refine LeO.bind ?_ (fun _ => ?_))
   | exact ih0 _ _
   | exact ref05_Key.mono _ _
   | exact LeO.none _
   | refine LeO.ite ?_ ?_
   | refine LeO.bind ?_ (fun _ => ?_)
theorem ref06_May.step {k1 : Nat} {l0 : List (S73)} {x : Int} {r : Bool} (H : ref06_May.l0 (k1 + 1) l0 x = some r) (c2 : x < (l0.length : Int)) :
    0 ≤ x ∧ (∃ t, ref05_Key.f k1 (rd_T73 l0 x).f0 = some t ∧ (t = false ∧ r = false ∨ t = true ∧ (((rd_T73 l0 x).f1 == 0) = true ∧ r = false ∨ ((rd_T73 l0 x).f1 == 0) = false ∧ (decide (0 < x) = false ∧ ref06_May.l0 k1 l0 (wrap64 (x + 1)) = some r ∨ decide (0 < x) = true ∧ 0 ≤ wrap64 (x - 1) ∧ wrap64 (x - 1) < (l0.length : Int) ∧ ∃ b, Op.bytesLess (rd_T73 l0 (wrap64 (x - 1))).f0.toList (rd_T73 l0 x).f0.toList = b ∧ (b = true ∧ ref06_May.l0 k1 l0 (wrap64 (x + 1)) = some r ∨ b = false ∧ r = false))))) := by
  simp only [ref06_May.l0] at H
  rw [if_pos c2] at H
  by_cases c3 : 0 ≤ x
  rotate_left
  · rw [if_neg c3] at H; cases H
  rw [if_pos c3] at H
  refine ⟨c3, ?_⟩
  obtain ⟨t, h1, H⟩ := Option.bind_eq_some_iff.mp H
  refine ⟨t, h1, ?_⟩
  rcases t with _ | _
  · exact .inl ⟨rfl, by simpa using H.symm⟩
  rw [if_pos rfl] at H
  refine .inr ⟨rfl, ?_⟩
  by_cases z : (rd_T73 l0 x).f1 = 0
  · rw [if_pos z] at H; exact .inl ⟨beq_iff_eq.mpr z, by simpa using H.symm⟩
  rw [if_neg z] at H
  refine .inr ⟨beq_eq_false_iff_ne.mpr z, ?_⟩
  by_cases z : 0 < x
  rotate_left
  · rw [if_neg z] at H; exact .inl ⟨decide_eq_false z, H⟩
  rw [if_pos z] at H
  by_cases c9 : 0 ≤ wrap64 (x - 1)
  rotate_left
  · rw [if_neg c9] at H; cases H
  rw [if_pos c9] at H
  by_cases c10 : wrap64 (x - 1) < (l0.length : Int)
  rotate_left
  · rw [if_neg c10] at H; cases H
  rw [if_pos c10] at H
  refine .inr ⟨decide_eq_true z, c9, c10, _, rfl, ?_⟩
  cases hb : Op.bytesLess (rd_T73 l0 (wrap64 (x - 1))).f0.toList (rd_T73 l0 x).f0.toList with
  | true => rw [hb, if_pos rfl] at H; exact .inl ⟨rfl, H⟩
  | false => rw [hb] at H; exact .inr ⟨rfl, by simpa using H.symm⟩
set_option maxHeartbeats 8000000 in
set_option maxRecDepth 100000 in
theorem ref06_May.calls (k : Nat) (A0 : Option Addr) (c0 : Nat) (l0 : List (S73)) (r : Bool) (w : World) (hr0 : Kd.C k73 w A0 l0.length l0) (hc0 : l0.length ≤ c0) (h : ref06_May.f k l0 = some r) :
    Calls Tryz.prog 47 #[.slice A0 l0.length c0] w fun e w' => e = .returned (.bool r) ∧ Below w.heap.size w w' := by
  have hu := Tryz.underlying73
  have HR := Aside0.mk hr0
  have H' := Aside0.mk (show ref06_May.l0 k l0 0 = some r from h)
  clear hr0 hc0 h
  go_enter Tryz.func47, Tryz.ntmps47
  go_wp2
  go_loopg [3] k (fun kq v w' => ∃ x : Int, v = .int .i64 x ∧ Aside0 (ref06_May.l0 kq l0 x = some r) ∧ Aside0 (kq ≤ k) ∧ Aside0 (Below w.heap.size w w'))
  case atStart => exact ⟨0, rfl, H', ⟨Nat.le_refl _⟩, ⟨Below.refl _ _⟩⟩
  case round =>
    clear H'
    obtain ⟨x, rfl, HA, HK1, HB⟩ := hrel
    cases gk with
    | zero => exact absurd HA.out (by simp [ref06_May.l0])
    | succ k1 =>
      by_cases c2 : x < (l0.length : Int)
      · obtain ⟨c3, t, hK1, H⟩ := ref06_May.step HA.out c2
        obtain ⟨ad, e, hx0, hx1⟩ := at_T73 HR.out x c3 c2
        cases e
        have hz0 := (HB.out.cell (World.block_lt_of_cell? w _ hx0)).trans hx0; have hz1 := (HB.out.cell (World.block_lt_of_cell? w _ hx1)).trans hx1
        have H0 := Aside0.mk H
        have K1 := Aside0.mk (fun W : World => (ref05_Key.calls _ _ _ W hK1).mono fun _ _ h => And.intro h.1 (drawn_b h.2))
        clear H HA hK1
        generalize rd_T73 l0 x = e at *
        have p1 := eq_true c3
        have q1 := eq_true c2
        go_wp2_with fail
        refine (K1.out _).mono ?_
        rintro e1 w1 ⟨rfl, hb⟩
        have hBX := Aside0.mk (below_step HB.out hb)
        clear hb HB K1 hz0 hz1
        go_wp2_with fail
        rcases H0.out with ⟨rfl, rfl⟩ | ⟨rfl, ⟨z, rfl⟩ | ⟨z, ⟨xb, H⟩ | ⟨xb, y0, y1, b, hb, H⟩⟩⟩
        rotate_right
        · have hji := wrapIn y1 y0
          generalize wrap64 (x - 1) = j at *
          obtain ⟨ad2, e2, hy0, hy1⟩ := at_T73 HR.out j y0 y1
          cases e2
          generalize rd_T73 l0 j = y at *
          have y2 := eq_true y0
          have y3 := eq_true y1
          refine in_ (n := 28) (S := Below w.heap.size w) (by kernel_rfl) rfl (below_drew hBX.out) (fun hHeld => ?_)
          repeat (first
            | (refine run_ (v := ?_) (a' := ?_) rfl rfl hHeld ?_ ?_ ?_; rotate_left; (focus (intro w2 hs; have ux0 := (hs.cell (World.block_lt_of_cell? w _ hx0)).trans hx0; have ux1 := (hs.cell (World.block_lt_of_cell? w _ hx1)).trans hx1; have uy0 := (hs.cell (World.block_lt_of_cell? w _ hy0)).trans hy0; go_simp; with_reducible rfl)); rotate_left; (focus (simp only [Act.put, sqA, sqB, sqC] <;> rfl)))
            | (refine skip_ (a' := ?_) rfl rfl hHeld ?_ ?_; rotate_left; (focus (simp only [Act.put, sqA, sqB, sqC] <;> rfl))))
          refine wpAnyH_done (by kernel_rfl) ?_ _
          rcases H with ⟨rfl, H⟩ | ⟨rfl, rfl⟩
          all_goals first | (go_wp2; go_ret; exact ⟨rfl, hHeld⟩) | (go_wp2; go_roundg k1; (case measure => have := HK1.out; omega); (case rel => exact ⟨wrap64 (x + 1), rfl, ⟨H⟩, ⟨by have := HK1.out; omega⟩, ⟨hHeld⟩⟩))
        all_goals
          refine in_ (n := 28) (S := Below w.heap.size w) (by kernel_rfl) rfl (below_drew hBX.out) (fun hHeld => ?_)
          repeat (first
            | (refine run_ (v := ?_) (a' := ?_) rfl rfl hHeld ?_ ?_ ?_; rotate_left; (focus (intro w2 hs; have ux0 := (hs.cell (World.block_lt_of_cell? w _ hx0)).trans hx0; have ux1 := (hs.cell (World.block_lt_of_cell? w _ hx1)).trans hx1; go_simp; with_reducible rfl)); rotate_left; (focus (simp only [Act.put, sqA, sqB, sqC] <;> rfl)))
            | (refine skip_ (a' := ?_) rfl rfl hHeld ?_ ?_; rotate_left; (focus (simp only [Act.put, sqA, sqB, sqC] <;> rfl))))
          refine wpAnyH_done (by kernel_rfl) ?_ _
          first | (go_wp2; go_ret; exact ⟨rfl, hHeld⟩) | (go_wp2; go_roundg k1; (case measure => have := HK1.out; omega); (case rel => exact ⟨wrap64 (x + 1), rfl, ⟨H⟩, ⟨by have := HK1.out; omega⟩, ⟨hHeld⟩⟩))
      · have q1 := decide_eq_false c2
        have H := HA.out
        simp only [ref06_May.l0] at H
        rw [if_neg c2] at H
        cases H
        go_wp2
        go_ret
        exact ⟨rfl, HB.out⟩
end Go.Proofs.YtmcddoolniaehaaGreat.S
end
section
namespace Go.Proofs.YtmcddoolniaehaaGreat.S
open Go.RowKit Go.Proofs.YtmcddoolniaehaaGreatW.PrintWords Go.Proofs.YtmcddoolniaehaaGreatW.PrintLast Go.Proofs.YtmcddoolniaehaaGreatW.PrintMore Go.Proofs.YtmcddoolniaehaaGreatW
set_option linter.unusedVariables false
set_option linter.unusedSimpArgs false
theorem mayD_loop : ∀ (suf pre : List Ct) (k : Nat), suf.length + 101 < k → (pre ++ suf).length < 4611686018427387904 → kS suf →
    ref06_May.l0 k (pre ++ suf) ((pre.length : Nat) : Int) = some (mayCP pre.getLast? suf)
  | suf, pre, 0, hk, _, _ => by omega
  | [], pre, k + 1, _, _, _ => by
    simp only [ref06_May.l0]
    rw [if_neg (by simp)]
    rfl
  | x :: suf, pre, k + 1, hk, hl, ho => by
    have hlt : ((pre.length : Nat) : Int) < (((pre ++ x :: suf).length : Nat) : Int) := by simp; omega
    have hpl : pre.length < 4611686018427387904 := by simp at hl; omega
    have hx := ho x List.mem_cons_self
    have ih := mayD_loop suf (pre ++ [x]) k (by simp at hk; omega) (by simpa using hl) (fun y hy => ho y (List.mem_cons_of_mem _ hy))
    rw [appS, List.getLast?_concat, lenS] at ih
    simp only [ref06_May.l0]
    rw [if_pos hlt, if_pos (by omega), rdC_mid, keyD_f x.f0 k (by omega) (by simp at hk; omega), Option.bind_some, wrapS hpl]
    unfold mayCP oneC
    cases h1 : keyB x.f0.data.toList with
    | false => rfl
    | true =>
      simp only [if_true, Bool.true_and]
      by_cases h0 : x.f1 = 0
      · rw [if_pos h0]; simp [h0]
      · rw [if_neg h0]
        simp only [ne_eq, h0, not_false_eq_true, decide_true, Bool.true_and]
        rcases List.eq_nil_or_concat pre with rfl | ⟨p, y, rfl⟩
        · rw [if_neg (by simp)]
          simpa using ih
        · rw [List.concat_eq_append] at *
          have hw : wrap64 ((((p ++ [y]).length : Nat) : Int) - 1) = ((p.length : Nat) : Int) := by
            rw [List.length_append, List.length_singleton]; exact wrapP (by simp at hpl; omega)
          rw [if_pos (by simp), hw, if_pos (by omega), if_pos (by simp; omega), appS, rdC_mid, List.getLast?_concat]
          rw [appS] at ih
          cases h2 : Op.bytesLess y.f0.toList x.f0.toList with
          | false => simp [h2]
          | true =>
            simp only [if_true]
            rw [ih, h2]; rfl
theorem mayD_f (k : Nat) (l : List Ct) (hk : l.length + 101 < k) (hl : l.length < 1000000) (ho : kS l) : ref06_May.f k l = some (mayC l) := by
  have := mayD_loop l [] k hk (by simp; omega) ho
  simpa [ref06_May.f, mayC] using this
end Go.Proofs.YtmcddoolniaehaaGreat.S
end
section
namespace Go.Proofs.YtmcddoolniaehaaGreat.S
open Go.RowKit Go.Proofs.YtmcddoolniaehaaGreatW.PrintWords Go.Proofs.YtmcddoolniaehaaGreatW.PrintLast Go.Proofs.YtmcddoolniaehaaGreatW.PrintMore
attribute [local go_sem] max2_int min2_int max_two min_two max_three min_three max_four min_four   -- for this text's walks alone
set_option linter.unusedVariables false
set_option linter.unusedSimpArgs false

def ref07_one.f (k : Nat) (a0_0 : ByteArray) (a0_1 : ByteArray) (a0_2 : Int) (a0_3 : Int) (a0_4 : Int) : Option (Bool) := (ref05_Key.f k a0_0).bind fun t203 => ((ref05_Key.f k a0_1).bind fun t204 => (if t203 = true then (if t204 = true then (if a0_2 > 0 then (if a0_3 ≥ 0 then (if a0_3 < 8 then (some (decide (a0_4 > 0))) else (some false)) else (some false)) else (some false)) else (some false)) else (some false)))
theorem ref07_one.mono : ∀ a0 a1 a2 a3 a4 k, LeO (ref07_one.f k a0 a1 a2 a3 a4) (ref07_one.f (k + 1) a0 a1 a2 a3 a4) := by
 intro a0 a1 a2 a3 a4 k
 unfold ref07_one.f
 repeat' first
   | (with_reducible exact ref05_Key.mono _ _)
   | (with_reducible exact LeO.refl _)
   | (with_reducible exact LeO.none _)
   | (with_reducible refine LeO.ite ?_ ?_)
   | (with_reducible refine LeO.bind ?_ (fun _ => ?_))
   | exact ref05_Key.mono _ _
   | exact LeO.none _
   | refine LeO.ite ?_ ?_
   | refine LeO.bind ?_ (fun _ => ?_)
set_option maxHeartbeats 8000000 in
set_option maxRecDepth 100000 in
theorem ref07_one.calls (k : Nat) (a0_0 : ByteArray) (a0_1 : ByteArray) (a0_2 : Int) (a0_3 : Int) (a0_4 : Int) (r : Bool) (w : World) (h : ref07_one.f k a0_0 a0_1 a0_2 a0_3 a0_4 = some r) :
  Calls Tryz.prog 91 #[.agg #[.string a0_0, .string a0_1, .int .i64 a0_2, .int .i64 a0_3, .int .i64 a0_4]] w fun e w' => e = .returned (.bool r) ∧ Below w.heap.size w w' := by
 have hu47 := Tryz.underlying47
 have HB := Aside0.mk (Below.refl w.heap.size w)
 have H : ((ref05_Key.f k a0_0).bind fun t203 => ((ref05_Key.f k a0_1).bind fun t204 => (if t203 = true then (if t204 = true then (if a0_2 > 0 then (if a0_3 ≥ 0 then (if a0_3 < 8 then (some (decide (a0_4 > 0))) else (some false)) else (some false)) else (some false)) else (some false)) else (some false)))) = some r := h
 clear h
 replace H := Option.bind_eq_some_iff.mp H
 obtain ⟨t203, A20, H⟩ := H
 replace H : ((ref05_Key.f k a0_1).bind fun t204 => (if t203 = true then (if t204 = true then (if a0_2 > 0 then (if a0_3 ≥ 0 then (if a0_3 < 8 then (some (decide (a0_4 > 0))) else (some false)) else (some false)) else (some false)) else (some false)) else (some false))) = some r := H
 have A2 := Aside0.mk A20
 clear A20
 replace H := Option.bind_eq_some_iff.mp H
 obtain ⟨t204, A30, H⟩ := H
 replace H : (if t203 = true then (if t204 = true then (if a0_2 > 0 then (if a0_3 ≥ 0 then (if a0_3 < 8 then (some (decide (a0_4 > 0))) else (some false)) else (some false)) else (some false)) else (some false)) else (some false)) = some r := H
 have A3 := Aside0.mk A30
 clear A30
 by_cases c4 : t203 = true
 ·subst c4
  have H1 : (if t204 = true then (if a0_2 > 0 then (if a0_3 ≥ 0 then (if a0_3 < 8 then (some (decide (a0_4 > 0))) else (some false)) else (some false)) else (some false)) else (some false)) = some r := by rw [if_pos rfl] at H; exact H
  clear H
  have H := H1
  clear H1
  by_cases c5 : t204 = true
  ·subst c5
   have H1 : (if a0_2 > 0 then (if a0_3 ≥ 0 then (if a0_3 < 8 then (some (decide (a0_4 > 0))) else (some false)) else (some false)) else (some false)) = some r := by rw [if_pos rfl] at H; exact H
   clear H
   have H := H1
   clear H1
   by_cases c6 : a0_2 > 0
   ·rw [if_pos c6] at H
    have c6b0 : decide (0 < a0_2) = true := decide_eq_true c6
    clear c6
    by_cases c7 : a0_3 ≥ 0
    ·rw [if_pos c7] at H
     have c7b0 : decide (0 ≤ a0_3) = true := decide_eq_true c7
     clear c7
     by_cases c8 : a0_3 < 8
     ·rw [if_pos c8] at H
      have c8b0 : decide (a0_3 < 8) = true := decide_eq_true c8
      clear c8
      obtain rfl := Option.some.inj H
      go_enter Tryz.func91, Tryz.ntmps91
      go_wp2_with (first | ((with_reducible refine gate_dst (N := 1) rfl ?_); refine box_event ?hg (N := 1) ?hd (cs := #[.string a0_0, .string a0_1, .int .i64 a0_2, .int .i64 a0_3, .int .i64 a0_4]) (t := 47) ?hr ?_; (case hd => rfl); (case hg => rfl); (case hr => first | (go_simp; done) | (go_simp; rfl)); intro gb202 hg w9 hbox hb; have n0_ := Aside0.mk (below_step (by repeat (first | (with_reducible first | exact HB.out | apply below_alloc | apply pw_below_drewN | apply below_drew1) | exact HB.out)) hb); have n1_ := Aside0.mk (hbox); have n2_ := Aside0.mk ((by rw [hg]; exact (below_size (by repeat (first | (with_reducible first | exact HB.out | apply below_alloc | apply pw_below_drewN | apply below_drew1) | exact HB.out))) : w.heap.size ≤ gb202)); have n3_ := Aside0.mk ((by rw [hg]; exact (below_size (by repeat (first | (with_reducible first | exact HB.out | apply below_alloc | apply pw_below_drewN | apply below_drew1) | exact HB.out))) : w.heap.size ≤ gb202)); clear HB; have HB := n0_; have BK202 := n1_; have GW202 := n2_; have GE202 := n3_; clear n0_ n1_ n2_ n3_; clear hb hbox hg; have hcz10_0 : w9.cell? ⟨gb202, 0, none⟩ = some (.string a0_0) := (blk_cell BK202.out 0).trans rfl; have hcz10_1 : w9.cell? ⟨gb202, 1, none⟩ = some (.string a0_1) := (blk_cell BK202.out 1).trans rfl; have hcz10_2 : w9.cell? ⟨gb202, 2, none⟩ = some (.int .i64 a0_2) := (blk_cell BK202.out 2).trans rfl; have hcz10_3 : w9.cell? ⟨gb202, 3, none⟩ = some (.int .i64 a0_3) := (blk_cell BK202.out 3).trans rfl; have hcz10_4 : w9.cell? ⟨gb202, 4, none⟩ = some (.int .i64 a0_4) := (blk_cell BK202.out 4).trans rfl; have hfz10_0 := blk_frozen BK202.out 0; have hfz10_1 := blk_frozen BK202.out 1; have hfz10_2 := blk_frozen BK202.out 2; have hfz10_3 := blk_frozen BK202.out 3; have hfz10_4 := blk_frozen BK202.out 4) | ((with_reducible refine gate_callee (f := 88) rfl ?_); refine goesL_ (some 7) rfl rfl Tryz.func88 (by kernel_rfl) rfl #[.string a0_0] rfl (by (try simp only [List.map_toArray, List.map_cons, List.map_nil]); first | done | rfl | (simp only [List.length_drop, List.length_take]; rfl)) ?_; (with_reducible refine (ref05_Key.calls k a0_0 true _ A2.out).mono ?_); rintro e w' ⟨rfl, ⟨nd, rfl⟩⟩; refine ⟨_, rfl, ?_⟩) | ((with_reducible refine gate_callee (f := 88) rfl ?_); refine goesL_ (some 10) rfl rfl Tryz.func88 (by kernel_rfl) rfl #[.string a0_1] rfl (by (try simp only [List.map_toArray, List.map_cons, List.map_nil]); first | done | rfl | (simp only [List.length_drop, List.length_take]; rfl)) ?_; (with_reducible refine (ref05_Key.calls k a0_1 true _ A3.out).mono ?_); rintro e w' ⟨rfl, ⟨nd, rfl⟩⟩; refine ⟨_, rfl, ?_⟩))
      go_ret
      exact ⟨by first | rfl | (simp [errW_none, errW_some] <;> rfl) | (simp [*, errW_none, errW_some] <;> rfl), by repeat (first | (with_reducible first | exact HB.out | apply below_alloc | apply pw_below_drewN | apply below_drew1 | refine below_set ?_ GE202.out) | exact HB.out)⟩
     ·rw [if_neg c8] at H
      have c8b0 : decide (a0_3 < 8) = false := decide_eq_false c8
      clear c8
      obtain rfl := Option.some.inj H
      go_enter Tryz.func91, Tryz.ntmps91
      go_wp2_with (first | ((with_reducible refine gate_dst (N := 1) rfl ?_); refine box_event ?hg (N := 1) ?hd (cs := #[.string a0_0, .string a0_1, .int .i64 a0_2, .int .i64 a0_3, .int .i64 a0_4]) (t := 47) ?hr ?_; (case hd => rfl); (case hg => rfl); (case hr => first | (go_simp; done) | (go_simp; rfl)); intro gb202 hg w11 hbox hb; have n0_ := Aside0.mk (below_step (by repeat (first | (with_reducible first | exact HB.out | apply below_alloc | apply pw_below_drewN | apply below_drew1) | exact HB.out)) hb); have n1_ := Aside0.mk (hbox); have n2_ := Aside0.mk ((by rw [hg]; exact (below_size (by repeat (first | (with_reducible first | exact HB.out | apply below_alloc | apply pw_below_drewN | apply below_drew1) | exact HB.out))) : w.heap.size ≤ gb202)); have n3_ := Aside0.mk ((by rw [hg]; exact (below_size (by repeat (first | (with_reducible first | exact HB.out | apply below_alloc | apply pw_below_drewN | apply below_drew1) | exact HB.out))) : w.heap.size ≤ gb202)); clear HB; have HB := n0_; have BK202 := n1_; have GW202 := n2_; have GE202 := n3_; clear n0_ n1_ n2_ n3_; clear hb hbox hg; have hcz12_0 : w11.cell? ⟨gb202, 0, none⟩ = some (.string a0_0) := (blk_cell BK202.out 0).trans rfl; have hcz12_1 : w11.cell? ⟨gb202, 1, none⟩ = some (.string a0_1) := (blk_cell BK202.out 1).trans rfl; have hcz12_2 : w11.cell? ⟨gb202, 2, none⟩ = some (.int .i64 a0_2) := (blk_cell BK202.out 2).trans rfl; have hcz12_3 : w11.cell? ⟨gb202, 3, none⟩ = some (.int .i64 a0_3) := (blk_cell BK202.out 3).trans rfl; have hcz12_4 : w11.cell? ⟨gb202, 4, none⟩ = some (.int .i64 a0_4) := (blk_cell BK202.out 4).trans rfl; have hfz12_0 := blk_frozen BK202.out 0; have hfz12_1 := blk_frozen BK202.out 1; have hfz12_2 := blk_frozen BK202.out 2; have hfz12_3 := blk_frozen BK202.out 3; have hfz12_4 := blk_frozen BK202.out 4) | ((with_reducible refine gate_callee (f := 88) rfl ?_); refine goesL_ (some 7) rfl rfl Tryz.func88 (by kernel_rfl) rfl #[.string a0_0] rfl (by (try simp only [List.map_toArray, List.map_cons, List.map_nil]); first | done | rfl | (simp only [List.length_drop, List.length_take]; rfl)) ?_; (with_reducible refine (ref05_Key.calls k a0_0 true _ A2.out).mono ?_); rintro e w' ⟨rfl, ⟨nd, rfl⟩⟩; refine ⟨_, rfl, ?_⟩) | ((with_reducible refine gate_callee (f := 88) rfl ?_); refine goesL_ (some 10) rfl rfl Tryz.func88 (by kernel_rfl) rfl #[.string a0_1] rfl (by (try simp only [List.map_toArray, List.map_cons, List.map_nil]); first | done | rfl | (simp only [List.length_drop, List.length_take]; rfl)) ?_; (with_reducible refine (ref05_Key.calls k a0_1 true _ A3.out).mono ?_); rintro e w' ⟨rfl, ⟨nd, rfl⟩⟩; refine ⟨_, rfl, ?_⟩))
      go_ret
      exact ⟨by first | rfl | (simp [errW_none, errW_some] <;> rfl) | (simp [*, errW_none, errW_some] <;> rfl), by repeat (first | (with_reducible first | exact HB.out | apply below_alloc | apply pw_below_drewN | apply below_drew1 | refine below_set ?_ GE202.out) | exact HB.out)⟩
    ·rw [if_neg c7] at H
     have c7b0 : decide (0 ≤ a0_3) = false := decide_eq_false c7
     clear c7
     obtain rfl := Option.some.inj H
     go_enter Tryz.func91, Tryz.ntmps91
     go_wp2_with (first | ((with_reducible refine gate_dst (N := 1) rfl ?_); refine box_event ?hg (N := 1) ?hd (cs := #[.string a0_0, .string a0_1, .int .i64 a0_2, .int .i64 a0_3, .int .i64 a0_4]) (t := 47) ?hr ?_; (case hd => rfl); (case hg => rfl); (case hr => first | (go_simp; done) | (go_simp; rfl)); intro gb202 hg w13 hbox hb; have n0_ := Aside0.mk (below_step (by repeat (first | (with_reducible first | exact HB.out | apply below_alloc | apply pw_below_drewN | apply below_drew1) | exact HB.out)) hb); have n1_ := Aside0.mk (hbox); have n2_ := Aside0.mk ((by rw [hg]; exact (below_size (by repeat (first | (with_reducible first | exact HB.out | apply below_alloc | apply pw_below_drewN | apply below_drew1) | exact HB.out))) : w.heap.size ≤ gb202)); have n3_ := Aside0.mk ((by rw [hg]; exact (below_size (by repeat (first | (with_reducible first | exact HB.out | apply below_alloc | apply pw_below_drewN | apply below_drew1) | exact HB.out))) : w.heap.size ≤ gb202)); clear HB; have HB := n0_; have BK202 := n1_; have GW202 := n2_; have GE202 := n3_; clear n0_ n1_ n2_ n3_; clear hb hbox hg; have hcz14_0 : w13.cell? ⟨gb202, 0, none⟩ = some (.string a0_0) := (blk_cell BK202.out 0).trans rfl; have hcz14_1 : w13.cell? ⟨gb202, 1, none⟩ = some (.string a0_1) := (blk_cell BK202.out 1).trans rfl; have hcz14_2 : w13.cell? ⟨gb202, 2, none⟩ = some (.int .i64 a0_2) := (blk_cell BK202.out 2).trans rfl; have hcz14_3 : w13.cell? ⟨gb202, 3, none⟩ = some (.int .i64 a0_3) := (blk_cell BK202.out 3).trans rfl; have hcz14_4 : w13.cell? ⟨gb202, 4, none⟩ = some (.int .i64 a0_4) := (blk_cell BK202.out 4).trans rfl; have hfz14_0 := blk_frozen BK202.out 0; have hfz14_1 := blk_frozen BK202.out 1; have hfz14_2 := blk_frozen BK202.out 2; have hfz14_3 := blk_frozen BK202.out 3; have hfz14_4 := blk_frozen BK202.out 4) | ((with_reducible refine gate_callee (f := 88) rfl ?_); refine goesL_ (some 7) rfl rfl Tryz.func88 (by kernel_rfl) rfl #[.string a0_0] rfl (by (try simp only [List.map_toArray, List.map_cons, List.map_nil]); first | done | rfl | (simp only [List.length_drop, List.length_take]; rfl)) ?_; (with_reducible refine (ref05_Key.calls k a0_0 true _ A2.out).mono ?_); rintro e w' ⟨rfl, ⟨nd, rfl⟩⟩; refine ⟨_, rfl, ?_⟩) | ((with_reducible refine gate_callee (f := 88) rfl ?_); refine goesL_ (some 10) rfl rfl Tryz.func88 (by kernel_rfl) rfl #[.string a0_1] rfl (by (try simp only [List.map_toArray, List.map_cons, List.map_nil]); first | done | rfl | (simp only [List.length_drop, List.length_take]; rfl)) ?_; (with_reducible refine (ref05_Key.calls k a0_1 true _ A3.out).mono ?_); rintro e w' ⟨rfl, ⟨nd, rfl⟩⟩; refine ⟨_, rfl, ?_⟩))
     go_ret
     exact ⟨by first | rfl | (simp [errW_none, errW_some] <;> rfl) | (simp [*, errW_none, errW_some] <;> rfl), by repeat (first | (with_reducible first | exact HB.out | apply below_alloc | apply pw_below_drewN | apply below_drew1 | refine below_set ?_ GE202.out) | exact HB.out)⟩
   ·rw [if_neg c6] at H
    have c6b0 : decide (0 < a0_2) = false := decide_eq_false c6
    clear c6
    obtain rfl := Option.some.inj H
    go_enter Tryz.func91, Tryz.ntmps91
    go_wp2_with (first | ((with_reducible refine gate_dst (N := 1) rfl ?_); refine box_event ?hg (N := 1) ?hd (cs := #[.string a0_0, .string a0_1, .int .i64 a0_2, .int .i64 a0_3, .int .i64 a0_4]) (t := 47) ?hr ?_; (case hd => rfl); (case hg => rfl); (case hr => first | (go_simp; done) | (go_simp; rfl)); intro gb202 hg w15 hbox hb; have n0_ := Aside0.mk (below_step (by repeat (first | (with_reducible first | exact HB.out | apply below_alloc | apply pw_below_drewN | apply below_drew1) | exact HB.out)) hb); have n1_ := Aside0.mk (hbox); have n2_ := Aside0.mk ((by rw [hg]; exact (below_size (by repeat (first | (with_reducible first | exact HB.out | apply below_alloc | apply pw_below_drewN | apply below_drew1) | exact HB.out))) : w.heap.size ≤ gb202)); have n3_ := Aside0.mk ((by rw [hg]; exact (below_size (by repeat (first | (with_reducible first | exact HB.out | apply below_alloc | apply pw_below_drewN | apply below_drew1) | exact HB.out))) : w.heap.size ≤ gb202)); clear HB; have HB := n0_; have BK202 := n1_; have GW202 := n2_; have GE202 := n3_; clear n0_ n1_ n2_ n3_; clear hb hbox hg; have hcz16_0 : w15.cell? ⟨gb202, 0, none⟩ = some (.string a0_0) := (blk_cell BK202.out 0).trans rfl; have hcz16_1 : w15.cell? ⟨gb202, 1, none⟩ = some (.string a0_1) := (blk_cell BK202.out 1).trans rfl; have hcz16_2 : w15.cell? ⟨gb202, 2, none⟩ = some (.int .i64 a0_2) := (blk_cell BK202.out 2).trans rfl; have hcz16_3 : w15.cell? ⟨gb202, 3, none⟩ = some (.int .i64 a0_3) := (blk_cell BK202.out 3).trans rfl; have hcz16_4 : w15.cell? ⟨gb202, 4, none⟩ = some (.int .i64 a0_4) := (blk_cell BK202.out 4).trans rfl; have hfz16_0 := blk_frozen BK202.out 0; have hfz16_1 := blk_frozen BK202.out 1; have hfz16_2 := blk_frozen BK202.out 2; have hfz16_3 := blk_frozen BK202.out 3; have hfz16_4 := blk_frozen BK202.out 4) | ((with_reducible refine gate_callee (f := 88) rfl ?_); refine goesL_ (some 7) rfl rfl Tryz.func88 (by kernel_rfl) rfl #[.string a0_0] rfl (by (try simp only [List.map_toArray, List.map_cons, List.map_nil]); first | done | rfl | (simp only [List.length_drop, List.length_take]; rfl)) ?_; (with_reducible refine (ref05_Key.calls k a0_0 true _ A2.out).mono ?_); rintro e w' ⟨rfl, ⟨nd, rfl⟩⟩; refine ⟨_, rfl, ?_⟩) | ((with_reducible refine gate_callee (f := 88) rfl ?_); refine goesL_ (some 10) rfl rfl Tryz.func88 (by kernel_rfl) rfl #[.string a0_1] rfl (by (try simp only [List.map_toArray, List.map_cons, List.map_nil]); first | done | rfl | (simp only [List.length_drop, List.length_take]; rfl)) ?_; (with_reducible refine (ref05_Key.calls k a0_1 true _ A3.out).mono ?_); rintro e w' ⟨rfl, ⟨nd, rfl⟩⟩; refine ⟨_, rfl, ?_⟩))
    go_ret
    exact ⟨by first | rfl | (simp [errW_none, errW_some] <;> rfl) | (simp [*, errW_none, errW_some] <;> rfl), by repeat (first | (with_reducible first | exact HB.out | apply below_alloc | apply pw_below_drewN | apply below_drew1 | refine below_set ?_ GE202.out) | exact HB.out)⟩
  ·replace c5 := Bool.eq_false_iff.mpr c5
   subst c5
   have H1 : (some false) = some r := by rw [if_neg (show ¬ (false = true) by decide)] at H; exact H
   clear H
   have H := H1
   clear H1
   obtain rfl := Option.some.inj H
   go_enter Tryz.func91, Tryz.ntmps91
   go_wp2_with (first | ((with_reducible refine gate_dst (N := 1) rfl ?_); refine box_event ?hg (N := 1) ?hd (cs := #[.string a0_0, .string a0_1, .int .i64 a0_2, .int .i64 a0_3, .int .i64 a0_4]) (t := 47) ?hr ?_; (case hd => rfl); (case hg => rfl); (case hr => first | (go_simp; done) | (go_simp; rfl)); intro gb202 hg w17 hbox hb; have n0_ := Aside0.mk (below_step (by repeat (first | (with_reducible first | exact HB.out | apply below_alloc | apply pw_below_drewN | apply below_drew1) | exact HB.out)) hb); have n1_ := Aside0.mk (hbox); have n2_ := Aside0.mk ((by rw [hg]; exact (below_size (by repeat (first | (with_reducible first | exact HB.out | apply below_alloc | apply pw_below_drewN | apply below_drew1) | exact HB.out))) : w.heap.size ≤ gb202)); have n3_ := Aside0.mk ((by rw [hg]; exact (below_size (by repeat (first | (with_reducible first | exact HB.out | apply below_alloc | apply pw_below_drewN | apply below_drew1) | exact HB.out))) : w.heap.size ≤ gb202)); clear HB; have HB := n0_; have BK202 := n1_; have GW202 := n2_; have GE202 := n3_; clear n0_ n1_ n2_ n3_; clear hb hbox hg; have hcz18_0 : w17.cell? ⟨gb202, 0, none⟩ = some (.string a0_0) := (blk_cell BK202.out 0).trans rfl; have hcz18_1 : w17.cell? ⟨gb202, 1, none⟩ = some (.string a0_1) := (blk_cell BK202.out 1).trans rfl; have hcz18_2 : w17.cell? ⟨gb202, 2, none⟩ = some (.int .i64 a0_2) := (blk_cell BK202.out 2).trans rfl; have hcz18_3 : w17.cell? ⟨gb202, 3, none⟩ = some (.int .i64 a0_3) := (blk_cell BK202.out 3).trans rfl; have hcz18_4 : w17.cell? ⟨gb202, 4, none⟩ = some (.int .i64 a0_4) := (blk_cell BK202.out 4).trans rfl; have hfz18_0 := blk_frozen BK202.out 0; have hfz18_1 := blk_frozen BK202.out 1; have hfz18_2 := blk_frozen BK202.out 2; have hfz18_3 := blk_frozen BK202.out 3; have hfz18_4 := blk_frozen BK202.out 4) | ((with_reducible refine gate_callee (f := 88) rfl ?_); refine goesL_ (some 7) rfl rfl Tryz.func88 (by kernel_rfl) rfl #[.string a0_0] rfl (by (try simp only [List.map_toArray, List.map_cons, List.map_nil]); first | done | rfl | (simp only [List.length_drop, List.length_take]; rfl)) ?_; (with_reducible refine (ref05_Key.calls k a0_0 true _ A2.out).mono ?_); rintro e w' ⟨rfl, ⟨nd, rfl⟩⟩; refine ⟨_, rfl, ?_⟩) | ((with_reducible refine gate_callee (f := 88) rfl ?_); refine goesL_ (some 10) rfl rfl Tryz.func88 (by kernel_rfl) rfl #[.string a0_1] rfl (by (try simp only [List.map_toArray, List.map_cons, List.map_nil]); first | done | rfl | (simp only [List.length_drop, List.length_take]; rfl)) ?_; (with_reducible refine (ref05_Key.calls k a0_1 false _ A3.out).mono ?_); rintro e w' ⟨rfl, ⟨nd, rfl⟩⟩; refine ⟨_, rfl, ?_⟩))
   go_ret
   exact ⟨by first | rfl | (simp [errW_none, errW_some] <;> rfl) | (simp [*, errW_none, errW_some] <;> rfl), by repeat (first | (with_reducible first | exact HB.out | apply below_alloc | apply pw_below_drewN | apply below_drew1 | refine below_set ?_ GE202.out) | exact HB.out)⟩
 ·replace c4 := Bool.eq_false_iff.mpr c4
  subst c4
  have H1 : (some false) = some r := by rw [if_neg (show ¬ (false = true) by decide)] at H; exact H
  clear H
  have H := H1
  clear H1
  obtain rfl := Option.some.inj H
  go_enter Tryz.func91, Tryz.ntmps91
  go_wp2_with (first | ((with_reducible refine gate_dst (N := 1) rfl ?_); refine box_event ?hg (N := 1) ?hd (cs := #[.string a0_0, .string a0_1, .int .i64 a0_2, .int .i64 a0_3, .int .i64 a0_4]) (t := 47) ?hr ?_; (case hd => rfl); (case hg => rfl); (case hr => first | (go_simp; done) | (go_simp; rfl)); intro gb202 hg w19 hbox hb; have n0_ := Aside0.mk (below_step (by repeat (first | (with_reducible first | exact HB.out | apply below_alloc | apply pw_below_drewN | apply below_drew1) | exact HB.out)) hb); have n1_ := Aside0.mk (hbox); have n2_ := Aside0.mk ((by rw [hg]; exact (below_size (by repeat (first | (with_reducible first | exact HB.out | apply below_alloc | apply pw_below_drewN | apply below_drew1) | exact HB.out))) : w.heap.size ≤ gb202)); have n3_ := Aside0.mk ((by rw [hg]; exact (below_size (by repeat (first | (with_reducible first | exact HB.out | apply below_alloc | apply pw_below_drewN | apply below_drew1) | exact HB.out))) : w.heap.size ≤ gb202)); clear HB; have HB := n0_; have BK202 := n1_; have GW202 := n2_; have GE202 := n3_; clear n0_ n1_ n2_ n3_; clear hb hbox hg; have hcz20_0 : w19.cell? ⟨gb202, 0, none⟩ = some (.string a0_0) := (blk_cell BK202.out 0).trans rfl; have hcz20_1 : w19.cell? ⟨gb202, 1, none⟩ = some (.string a0_1) := (blk_cell BK202.out 1).trans rfl; have hcz20_2 : w19.cell? ⟨gb202, 2, none⟩ = some (.int .i64 a0_2) := (blk_cell BK202.out 2).trans rfl; have hcz20_3 : w19.cell? ⟨gb202, 3, none⟩ = some (.int .i64 a0_3) := (blk_cell BK202.out 3).trans rfl; have hcz20_4 : w19.cell? ⟨gb202, 4, none⟩ = some (.int .i64 a0_4) := (blk_cell BK202.out 4).trans rfl; have hfz20_0 := blk_frozen BK202.out 0; have hfz20_1 := blk_frozen BK202.out 1; have hfz20_2 := blk_frozen BK202.out 2; have hfz20_3 := blk_frozen BK202.out 3; have hfz20_4 := blk_frozen BK202.out 4) | ((with_reducible refine gate_callee (f := 88) rfl ?_); refine goesL_ (some 7) rfl rfl Tryz.func88 (by kernel_rfl) rfl #[.string a0_0] rfl (by (try simp only [List.map_toArray, List.map_cons, List.map_nil]); first | done | rfl | (simp only [List.length_drop, List.length_take]; rfl)) ?_; (with_reducible refine (ref05_Key.calls k a0_0 false _ A2.out).mono ?_); rintro e w' ⟨rfl, ⟨nd, rfl⟩⟩; refine ⟨_, rfl, ?_⟩) | ((with_reducible refine gate_callee (f := 88) rfl ?_); refine goesL_ (some 10) rfl rfl Tryz.func88 (by kernel_rfl) rfl #[.string a0_1] rfl (by (try simp only [List.map_toArray, List.map_cons, List.map_nil]); first | done | rfl | (simp only [List.length_drop, List.length_take]; rfl)) ?_; (with_reducible refine (ref05_Key.calls k a0_1 t204 _ A3.out).mono ?_); rintro e w' ⟨rfl, ⟨nd, rfl⟩⟩; refine ⟨_, rfl, ?_⟩))
  go_ret
  exact ⟨by first | rfl | (simp [errW_none, errW_some] <;> rfl) | (simp [*, errW_none, errW_some] <;> rfl), by repeat (first | (with_reducible first | exact HB.out | apply below_alloc | apply pw_below_drewN | apply below_drew1 | refine below_set ?_ GE202.out) | exact HB.out)⟩

end Go.Proofs.YtmcddoolniaehaaGreat.S
end
section
namespace Go.Proofs.YtmcddoolniaehaaGreat.S
open Go.RowKit Go.Proofs.YtmcddoolniaehaaGreatW.PrintWords Go.Proofs.YtmcddoolniaehaaGreatW.PrintLast Go.Proofs.YtmcddoolniaehaaGreatW.PrintMore Go.Proofs.YtmcddoolniaehaaGreatW
attribute [local go_sem ↓] Go.wp_at_zero Go.wp_at_succ
set_option linter.unusedVariables false
set_option linter.unusedSimpArgs false
def ref07_May.l0 : Nat → List (S47) → Int → Option (Bool)
 | 0, _, _ => none
 | k + 1, x0, x3 => if x3 < (x0.length : Int) then (if 0 ≤ x3 then ((ref07_one.f k ((rd_T47 x0 x3).f0) ((rd_T47 x0 x3).f1) ((rd_T47 x0 x3).f2) ((rd_T47 x0 x3).f3.f0) ((rd_T47 x0 x3).f3.f1)).bind fun t235 => (if t235 = true then (if x3 > 0 then (if 0 ≤ (wrap64 (x3 - 1)) then (if (wrap64 (x3 - 1)) < (x0.length : Int) then (if ((Op.bytesLess (((rd_T47 x0 (wrap64 (x3 - 1))).f0).toList) (((rd_T47 x0 x3).f0).toList)) = true) then (ref07_May.l0 k x0 (wrap64 (x3 + 1))) else (some false)) else (none)) else (none)) else (ref07_May.l0 k x0 (wrap64 (x3 + 1)))) else (some false))) else (none)) else (some true)
def ref07_May.f (k : Nat) (l0 : List (S47)) : Option (Bool) := ref07_May.l0 k l0 0
theorem ref07_May.mono_l : ∀ k, (∀ y0 y1, LeO (ref07_May.l0 k y0 y1) (ref07_May.l0 (k + 1) y0 y1))
 | 0 => fun _ _ r h => by simp [ref07_May.l0] at h
 | k + 1 => by
  have ih0 := ref07_May.mono_l k
  ·intro y0 y1
   unfold ref07_May.l0
   repeat' first
   | (with_reducible exact ih0 _ _)
   | (with_reducible exact ref07_one.mono _ _ _ _ _ _)
   | (with_reducible exact LeO.refl _)
   | (with_reducible exact LeO.none _)
   | (with_reducible refine LeO.ite ?_ ?_)
   | (with_reducible refine LeO.bind ?_ (fun _ => ?_))
   | exact ih0 _ _
   | exact ref07_one.mono _ _ _ _ _ _
   | exact LeO.none _
   | refine LeO.ite ?_ ?_
   | refine LeO.bind ?_ (fun _ => ?_)
theorem ref07_May.mono : ∀ a0 k, LeO (ref07_May.f k a0) (ref07_May.f (k + 1) a0) := by
 intro a0 k
 have ih0 := ref07_May.mono_l k
 unfold ref07_May.f
 repeat' first
   | (with_reducible exact ih0 _ _)
   | (with_reducible exact ref07_one.mono _ _ _ _ _ _)
   | (with_reducible exact LeO.refl _)
   | (with_reducible exact LeO.none _)
   | (with_reducible refine LeO.ite ?_ ?_)
   | (with_reducible refine LeO.bind ?_ (fun _ => ?_))
   | exact ih0 _ _
   | exact ref07_one.mono _ _ _ _ _ _
   | exact LeO.none _
   | refine LeO.ite ?_ ?_
   | refine LeO.bind ?_ (fun _ => ?_)
theorem ref07_May.step {k1 : Nat} {l0 : List (S47)} {x : Int} {r : Bool} (H : ref07_May.l0 (k1 + 1) l0 x = some r) (c2 : x < (l0.length : Int)) :
    0 ≤ x ∧ (∃ t, ref07_one.f k1 (rd_T47 l0 x).f0 (rd_T47 l0 x).f1 (rd_T47 l0 x).f2 (rd_T47 l0 x).f3.f0 (rd_T47 l0 x).f3.f1 = some t ∧ (t = false ∧ r = false ∨ t = true ∧ (decide (0 < x) = false ∧ ref07_May.l0 k1 l0 (wrap64 (x + 1)) = some r ∨ decide (0 < x) = true ∧ 0 ≤ wrap64 (x - 1) ∧ wrap64 (x - 1) < (l0.length : Int) ∧ ∃ b, Op.bytesLess (rd_T47 l0 (wrap64 (x - 1))).f0.toList (rd_T47 l0 x).f0.toList = b ∧ (b = true ∧ ref07_May.l0 k1 l0 (wrap64 (x + 1)) = some r ∨ b = false ∧ r = false)))) := by
  simp only [ref07_May.l0] at H
  rw [if_pos c2] at H
  by_cases c3 : 0 ≤ x
  rotate_left
  · rw [if_neg c3] at H; cases H
  rw [if_pos c3] at H
  refine ⟨c3, ?_⟩
  obtain ⟨t, h1, H⟩ := Option.bind_eq_some_iff.mp H
  refine ⟨t, h1, ?_⟩
  rcases t with _ | _
  · exact .inl ⟨rfl, by simpa using H.symm⟩
  rw [if_pos rfl] at H
  refine .inr ⟨rfl, ?_⟩
  by_cases z : 0 < x
  rotate_left
  · rw [if_neg z] at H; exact .inl ⟨decide_eq_false z, H⟩
  rw [if_pos z] at H
  by_cases c9 : 0 ≤ wrap64 (x - 1)
  rotate_left
  · rw [if_neg c9] at H; cases H
  rw [if_pos c9] at H
  by_cases c10 : wrap64 (x - 1) < (l0.length : Int)
  rotate_left
  · rw [if_neg c10] at H; cases H
  rw [if_pos c10] at H
  refine .inr ⟨decide_eq_true z, c9, c10, _, rfl, ?_⟩
  cases hb : Op.bytesLess (rd_T47 l0 (wrap64 (x - 1))).f0.toList (rd_T47 l0 x).f0.toList with
  | true => rw [hb, if_pos rfl] at H; exact .inl ⟨rfl, H⟩
  | false => rw [hb] at H; exact .inr ⟨rfl, by simpa using H.symm⟩
set_option maxHeartbeats 8000000 in
set_option maxRecDepth 100000 in
theorem ref07_May.calls (k : Nat) (A0 : Option Addr) (c0 : Nat) (l0 : List (S47)) (r : Bool) (w : World) (hr0 : Kd.C k47 w A0 l0.length l0) (hc0 : l0.length ≤ c0) (h : ref07_May.f k l0 = some r) :
    Calls Tryz.prog 48 #[.slice A0 l0.length c0] w fun e w' => e = .returned (.bool r) ∧ Below w.heap.size w w' := by
  have hu := Tryz.underlying47
  have HR := Aside0.mk hr0
  have H' := Aside0.mk (show ref07_May.l0 k l0 0 = some r from h)
  clear hr0 hc0 h
  go_enter Tryz.func48, Tryz.ntmps48
  go_wp2
  go_loopg [3] k (fun kq v w' => ∃ x : Int, v = .int .i64 x ∧ Aside0 (ref07_May.l0 kq l0 x = some r) ∧ Aside0 (kq ≤ k) ∧ Aside0 (Below w.heap.size w w'))
  case atStart => exact ⟨0, rfl, H', ⟨Nat.le_refl _⟩, ⟨Below.refl _ _⟩⟩
  case round =>
    clear H'
    obtain ⟨x, rfl, HA, HK1, HB⟩ := hrel
    cases gk with
    | zero => exact absurd HA.out (by simp [ref07_May.l0])
    | succ k1 =>
      by_cases c2 : x < (l0.length : Int)
      · obtain ⟨c3, t, hK1, H⟩ := ref07_May.step HA.out c2
        obtain ⟨ad, e, hx0, hx1, hx2, hx3, hx4⟩ := at_T47 HR.out x c3 c2
        cases e
        have hz0 := (HB.out.cell (World.block_lt_of_cell? w _ hx0)).trans hx0; have hz1 := (HB.out.cell (World.block_lt_of_cell? w _ hx1)).trans hx1; have hz2 := (HB.out.cell (World.block_lt_of_cell? w _ hx2)).trans hx2; have hz3 := (HB.out.cell (World.block_lt_of_cell? w _ hx3)).trans hx3; have hz4 := (HB.out.cell (World.block_lt_of_cell? w _ hx4)).trans hx4
        have H0 := Aside0.mk H
        have K1 := Aside0.mk (fun W : World => ref07_one.calls _ _ _ _ _ _ _ W hK1)
        clear H HA hK1
        generalize rd_T47 l0 x = e at *
        have p1 := eq_true c3
        have q1 := eq_true c2
        go_wp2_with fail
        refine (K1.out _).mono ?_
        rintro e1 w1 ⟨rfl, hb⟩
        have hBX := Aside0.mk (below_step HB.out hb)
        clear hb HB K1 hz0 hz1 hz2 hz3 hz4
        go_wp2_with fail
        rcases H0.out with ⟨rfl, rfl⟩ | ⟨rfl, ⟨xb, H⟩ | ⟨xb, y0, y1, b, hb, H⟩⟩
        rotate_right
        · have hji := wrapIn y1 y0
          generalize wrap64 (x - 1) = j at *
          obtain ⟨ad2, e2, hy0, hy1, hy2, hy3, hy4⟩ := at_T47 HR.out j y0 y1
          cases e2
          generalize rd_T47 l0 j = y at *
          have y2 := eq_true y0
          have y3 := eq_true y1
          refine in_ (n := 20) (S := Below w.heap.size w) (by kernel_rfl) rfl (below_drew hBX.out) (fun hHeld => ?_)
          repeat (first
            | (refine run_ (v := ?_) (a' := ?_) rfl rfl hHeld ?_ ?_ ?_; rotate_left; (focus (intro w2 hs; have ux0 := (hs.cell (World.block_lt_of_cell? w _ hx0)).trans hx0; have uy0 := (hs.cell (World.block_lt_of_cell? w _ hy0)).trans hy0; go_simp; with_reducible rfl)); rotate_left; (focus (simp only [Act.put, sqA, sqB, sqC] <;> rfl)))
            | (refine skip_ (a' := ?_) rfl rfl hHeld ?_ ?_; rotate_left; (focus (simp only [Act.put, sqA, sqB, sqC] <;> rfl))))
          refine wpAnyH_done (by kernel_rfl) ?_ _
          rcases H with ⟨rfl, H⟩ | ⟨rfl, rfl⟩
          all_goals first | (go_wp2; go_ret; exact ⟨rfl, hHeld⟩) | (go_wp2; go_roundg k1; (case measure => have := HK1.out; omega); (case rel => exact ⟨wrap64 (x + 1), rfl, ⟨H⟩, ⟨by have := HK1.out; omega⟩, ⟨hHeld⟩⟩))
        all_goals
          refine in_ (n := 20) (S := Below w.heap.size w) (by kernel_rfl) rfl (below_drew hBX.out) (fun hHeld => ?_)
          repeat (first
            | (refine run_ (v := ?_) (a' := ?_) rfl rfl hHeld ?_ ?_ ?_; rotate_left; (focus (intro w2 hs; have ux0 := (hs.cell (World.block_lt_of_cell? w _ hx0)).trans hx0; go_simp; with_reducible rfl)); rotate_left; (focus (simp only [Act.put, sqA, sqB, sqC] <;> rfl)))
            | (refine skip_ (a' := ?_) rfl rfl hHeld ?_ ?_; rotate_left; (focus (simp only [Act.put, sqA, sqB, sqC] <;> rfl))))
          refine wpAnyH_done (by kernel_rfl) ?_ _
          first | (go_wp2; go_ret; exact ⟨rfl, hHeld⟩) | (go_wp2; go_roundg k1; (case measure => have := HK1.out; omega); (case rel => exact ⟨wrap64 (x + 1), rfl, ⟨H⟩, ⟨by have := HK1.out; omega⟩, ⟨hHeld⟩⟩))
      · have q1 := decide_eq_false c2
        have H := HA.out
        simp only [ref07_May.l0] at H
        rw [if_neg c2] at H
        cases H
        go_wp2
        go_ret
        exact ⟨rfl, HB.out⟩
end Go.Proofs.YtmcddoolniaehaaGreat.S
end
