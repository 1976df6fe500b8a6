/- Several of the walk's texts in one: Sx13, SHSSame, SHCtrMerge, SHRegGet. -/
import Derived.BigQuiet
import Derived.Lib.SliceRun
import Derived.Test.YtmcddoolniaehaaGreatMD04
import Derived.Test.YtmcddoolniaehaaGreatMD05
import Derived.Test.YtmcddoolniaehaaGreatMD14
section
namespace Go.Proofs.YtmcddoolniaehaaGreat.S
open Go.RowKit Go.Proofs.YtmcddoolniaehaaGreatW.PrintWords Go.Proofs.YtmcddoolniaehaaGreatW.PrintLast Go.Proofs.YtmcddoolniaehaaGreatW.PrintMore
attribute [local go_sem] max2_int min2_int max_two min_two max_three min_three max_four min_four   -- for this text's walks alone
set_option linter.unusedVariables false
set_option linter.unusedSimpArgs false

attribute [local go_sem high] eqA43 eqA47 eqA73
def api_Ctr.l0 : Nat → List (S73) → List (S73) → Int → Int → Option (Bool)
 | 0, _, _, _, _ => none
 | k + 1, x0, x1, x12, x13 => if x13 < x12 then (if 0 ≤ x13 then (if x13 < (x0.length : Int) then (if x13 < (x1.length : Int) then (if (!((((rd_T73 x0 x13).f0).toList) == (((rd_T73 x1 x13).f0).toList)) || (!(((rd_T73 x0 x13).f1) == ((rd_T73 x1 x13).f1)))) = true then (some false) else (api_Ctr.l0 k x0 x1 x12 (wrap64 (x13 + 1)))) else (none)) else (none)) else (none)) else (some true)
def api_Ctr.f (k : Nat) (l0 : List (S73)) (l1 : List (S73)) : Option (Bool) := if (l0.length : Int) = (l1.length : Int) then (api_Ctr.l0 k l0 l1 (l0.length : Int) 0) else (some false)
theorem api_Ctr.mono_l : ∀ k, (∀ y0 y1 y2 y3, LeO (api_Ctr.l0 k y0 y1 y2 y3) (api_Ctr.l0 (k + 1) y0 y1 y2 y3))
 | 0 => fun _ _ _ _ r h => by simp [api_Ctr.l0] at h
 | k + 1 => by
  have ih0 := api_Ctr.mono_l k
  ·intro y0 y1 y2 y3
   unfold api_Ctr.l0
   repeat' first
   | (with_reducible exact ih0 _ _ _ _)
   | (with_reducible exact LeO.refl _)
   | (with_reducible exact LeO.none _)
   | (with_reducible refine LeO.ite ?_ ?_)
   | (with_reducible refine LeO.bind ?_ (fun _ => ?_))
   | exact ih0 _ _ _ _
   | exact LeO.none _
   | refine LeO.ite ?_ ?_
   | refine LeO.bind ?_ (fun _ => ?_)
theorem api_Ctr.mono : ∀ a0 a1 k, LeO (api_Ctr.f k a0 a1) (api_Ctr.f (k + 1) a0 a1) := by
 intro a0 a1 k
 have ih0 := api_Ctr.mono_l k
 unfold api_Ctr.f
 repeat' first
   | (with_reducible exact ih0 _ _ _ _)
   | (with_reducible exact LeO.refl _)
   | (with_reducible exact LeO.none _)
   | (with_reducible refine LeO.ite ?_ ?_)
   | (with_reducible refine LeO.bind ?_ (fun _ => ?_))
   | exact ih0 _ _ _ _
   | exact LeO.none _
   | refine LeO.ite ?_ ?_
   | refine LeO.bind ?_ (fun _ => ?_)
set_option maxHeartbeats 8000000 in
set_option maxRecDepth 100000 in
theorem api_Ctr.calls (k : Nat) (A0 : Option Addr) (c0 : Nat) (l0 : List (S73)) (A1 : Option Addr) (c1 : Nat) (l1 : List (S73)) (r : Bool) (w : World) (hr0 : Kd.C k73 w A0 l0.length l0) (hc0 : l0.length ≤ c0) (hr1 : Kd.C k73 w A1 l1.length l1) (hc1 : l1.length ≤ c1) (h : api_Ctr.f k l0 l1 = some r) :
  Calls Tryz.prog 67 #[.slice A0 l0.length c0, .slice A1 l1.length c1] w fun e w' => e = .returned (.bool r) ∧ Drawn0 w w' := by
 have hu73 := Tryz.underlying73
 have HR0 := Aside0.mk hr0
 have HC0 := Aside0.mk hc0
 clear hr0 hc0
 have HR1 := Aside0.mk hr1
 have HC1 := Aside0.mk hc1
 clear hr1 hc1
 have H : (if (l0.length : Int) = (l1.length : Int) then (api_Ctr.l0 k l0 l1 (l0.length : Int) 0) else (some false)) = some r := h
 clear h
 by_cases c3 : (l0.length : Int) = (l1.length : Int)
 ·rw [if_pos c3] at H
  have c3b0 : ((l0.length : Int) == (l1.length : Int)) = true := beq_iff_eq.mpr c3
  have c3b1 : ((l0.length : Int) != (l1.length : Int)) = false := bne_eq_false_iff_eq.mpr c3
  have c3b2 : (l0.length == l1.length) = true := by first | simpa using c3 | (simp at c3 ⊢; omega)
  clear c3
  have H' := Aside0.mk H
  clear H
  go_enter Tryz.func67, Tryz.ntmps67
  go_wp2
  repeat (go_quiet (fail); try go_wp2)
  go_loopg [13] k (fun kq v13 w' => ∃ (x13_1 : Int), v13 = .int .i64 x13_1 ∧ Aside0 (api_Ctr.l0 kq l0 l1 (l0.length : Int) x13_1 = some r) ∧ Aside0 (kq ≤ k) ∧ Drawn0 w w')
  case atStart => exact ⟨(0), (by first | rfl | (simp; done) | (simp [*]; done)), H', ⟨Nat.le_refl _⟩, by repeat (first | exact Drawn0.refl _ | apply Drawn0.step)⟩
  case round =>
   clear H'
   try clear c1
   try clear p2
   try clear c3
   try clear c3b0
   try clear c3b1
   try clear c3b2
   obtain ⟨x13_1, rfl, HA, HK1, ⟨m1, rfl⟩⟩ := hrel
   cases gk with
   | zero => exact absurd HA.out (by simp [api_Ctr.l0])
   | succ k1 =>
    have H := HA.out
    clear HA
    simp only [api_Ctr.l0] at H
    by_cases c4 : x13_1 < (l0.length : Int)
    ·rw [if_pos c4] at H
     have c4b0 : decide (x13_1 < (l0.length : Int)) = true := decide_eq_true c4
     clear c4
     by_cases c5 : 0 ≤ x13_1
     ·rw [if_pos c5] at H
      have c5b0 : decide (0 ≤ x13_1) = true := decide_eq_true c5
      clear c5
      by_cases c6 : x13_1 < (l0.length : Int)
      ·rw [if_pos c6] at H
       have c6b0 : decide (x13_1 < (l0.length : Int)) = true := decide_eq_true c6
       clear c6
       by_cases c7 : x13_1 < (l1.length : Int)
       ·rw [if_pos c7] at H
        have c7b0 : decide (x13_1 < (l1.length : Int)) = true := decide_eq_true c7
        clear c7
        by_cases c8 : (!((((rd_T73 l0 x13_1).f0).toList) == (((rd_T73 l1 x13_1).f0).toList)) || (!(((rd_T73 l0 x13_1).f1) == ((rd_T73 l1 x13_1).f1)))) = true
        ·rw [if_pos c8] at H
         have c8b0 : (!((((rd_T73 l0 x13_1).f0).toList) == (((rd_T73 l1 x13_1).f0).toList)) || (!(((rd_T73 l0 x13_1).f1) == ((rd_T73 l1 x13_1).f1)))) = true := c8
         clear c8
         obtain rfl := Option.some.inj H
         have p163 : 0 ≤ (x13_1 : Int) := of_decide_eq_true (by first | (with_reducible assumption) | assumption)
         have q163 : x13_1 < (l0.length : Int) := of_decide_eq_true (by first | (with_reducible assumption) | assumption)
         obtain ⟨ad163, e163, hx163_0, hx163_1⟩ := at_T73 HR0.out x13_1 p163 q163
         cases e163
         replace p163 := eq_true p163
         replace q163 := eq_true q163
         have p164 : 0 ≤ (x13_1 : Int) := of_decide_eq_true (by first | (with_reducible assumption) | assumption)
         have q164 : x13_1 < (l1.length : Int) := of_decide_eq_true (by first | (with_reducible assumption) | assumption)
         obtain ⟨ad164, e164, hx164_0, hx164_1⟩ := at_T73 HR1.out x13_1 p164 q164
         cases e164
         replace p164 := eq_true p164
         replace q164 := eq_true q164
         go_wp2
         repeat (go_quiet (fail); try go_wp2)
         go_ret
         exact ⟨by first | rfl | (simp; done) | (simp [*]; done), by repeat (first | exact Drawn0.refl _ | apply Drawn0.step)⟩
        ·rw [if_neg c8] at H
         have c8b0 : (!((((rd_T73 l0 x13_1).f0).toList) == (((rd_T73 l1 x13_1).f0).toList)) || (!(((rd_T73 l0 x13_1).f1) == ((rd_T73 l1 x13_1).f1)))) = false := by simpa using c8
         clear c8
         have H' := Aside0.mk H
         clear H
         have p163 : 0 ≤ (x13_1 : Int) := of_decide_eq_true (by first | (with_reducible assumption) | assumption)
         have q163 : x13_1 < (l0.length : Int) := of_decide_eq_true (by first | (with_reducible assumption) | assumption)
         obtain ⟨ad163, e163, hx163_0, hx163_1⟩ := at_T73 HR0.out x13_1 p163 q163
         cases e163
         replace p163 := eq_true p163
         replace q163 := eq_true q163
         have p164 : 0 ≤ (x13_1 : Int) := of_decide_eq_true (by first | (with_reducible assumption) | assumption)
         have q164 : x13_1 < (l1.length : Int) := of_decide_eq_true (by first | (with_reducible assumption) | assumption)
         obtain ⟨ad164, e164, hx164_0, hx164_1⟩ := at_T73 HR1.out x13_1 p164 q164
         cases e164
         replace p164 := eq_true p164
         replace q164 := eq_true q164
         go_wp2
         repeat (go_quiet (fail); try go_wp2)
         go_roundg k1
         case measure => have := HK1.out; omega
         case rel => exact ⟨(wrap64 (x13_1 + 1)), (by first | rfl | (simp; done) | (simp [*]; done)), H', ⟨by have := HK1.out; omega⟩, by repeat (first | exact Drawn0.refl _ | apply Drawn0.step)⟩
       ·rw [if_neg c7] at H
        exact absurd H (by simp)
      ·rw [if_neg c6] at H
       exact absurd H (by simp)
     ·rw [if_neg c5] at H
      exact absurd H (by simp)
    ·rw [if_neg c4] at H
     have c4b0 : decide (x13_1 < (l0.length : Int)) = false := decide_eq_false c4
     clear c4
     obtain rfl := Option.some.inj H
     go_wp2
     repeat (go_quiet (fail); try go_wp2)
     go_ret
     exact ⟨by first | rfl | (simp; done) | (simp [*]; done), by repeat (first | exact Drawn0.refl _ | apply Drawn0.step)⟩
 ·rw [if_neg c3] at H
  have c3b0 : ((l0.length : Int) == (l1.length : Int)) = false := beq_eq_false_iff_ne.mpr c3
  have c3b1 : ((l0.length : Int) != (l1.length : Int)) = true := bne_iff_ne.mpr c3
  have c3b2 : (l0.length == l1.length) = false := by first | simpa using c3 | (simp at c3 ⊢; omega)
  obtain rfl := Option.some.inj H
  go_enter Tryz.func67, Tryz.ntmps67
  go_wp2
  repeat (go_quiet (fail); try go_wp2)
  go_ret
  exact ⟨by first | rfl | (simp; done) | (simp [*]; done), by repeat (first | exact Drawn0.refl _ | apply Drawn0.step)⟩

def api_Reg.l0 : Nat → List (S47) → List (S47) → Int → Int → Option (Bool)
 | 0, _, _, _, _ => none
 | k + 1, x0, x1, x12, x13 => if x13 < x12 then (if 0 ≤ x13 then (if x13 < (x0.length : Int) then (if x13 < (x1.length : Int) then (if (!((((rd_T47 x0 x13).f0).toList) == (((rd_T47 x1 x13).f0).toList)) || (!((((rd_T47 x0 x13).f1).toList) == (((rd_T47 x1 x13).f1).toList)) || (!(((rd_T47 x0 x13).f2) == ((rd_T47 x1 x13).f2)) || ((!(((rd_T47 x0 x13).f3.f0) == ((rd_T47 x1 x13).f3.f0)) || (!(((rd_T47 x0 x13).f3.f1) == ((rd_T47 x1 x13).f3.f1)))))))) = true then (some false) else (api_Reg.l0 k x0 x1 x12 (wrap64 (x13 + 1)))) else (none)) else (none)) else (none)) else (some true)
def api_Reg.f (k : Nat) (l0 : List (S47)) (l1 : List (S47)) : Option (Bool) := if (l0.length : Int) = (l1.length : Int) then (api_Reg.l0 k l0 l1 (l0.length : Int) 0) else (some false)
theorem api_Reg.mono_l : ∀ k, (∀ y0 y1 y2 y3, LeO (api_Reg.l0 k y0 y1 y2 y3) (api_Reg.l0 (k + 1) y0 y1 y2 y3))
 | 0 => fun _ _ _ _ r h => by simp [api_Reg.l0] at h
 | k + 1 => by
  have ih0 := api_Reg.mono_l k
  ·intro y0 y1 y2 y3
   unfold api_Reg.l0
   repeat' first
   | (with_reducible exact ih0 _ _ _ _)
   | (with_reducible exact LeO.refl _)
   | (with_reducible exact LeO.none _)
   | (with_reducible refine LeO.ite ?_ ?_)
   | (with_reducible refine LeO.bind ?_ (fun _ => ?_))
   | exact ih0 _ _ _ _
   | exact LeO.none _
   | refine LeO.ite ?_ ?_
   | refine LeO.bind ?_ (fun _ => ?_)
theorem api_Reg.mono : ∀ a0 a1 k, LeO (api_Reg.f k a0 a1) (api_Reg.f (k + 1) a0 a1) := by
 intro a0 a1 k
 have ih0 := api_Reg.mono_l k
 unfold api_Reg.f
 repeat' first
   | (with_reducible exact ih0 _ _ _ _)
   | (with_reducible exact LeO.refl _)
   | (with_reducible exact LeO.none _)
   | (with_reducible refine LeO.ite ?_ ?_)
   | (with_reducible refine LeO.bind ?_ (fun _ => ?_))
   | exact ih0 _ _ _ _
   | exact LeO.none _
   | refine LeO.ite ?_ ?_
   | refine LeO.bind ?_ (fun _ => ?_)
set_option maxHeartbeats 8000000 in
set_option maxRecDepth 100000 in
theorem api_Reg.calls (k : Nat) (A0 : Option Addr) (c0 : Nat) (l0 : List (S47)) (A1 : Option Addr) (c1 : Nat) (l1 : List (S47)) (r : Bool) (w : World) (hr0 : Kd.C k47 w A0 l0.length l0) (hc0 : l0.length ≤ c0) (hr1 : Kd.C k47 w A1 l1.length l1) (hc1 : l1.length ≤ c1) (h : api_Reg.f k l0 l1 = some r) :
  Calls Tryz.prog 68 #[.slice A0 l0.length c0, .slice A1 l1.length c1] w fun e w' => e = .returned (.bool r) ∧ Drawn0 w w' := by
 have hu47 := Tryz.underlying47
 have HR0 := Aside0.mk hr0
 have HC0 := Aside0.mk hc0
 clear hr0 hc0
 have HR1 := Aside0.mk hr1
 have HC1 := Aside0.mk hc1
 clear hr1 hc1
 have H : (if (l0.length : Int) = (l1.length : Int) then (api_Reg.l0 k l0 l1 (l0.length : Int) 0) else (some false)) = some r := h
 clear h
 by_cases c3 : (l0.length : Int) = (l1.length : Int)
 ·rw [if_pos c3] at H
  have c3b0 : ((l0.length : Int) == (l1.length : Int)) = true := beq_iff_eq.mpr c3
  have c3b1 : ((l0.length : Int) != (l1.length : Int)) = false := bne_eq_false_iff_eq.mpr c3
  have c3b2 : (l0.length == l1.length) = true := by first | simpa using c3 | (simp at c3 ⊢; omega)
  clear c3
  have H' := Aside0.mk H
  clear H
  go_enter Tryz.func68, Tryz.ntmps68
  go_wp2
  repeat (go_quiet (fail); try go_wp2)
  go_loopg [13] k (fun kq v13 w' => ∃ (x13_1 : Int), v13 = .int .i64 x13_1 ∧ Aside0 (api_Reg.l0 kq l0 l1 (l0.length : Int) x13_1 = some r) ∧ Aside0 (kq ≤ k) ∧ Drawn0 w w')
  case atStart => exact ⟨(0), (by first | rfl | (simp; done) | (simp [*]; done)), H', ⟨Nat.le_refl _⟩, by repeat (first | exact Drawn0.refl _ | apply Drawn0.step)⟩
  case round =>
   clear H'
   try clear c1
   try clear p2
   try clear c3
   try clear c3b0
   try clear c3b1
   try clear c3b2
   obtain ⟨x13_1, rfl, HA, HK1, ⟨m1, rfl⟩⟩ := hrel
   cases gk with
   | zero => exact absurd HA.out (by simp [api_Reg.l0])
   | succ k1 =>
    have H := HA.out
    clear HA
    simp only [api_Reg.l0] at H
    by_cases c4 : x13_1 < (l0.length : Int)
    ·rw [if_pos c4] at H
     have c4b0 : decide (x13_1 < (l0.length : Int)) = true := decide_eq_true c4
     clear c4
     by_cases c5 : 0 ≤ x13_1
     ·rw [if_pos c5] at H
      have c5b0 : decide (0 ≤ x13_1) = true := decide_eq_true c5
      clear c5
      by_cases c6 : x13_1 < (l0.length : Int)
      ·rw [if_pos c6] at H
       have c6b0 : decide (x13_1 < (l0.length : Int)) = true := decide_eq_true c6
       clear c6
       by_cases c7 : x13_1 < (l1.length : Int)
       ·rw [if_pos c7] at H
        have c7b0 : decide (x13_1 < (l1.length : Int)) = true := decide_eq_true c7
        clear c7
        by_cases c8 : (!((((rd_T47 l0 x13_1).f0).toList) == (((rd_T47 l1 x13_1).f0).toList)) || (!((((rd_T47 l0 x13_1).f1).toList) == (((rd_T47 l1 x13_1).f1).toList)) || (!(((rd_T47 l0 x13_1).f2) == ((rd_T47 l1 x13_1).f2)) || ((!(((rd_T47 l0 x13_1).f3.f0) == ((rd_T47 l1 x13_1).f3.f0)) || (!(((rd_T47 l0 x13_1).f3.f1) == ((rd_T47 l1 x13_1).f3.f1)))))))) = true
        ·rw [if_pos c8] at H
         have c8b0 : (!((((rd_T47 l0 x13_1).f0).toList) == (((rd_T47 l1 x13_1).f0).toList)) || (!((((rd_T47 l0 x13_1).f1).toList) == (((rd_T47 l1 x13_1).f1).toList)) || (!(((rd_T47 l0 x13_1).f2) == ((rd_T47 l1 x13_1).f2)) || ((!(((rd_T47 l0 x13_1).f3.f0) == ((rd_T47 l1 x13_1).f3.f0)) || (!(((rd_T47 l0 x13_1).f3.f1) == ((rd_T47 l1 x13_1).f3.f1)))))))) = true := c8
         clear c8
         obtain rfl := Option.some.inj H
         have p165 : 0 ≤ (x13_1 : Int) := of_decide_eq_true (by first | (with_reducible assumption) | assumption)
         have q165 : x13_1 < (l0.length : Int) := of_decide_eq_true (by first | (with_reducible assumption) | assumption)
         obtain ⟨ad165, e165, hx165_0, hx165_1, hx165_2, hx165_3, hx165_4⟩ := at_T47 HR0.out x13_1 p165 q165
         cases e165
         replace p165 := eq_true p165
         replace q165 := eq_true q165
         have p166 : 0 ≤ (x13_1 : Int) := of_decide_eq_true (by first | (with_reducible assumption) | assumption)
         have q166 : x13_1 < (l1.length : Int) := of_decide_eq_true (by first | (with_reducible assumption) | assumption)
         obtain ⟨ad166, e166, hx166_0, hx166_1, hx166_2, hx166_3, hx166_4⟩ := at_T47 HR1.out x13_1 p166 q166
         cases e166
         replace p166 := eq_true p166
         replace q166 := eq_true q166
         go_wp2
         repeat (go_quiet (fail); try go_wp2)
         go_ret
         exact ⟨by first | rfl | (simp; done) | (simp [*]; done), by repeat (first | exact Drawn0.refl _ | apply Drawn0.step)⟩
        ·rw [if_neg c8] at H
         have c8b0 : (!((((rd_T47 l0 x13_1).f0).toList) == (((rd_T47 l1 x13_1).f0).toList)) || (!((((rd_T47 l0 x13_1).f1).toList) == (((rd_T47 l1 x13_1).f1).toList)) || (!(((rd_T47 l0 x13_1).f2) == ((rd_T47 l1 x13_1).f2)) || ((!(((rd_T47 l0 x13_1).f3.f0) == ((rd_T47 l1 x13_1).f3.f0)) || (!(((rd_T47 l0 x13_1).f3.f1) == ((rd_T47 l1 x13_1).f3.f1)))))))) = false := by simpa using c8
         clear c8
         have H' := Aside0.mk H
         clear H
         have p165 : 0 ≤ (x13_1 : Int) := of_decide_eq_true (by first | (with_reducible assumption) | assumption)
         have q165 : x13_1 < (l0.length : Int) := of_decide_eq_true (by first | (with_reducible assumption) | assumption)
         obtain ⟨ad165, e165, hx165_0, hx165_1, hx165_2, hx165_3, hx165_4⟩ := at_T47 HR0.out x13_1 p165 q165
         cases e165
         replace p165 := eq_true p165
         replace q165 := eq_true q165
         have p166 : 0 ≤ (x13_1 : Int) := of_decide_eq_true (by first | (with_reducible assumption) | assumption)
         have q166 : x13_1 < (l1.length : Int) := of_decide_eq_true (by first | (with_reducible assumption) | assumption)
         obtain ⟨ad166, e166, hx166_0, hx166_1, hx166_2, hx166_3, hx166_4⟩ := at_T47 HR1.out x13_1 p166 q166
         cases e166
         replace p166 := eq_true p166
         replace q166 := eq_true q166
         go_wp2
         repeat (go_quiet (fail); try go_wp2)
         go_roundg k1
         case measure => have := HK1.out; omega
         case rel => exact ⟨(wrap64 (x13_1 + 1)), (by first | rfl | (simp; done) | (simp [*]; done)), H', ⟨by have := HK1.out; omega⟩, by repeat (first | exact Drawn0.refl _ | apply Drawn0.step)⟩
       ·rw [if_neg c7] at H
        exact absurd H (by simp)
      ·rw [if_neg c6] at H
       exact absurd H (by simp)
     ·rw [if_neg c5] at H
      exact absurd H (by simp)
    ·rw [if_neg c4] at H
     have c4b0 : decide (x13_1 < (l0.length : Int)) = false := decide_eq_false c4
     clear c4
     obtain rfl := Option.some.inj H
     go_wp2
     repeat (go_quiet (fail); try go_wp2)
     go_ret
     exact ⟨by first | rfl | (simp; done) | (simp [*]; done), by repeat (first | exact Drawn0.refl _ | apply Drawn0.step)⟩
 ·rw [if_neg c3] at H
  have c3b0 : ((l0.length : Int) == (l1.length : Int)) = false := beq_eq_false_iff_ne.mpr c3
  have c3b1 : ((l0.length : Int) != (l1.length : Int)) = true := bne_iff_ne.mpr c3
  have c3b2 : (l0.length == l1.length) = false := by first | simpa using c3 | (simp at c3 ⊢; omega)
  obtain rfl := Option.some.inj H
  go_enter Tryz.func68, Tryz.ntmps68
  go_wp2
  repeat (go_quiet (fail); try go_wp2)
  go_ret
  exact ⟨by first | rfl | (simp; done) | (simp [*]; done), by repeat (first | exact Drawn0.refl _ | apply Drawn0.step)⟩

def api_Pair.l0 : Nat → List (S43) → List (S43) → Int → Int → Option (Bool)
 | 0, _, _, _, _ => none
 | k + 1, x0, x1, x12, x13 => if x13 < x12 then (if 0 ≤ x13 then (if x13 < (x0.length : Int) then (if x13 < (x1.length : Int) then (if (!((((rd_T43 x0 x13).f0).toList) == (((rd_T43 x1 x13).f0).toList)) || (!((((rd_T43 x0 x13).f1).toList) == (((rd_T43 x1 x13).f1).toList)) || ((!(((rd_T43 x0 x13).f2.f0) == ((rd_T43 x1 x13).f2.f0)) || (!(((rd_T43 x0 x13).f2.f1) == ((rd_T43 x1 x13).f2.f1))))))) = true then (some false) else (api_Pair.l0 k x0 x1 x12 (wrap64 (x13 + 1)))) else (none)) else (none)) else (none)) else (some true)
def api_Pair.f (k : Nat) (l0 : List (S43)) (l1 : List (S43)) : Option (Bool) := if (l0.length : Int) = (l1.length : Int) then (api_Pair.l0 k l0 l1 (l0.length : Int) 0) else (some false)
theorem api_Pair.mono_l : ∀ k, (∀ y0 y1 y2 y3, LeO (api_Pair.l0 k y0 y1 y2 y3) (api_Pair.l0 (k + 1) y0 y1 y2 y3))
 | 0 => fun _ _ _ _ r h => by simp [api_Pair.l0] at h
 | k + 1 => by
  have ih0 := api_Pair.mono_l k
  ·intro y0 y1 y2 y3
   unfold api_Pair.l0
   repeat' first
   | (with_reducible exact ih0 _ _ _ _)
   | (with_reducible exact LeO.refl _)
   | (with_reducible exact LeO.none _)
   | (with_reducible refine LeO.ite ?_ ?_)
   | (with_reducible refine LeO.bind ?_ (fun _ => ?_))
   | exact ih0 _ _ _ _
   | exact LeO.none _
   | refine LeO.ite ?_ ?_
   | refine LeO.bind ?_ (fun _ => ?_)
theorem api_Pair.mono : ∀ a0 a1 k, LeO (api_Pair.f k a0 a1) (api_Pair.f (k + 1) a0 a1) := by
 intro a0 a1 k
 have ih0 := api_Pair.mono_l k
 unfold api_Pair.f
 repeat' first
   | (with_reducible exact ih0 _ _ _ _)
   | (with_reducible exact LeO.refl _)
   | (with_reducible exact LeO.none _)
   | (with_reducible refine LeO.ite ?_ ?_)
   | (with_reducible refine LeO.bind ?_ (fun _ => ?_))
   | exact ih0 _ _ _ _
   | exact LeO.none _
   | refine LeO.ite ?_ ?_
   | refine LeO.bind ?_ (fun _ => ?_)
set_option maxHeartbeats 8000000 in
set_option maxRecDepth 100000 in
theorem api_Pair.calls (k : Nat) (A0 : Option Addr) (c0 : Nat) (l0 : List (S43)) (A1 : Option Addr) (c1 : Nat) (l1 : List (S43)) (r : Bool) (w : World) (hr0 : Kd.C k43 w A0 l0.length l0) (hc0 : l0.length ≤ c0) (hr1 : Kd.C k43 w A1 l1.length l1) (hc1 : l1.length ≤ c1) (h : api_Pair.f k l0 l1 = some r) :
  Calls Tryz.prog 69 #[.slice A0 l0.length c0, .slice A1 l1.length c1] w fun e w' => e = .returned (.bool r) ∧ Drawn0 w w' := by
 have hu43 := Tryz.underlying43
 have HR0 := Aside0.mk hr0
 have HC0 := Aside0.mk hc0
 clear hr0 hc0
 have HR1 := Aside0.mk hr1
 have HC1 := Aside0.mk hc1
 clear hr1 hc1
 have H : (if (l0.length : Int) = (l1.length : Int) then (api_Pair.l0 k l0 l1 (l0.length : Int) 0) else (some false)) = some r := h
 clear h
 by_cases c3 : (l0.length : Int) = (l1.length : Int)
 ·rw [if_pos c3] at H
  have c3b0 : ((l0.length : Int) == (l1.length : Int)) = true := beq_iff_eq.mpr c3
  have c3b1 : ((l0.length : Int) != (l1.length : Int)) = false := bne_eq_false_iff_eq.mpr c3
  have c3b2 : (l0.length == l1.length) = true := by first | simpa using c3 | (simp at c3 ⊢; omega)
  clear c3
  have H' := Aside0.mk H
  clear H
  go_enter Tryz.func69, Tryz.ntmps69
  go_wp2
  repeat (go_quiet (fail); try go_wp2)
  go_loopg [13] k (fun kq v13 w' => ∃ (x13_1 : Int), v13 = .int .i64 x13_1 ∧ Aside0 (api_Pair.l0 kq l0 l1 (l0.length : Int) x13_1 = some r) ∧ Aside0 (kq ≤ k) ∧ Drawn0 w w')
  case atStart => exact ⟨(0), (by first | rfl | (simp; done) | (simp [*]; done)), H', ⟨Nat.le_refl _⟩, by repeat (first | exact Drawn0.refl _ | apply Drawn0.step)⟩
  case round =>
   clear H'
   try clear c1
   try clear p2
   try clear c3
   try clear c3b0
   try clear c3b1
   try clear c3b2
   obtain ⟨x13_1, rfl, HA, HK1, ⟨m1, rfl⟩⟩ := hrel
   cases gk with
   | zero => exact absurd HA.out (by simp [api_Pair.l0])
   | succ k1 =>
    have H := HA.out
    clear HA
    simp only [api_Pair.l0] at H
    by_cases c4 : x13_1 < (l0.length : Int)
    ·rw [if_pos c4] at H
     have c4b0 : decide (x13_1 < (l0.length : Int)) = true := decide_eq_true c4
     clear c4
     by_cases c5 : 0 ≤ x13_1
     ·rw [if_pos c5] at H
      have c5b0 : decide (0 ≤ x13_1) = true := decide_eq_true c5
      clear c5
      by_cases c6 : x13_1 < (l0.length : Int)
      ·rw [if_pos c6] at H
       have c6b0 : decide (x13_1 < (l0.length : Int)) = true := decide_eq_true c6
       clear c6
       by_cases c7 : x13_1 < (l1.length : Int)
       ·rw [if_pos c7] at H
        have c7b0 : decide (x13_1 < (l1.length : Int)) = true := decide_eq_true c7
        clear c7
        by_cases c8 : (!((((rd_T43 l0 x13_1).f0).toList) == (((rd_T43 l1 x13_1).f0).toList)) || (!((((rd_T43 l0 x13_1).f1).toList) == (((rd_T43 l1 x13_1).f1).toList)) || ((!(((rd_T43 l0 x13_1).f2.f0) == ((rd_T43 l1 x13_1).f2.f0)) || (!(((rd_T43 l0 x13_1).f2.f1) == ((rd_T43 l1 x13_1).f2.f1))))))) = true
        ·rw [if_pos c8] at H
         have c8b0 : (!((((rd_T43 l0 x13_1).f0).toList) == (((rd_T43 l1 x13_1).f0).toList)) || (!((((rd_T43 l0 x13_1).f1).toList) == (((rd_T43 l1 x13_1).f1).toList)) || ((!(((rd_T43 l0 x13_1).f2.f0) == ((rd_T43 l1 x13_1).f2.f0)) || (!(((rd_T43 l0 x13_1).f2.f1) == ((rd_T43 l1 x13_1).f2.f1))))))) = true := c8
         clear c8
         obtain rfl := Option.some.inj H
         have p167 : 0 ≤ (x13_1 : Int) := of_decide_eq_true (by first | (with_reducible assumption) | assumption)
         have q167 : x13_1 < (l0.length : Int) := of_decide_eq_true (by first | (with_reducible assumption) | assumption)
         obtain ⟨ad167, e167, hx167_0, hx167_1, hx167_2, hx167_3⟩ := at_T43 HR0.out x13_1 p167 q167
         cases e167
         replace p167 := eq_true p167
         replace q167 := eq_true q167
         have p168 : 0 ≤ (x13_1 : Int) := of_decide_eq_true (by first | (with_reducible assumption) | assumption)
         have q168 : x13_1 < (l1.length : Int) := of_decide_eq_true (by first | (with_reducible assumption) | assumption)
         obtain ⟨ad168, e168, hx168_0, hx168_1, hx168_2, hx168_3⟩ := at_T43 HR1.out x13_1 p168 q168
         cases e168
         replace p168 := eq_true p168
         replace q168 := eq_true q168
         go_wp2
         repeat (go_quiet (fail); try go_wp2)
         go_ret
         exact ⟨by first | rfl | (simp; done) | (simp [*]; done), by repeat (first | exact Drawn0.refl _ | apply Drawn0.step)⟩
        ·rw [if_neg c8] at H
         have c8b0 : (!((((rd_T43 l0 x13_1).f0).toList) == (((rd_T43 l1 x13_1).f0).toList)) || (!((((rd_T43 l0 x13_1).f1).toList) == (((rd_T43 l1 x13_1).f1).toList)) || ((!(((rd_T43 l0 x13_1).f2.f0) == ((rd_T43 l1 x13_1).f2.f0)) || (!(((rd_T43 l0 x13_1).f2.f1) == ((rd_T43 l1 x13_1).f2.f1))))))) = false := by simpa using c8
         clear c8
         have H' := Aside0.mk H
         clear H
         have p167 : 0 ≤ (x13_1 : Int) := of_decide_eq_true (by first | (with_reducible assumption) | assumption)
         have q167 : x13_1 < (l0.length : Int) := of_decide_eq_true (by first | (with_reducible assumption) | assumption)
         obtain ⟨ad167, e167, hx167_0, hx167_1, hx167_2, hx167_3⟩ := at_T43 HR0.out x13_1 p167 q167
         cases e167
         replace p167 := eq_true p167
         replace q167 := eq_true q167
         have p168 : 0 ≤ (x13_1 : Int) := of_decide_eq_true (by first | (with_reducible assumption) | assumption)
         have q168 : x13_1 < (l1.length : Int) := of_decide_eq_true (by first | (with_reducible assumption) | assumption)
         obtain ⟨ad168, e168, hx168_0, hx168_1, hx168_2, hx168_3⟩ := at_T43 HR1.out x13_1 p168 q168
         cases e168
         replace p168 := eq_true p168
         replace q168 := eq_true q168
         go_wp2
         repeat (go_quiet (fail); try go_wp2)
         go_roundg k1
         case measure => have := HK1.out; omega
         case rel => exact ⟨(wrap64 (x13_1 + 1)), (by first | rfl | (simp; done) | (simp [*]; done)), H', ⟨by have := HK1.out; omega⟩, by repeat (first | exact Drawn0.refl _ | apply Drawn0.step)⟩
       ·rw [if_neg c7] at H
        exact absurd H (by simp)
      ·rw [if_neg c6] at H
       exact absurd H (by simp)
     ·rw [if_neg c5] at H
      exact absurd H (by simp)
    ·rw [if_neg c4] at H
     have c4b0 : decide (x13_1 < (l0.length : Int)) = false := decide_eq_false c4
     clear c4
     obtain rfl := Option.some.inj H
     go_wp2
     repeat (go_quiet (fail); try go_wp2)
     go_ret
     exact ⟨by first | rfl | (simp; done) | (simp [*]; done), by repeat (first | exact Drawn0.refl _ | apply Drawn0.step)⟩
 ·rw [if_neg c3] at H
  have c3b0 : ((l0.length : Int) == (l1.length : Int)) = false := beq_eq_false_iff_ne.mpr c3
  have c3b1 : ((l0.length : Int) != (l1.length : Int)) = true := bne_iff_ne.mpr c3
  have c3b2 : (l0.length == l1.length) = false := by first | simpa using c3 | (simp at c3 ⊢; omega)
  obtain rfl := Option.some.inj H
  go_enter Tryz.func69, Tryz.ntmps69
  go_wp2
  repeat (go_quiet (fail); try go_wp2)
  go_ret
  exact ⟨by first | rfl | (simp; done) | (simp [*]; done), by repeat (first | exact Drawn0.refl _ | apply Drawn0.step)⟩

end Go.Proofs.YtmcddoolniaehaaGreat.S
end
section
namespace Go.Proofs.YtmcddoolniaehaaGreat.S
open Go.RowKit Go.Proofs.YtmcddoolniaehaaGreatW.PrintWords Go.Proofs.YtmcddoolniaehaaGreatW.PrintLast Go.Proofs.YtmcddoolniaehaaGreatW.PrintMore Go.Proofs.YtmcddoolniaehaaGreatW
set_option linter.unusedVariables false
set_option linter.unusedSimpArgs false
def state_Same.f (k : Nat) (l0_0 : List (S73)) (l0_1 : List (S47)) (l0_2 : List (S43)) (l1_0 : List (S73)) (l1_1 : List (S47)) (l1_2 : List (S43)) : Option Bool := (api_Ctr.f k l0_0 l1_0).bind fun t0 => (if t0 = true then ((api_Reg.f k l0_1 l1_1).bind fun t1 => (if t1 = true then ((api_Pair.f k l0_2 l1_2).bind fun t2 => (some t2)) else (some false))) else (some false))
set_option maxHeartbeats 4000000 in
set_option maxRecDepth 100000 in
theorem state_Same.calls (k : Nat) (A0_0 : Option Addr) (c0_0 : Nat) (l0_0 : List (S73)) (A0_1 : Option Addr) (c0_1 : Nat) (l0_1 : List (S47)) (A0_2 : Option Addr) (c0_2 : Nat) (l0_2 : List (S43)) (A1_0 : Option Addr) (c1_0 : Nat) (l1_0 : List (S73)) (A1_1 : Option Addr) (c1_1 : Nat) (l1_1 : List (S47)) (A1_2 : Option Addr) (c1_2 : Nat) (l1_2 : List (S43)) (r : Bool) (w : World) (hr0_0 : Kd.C k73 w A0_0 l0_0.length l0_0) (hc0_0 : l0_0.length ≤ c0_0) (hr0_1 : Kd.C k47 w A0_1 l0_1.length l0_1) (hc0_1 : l0_1.length ≤ c0_1) (hr0_2 : Kd.C k43 w A0_2 l0_2.length l0_2) (hc0_2 : l0_2.length ≤ c0_2) (hr1_0 : Kd.C k73 w A1_0 l1_0.length l1_0) (hc1_0 : l1_0.length ≤ c1_0) (hr1_1 : Kd.C k47 w A1_1 l1_1.length l1_1) (hc1_1 : l1_1.length ≤ c1_1) (hr1_2 : Kd.C k43 w A1_2 l1_2.length l1_2) (hc1_2 : l1_2.length ≤ c1_2) (h : state_Same.f k l0_0 l0_1 l0_2 l1_0 l1_1 l1_2 = some r) :
    Calls Tryz.prog 20 #[.agg #[.slice A0_0 l0_0.length c0_0, .slice A0_1 l0_1.length c0_1, .slice A0_2 l0_2.length c0_2], .agg #[.slice A1_0 l1_0.length c1_0, .slice A1_1 l1_1.length c1_1, .slice A1_2 l1_2.length c1_2]] w fun e w' => e = .returned (.bool r) ∧ Below w.heap.size w w' := by
  unfold state_Same.f at h
  obtain ⟨t0, h0, h⟩ := Option.bind_eq_some_iff.mp h
  have K0 := Aside0.mk (fun (W : World) (hb : Below w.heap.size w W) => (api_Ctr.calls k A0_0 c0_0 l0_0 A1_0 c1_0 l1_0 _ W (Kd.C_below hr0_0 hb) hc0_0 (Kd.C_below hr1_0 hb) hc1_0 h0).mono fun _ _ h => And.intro h.1 (drawn_b h.2))
  have hx : t0 = false ∧ r = false ∨ t0 = true ∧ ∃ t1, api_Reg.f k l0_1 l1_1 = some t1 ∧ (t1 = false ∧ r = false ∨ t1 = true ∧ api_Pair.f k l0_2 l1_2 = some r) := by
    cases t0 with
    | false => exact .inl ⟨rfl, by simpa using h.symm⟩
    | true =>
      rw [if_pos rfl] at h
      obtain ⟨t1, h1, h⟩ := Option.bind_eq_some_iff.mp h
      refine .inr ⟨rfl, t1, h1, ?_⟩
      cases t1 with
      | false => exact .inl ⟨rfl, by simpa using h.symm⟩
      | true => exact .inr ⟨rfl, by simpa using h⟩
  clear h
  rcases hx with ⟨rfl, rfl⟩ | ⟨rfl, t1, h1, ⟨rfl, rfl⟩ | ⟨rfl, h2⟩⟩
  · skip
    clear hr0_0 hc0_0 hr0_1 hc0_1 hr0_2 hc0_2 hr1_0 hc1_0 hr1_1 hc1_1 hr1_2 hc1_2
    have hBX0 := Bx.new (Below.refl w.heap.size w) (.cells #[.slice A0_0 l0_0.length c0_0, .slice A0_1 l0_1.length c0_1, .slice A0_2 l0_2.length c0_2] 26)
    have hBX1 := Bx.new hBX0.b (.cells #[.slice A1_0 l1_0.length c1_0, .slice A1_1 l1_1.length c1_1, .slice A1_2 l1_2.length c1_2] 26)
    replace hBX0 := hBX0.go (below_alloc (Below.refl _ _) (.cells #[.slice A1_0 l1_0.length c1_0, .slice A1_1 l1_1.length c1_1, .slice A1_2 l1_2.length c1_2] 26))
    rw [World.size_alloc] at hBX1
    go_enter Tryz.func20, Tryz.ntmps20
    go_wp2_with fail
    revert hBX0 hBX1
    generalize ((w.alloc (.cells #[.slice A0_0 l0_0.length c0_0, .slice A0_1 l0_1.length c0_1, .slice A0_2 l0_2.length c0_2] 26)).alloc (.cells #[.slice A1_0 l1_0.length c1_0, .slice A1_1 l1_1.length c1_1, .slice A1_2 l1_2.length c1_2] 26)) = W1
    intro hBX0 hBX1
    have s00 := (blk_cell hBX0.x 0).trans rfl; have s01 := (blk_cell hBX0.x 1).trans rfl; have s02 := (blk_cell hBX0.x 2).trans rfl; have s10 := (blk_cell hBX1.x 0).trans rfl; have s11 := (blk_cell hBX1.x 1).trans rfl; have s12 := (blk_cell hBX1.x 2).trans rfl
    go_wp2_with fail
    refine (K0.out _ hBX0.b).mono ?_
    rintro e w2 ⟨rfl, hb⟩
    replace hBX0 := hBX0.go hb
    replace hBX1 := hBX1.go hb
    clear hb s00 s01 s02 s10 s11 s12
    go_wp2
    go_ret
    exact ⟨rfl, hBX0.b⟩
  · have K1 := Aside0.mk (fun (W : World) (hb : Below w.heap.size w W) => (api_Reg.calls k A0_1 c0_1 l0_1 A1_1 c1_1 l1_1 _ W (Kd.C_below hr0_1 hb) hc0_1 (Kd.C_below hr1_1 hb) hc1_1 h1).mono fun _ _ h => And.intro h.1 (drawn_b h.2))
    clear hr0_0 hc0_0 hr0_1 hc0_1 hr0_2 hc0_2 hr1_0 hc1_0 hr1_1 hc1_1 hr1_2 hc1_2
    have hBX0 := Bx.new (Below.refl w.heap.size w) (.cells #[.slice A0_0 l0_0.length c0_0, .slice A0_1 l0_1.length c0_1, .slice A0_2 l0_2.length c0_2] 26)
    have hBX1 := Bx.new hBX0.b (.cells #[.slice A1_0 l1_0.length c1_0, .slice A1_1 l1_1.length c1_1, .slice A1_2 l1_2.length c1_2] 26)
    replace hBX0 := hBX0.go (below_alloc (Below.refl _ _) (.cells #[.slice A1_0 l1_0.length c1_0, .slice A1_1 l1_1.length c1_1, .slice A1_2 l1_2.length c1_2] 26))
    rw [World.size_alloc] at hBX1
    go_enter Tryz.func20, Tryz.ntmps20
    go_wp2_with fail
    revert hBX0 hBX1
    generalize ((w.alloc (.cells #[.slice A0_0 l0_0.length c0_0, .slice A0_1 l0_1.length c0_1, .slice A0_2 l0_2.length c0_2] 26)).alloc (.cells #[.slice A1_0 l1_0.length c1_0, .slice A1_1 l1_1.length c1_1, .slice A1_2 l1_2.length c1_2] 26)) = W1
    intro hBX0 hBX1
    have s00 := (blk_cell hBX0.x 0).trans rfl; have s01 := (blk_cell hBX0.x 1).trans rfl; have s02 := (blk_cell hBX0.x 2).trans rfl; have s10 := (blk_cell hBX1.x 0).trans rfl; have s11 := (blk_cell hBX1.x 1).trans rfl; have s12 := (blk_cell hBX1.x 2).trans rfl
    go_wp2_with fail
    refine (K0.out _ hBX0.b).mono ?_
    rintro e w2 ⟨rfl, hb⟩
    replace hBX0 := hBX0.go hb
    replace hBX1 := hBX1.go hb
    clear hb s00 s01 s02 s10 s11 s12
    have s00 := (blk_cell hBX0.x 0).trans rfl; have s01 := (blk_cell hBX0.x 1).trans rfl; have s02 := (blk_cell hBX0.x 2).trans rfl; have s10 := (blk_cell hBX1.x 0).trans rfl; have s11 := (blk_cell hBX1.x 1).trans rfl; have s12 := (blk_cell hBX1.x 2).trans rfl
    go_wp2_with fail
    refine (K1.out _ hBX0.b).mono ?_
    rintro e w2 ⟨rfl, hb⟩
    replace hBX0 := hBX0.go hb
    replace hBX1 := hBX1.go hb
    clear hb s00 s01 s02 s10 s11 s12
    go_wp2
    go_ret
    exact ⟨rfl, hBX0.b⟩
  · have K1 := Aside0.mk (fun (W : World) (hb : Below w.heap.size w W) => (api_Reg.calls k A0_1 c0_1 l0_1 A1_1 c1_1 l1_1 _ W (Kd.C_below hr0_1 hb) hc0_1 (Kd.C_below hr1_1 hb) hc1_1 h1).mono fun _ _ h => And.intro h.1 (drawn_b h.2))
    have K2 := Aside0.mk (fun (W : World) (hb : Below w.heap.size w W) => (api_Pair.calls k A0_2 c0_2 l0_2 A1_2 c1_2 l1_2 r W (Kd.C_below hr0_2 hb) hc0_2 (Kd.C_below hr1_2 hb) hc1_2 h2).mono fun _ _ h => And.intro h.1 (drawn_b h.2))
    clear hr0_0 hc0_0 hr0_1 hc0_1 hr0_2 hc0_2 hr1_0 hc1_0 hr1_1 hc1_1 hr1_2 hc1_2
    have hBX0 := Bx.new (Below.refl w.heap.size w) (.cells #[.slice A0_0 l0_0.length c0_0, .slice A0_1 l0_1.length c0_1, .slice A0_2 l0_2.length c0_2] 26)
    have hBX1 := Bx.new hBX0.b (.cells #[.slice A1_0 l1_0.length c1_0, .slice A1_1 l1_1.length c1_1, .slice A1_2 l1_2.length c1_2] 26)
    replace hBX0 := hBX0.go (below_alloc (Below.refl _ _) (.cells #[.slice A1_0 l1_0.length c1_0, .slice A1_1 l1_1.length c1_1, .slice A1_2 l1_2.length c1_2] 26))
    rw [World.size_alloc] at hBX1
    go_enter Tryz.func20, Tryz.ntmps20
    go_wp2_with fail
    revert hBX0 hBX1
    generalize ((w.alloc (.cells #[.slice A0_0 l0_0.length c0_0, .slice A0_1 l0_1.length c0_1, .slice A0_2 l0_2.length c0_2] 26)).alloc (.cells #[.slice A1_0 l1_0.length c1_0, .slice A1_1 l1_1.length c1_1, .slice A1_2 l1_2.length c1_2] 26)) = W1
    intro hBX0 hBX1
    have s00 := (blk_cell hBX0.x 0).trans rfl; have s01 := (blk_cell hBX0.x 1).trans rfl; have s02 := (blk_cell hBX0.x 2).trans rfl; have s10 := (blk_cell hBX1.x 0).trans rfl; have s11 := (blk_cell hBX1.x 1).trans rfl; have s12 := (blk_cell hBX1.x 2).trans rfl
    go_wp2_with fail
    refine (K0.out _ hBX0.b).mono ?_
    rintro e w2 ⟨rfl, hb⟩
    replace hBX0 := hBX0.go hb
    replace hBX1 := hBX1.go hb
    clear hb s00 s01 s02 s10 s11 s12
    have s00 := (blk_cell hBX0.x 0).trans rfl; have s01 := (blk_cell hBX0.x 1).trans rfl; have s02 := (blk_cell hBX0.x 2).trans rfl; have s10 := (blk_cell hBX1.x 0).trans rfl; have s11 := (blk_cell hBX1.x 1).trans rfl; have s12 := (blk_cell hBX1.x 2).trans rfl
    go_wp2_with fail
    refine (K1.out _ hBX0.b).mono ?_
    rintro e w2 ⟨rfl, hb⟩
    replace hBX0 := hBX0.go hb
    replace hBX1 := hBX1.go hb
    clear hb s00 s01 s02 s10 s11 s12
    have s00 := (blk_cell hBX0.x 0).trans rfl; have s01 := (blk_cell hBX0.x 1).trans rfl; have s02 := (blk_cell hBX0.x 2).trans rfl; have s10 := (blk_cell hBX1.x 0).trans rfl; have s11 := (blk_cell hBX1.x 1).trans rfl; have s12 := (blk_cell hBX1.x 2).trans rfl
    go_wp2_with fail
    refine (K2.out _ hBX0.b).mono ?_
    rintro e w2 ⟨rfl, hb⟩
    replace hBX0 := hBX0.go hb
    replace hBX1 := hBX1.go hb
    clear hb s00 s01 s02 s10 s11 s12
    go_wp2
    go_ret
    exact ⟨rfl, hBX0.b⟩
end Go.Proofs.YtmcddoolniaehaaGreat.S
end
section
namespace Go.Proofs.YtmcddoolniaehaaGreat.S
open Go.RowKit Go.Maps Go.Sort Go.Proofs.YtmcddoolniaehaaGreatW.PrintWords Go.Proofs.YtmcddoolniaehaaGreatW.PrintLast Go.Proofs.YtmcddoolniaehaaGreatW.PrintMore Go.Proofs.YtmcddoolniaehaaGreatW
set_option linter.unusedVariables false
set_option linter.unusedSimpArgs false
def mergeC (base a b : List Ct) : List Ct := if mayC base && (mayC a && mayC b) then outM (addM (-1) (addM 1 (addM 1 [] a) b) base) else []
def ctr_Merge.f (l0 : List (S73)) (l1 : List (S73)) (l2 : List (S73)) : Option ((List (S73))) :=
  if smallC l0 = true ∧ smallC l1 = true ∧ smallC l2 = true then some (mergeC l0 l1 l2) else none
set_option maxHeartbeats 4000000 in
set_option maxRecDepth 100000 in
theorem ctr_Merge.calls (A0 : Option Addr) (c0 : Nat) (l0 : List (S73)) (A1 : Option Addr) (c1 : Nat) (l1 : List (S73)) (A2 : Option Addr) (c2 : Nat) (l2 : List (S73)) (r : List (S73)) (w : World) (hr0 : Kd.C k73 w A0 l0.length l0) (hc0 : l0.length ≤ c0) (hr1 : Kd.C k73 w A1 l1.length l1) (hc1 : l1.length ≤ c1) (hr2 : Kd.C k73 w A2 l2.length l2) (hc2 : l2.length ≤ c2) (h : ctr_Merge.f l0 l1 l2 = some r) :
    Calls Tryz.prog 61 #[.slice A0 l0.length c0, .slice A1 l1.length c1, .slice A2 l2.length c2] w fun e w' => ∃ v0_ : Value, e = .returned (v0_) ∧ Kd.R k73 73 w' w.heap.size (fun _ => True) v0_ r ∧ Below w.heap.size w w' := by
  unfold ctr_Merge.f at h
  split at h
  case isFalse => cases h
  case isTrue hh =>
  cases h
  obtain ⟨q0, q1, q2⟩ := hh
  have hlen0 := smallC_len q0
  have hlen1 := smallC_len q1
  have hlen2 := smallC_len q2
  have HMAY0 := Aside0.mk (fun (W : World) (hb : Below w.heap.size w W) => ctr_May.calls (l0.length + 1) A0 c0 l0 (mayC l0) W (Kd.C_below hr0 hb) hc0 (mayC_f (l0.length + 1) l0 (by omega) (by omega) (smallC_all q0)))
  have HMAY1 := Aside0.mk (fun (W : World) (hb : Below w.heap.size w W) => ctr_May.calls (l1.length + 1) A1 c1 l1 (mayC l1) W (Kd.C_below hr1 hb) hc1 (mayC_f (l1.length + 1) l1 (by omega) (by omega) (smallC_all q1)))
  have HMAY2 := Aside0.mk (fun (W : World) (hb : Below w.heap.size w W) => ctr_May.calls (l2.length + 1) A2 c2 l2 (mayC l2) W (Kd.C_below hr2 hb) hc2 (mayC_f (l2.length + 1) l2 (by omega) (by omega) (smallC_all q2)))
  have HR0 := Aside0.mk hr0
  have HR1 := Aside0.mk hr1
  have HR2 := Aside0.mk hr2
  have HS0 := Aside0.mk (smallC_all q0)
  have HS1 := Aside0.mk (smallC_all q1)
  have HS2 := Aside0.mk (smallC_all q2)
  clear hr0 hr1 hr2 q0 q1 q2
  have hum := Tryz.underlying100
  have hmm := @run_makeMap Tryz.prog
  go_enter Tryz.func61, Tryz.ntmps61
  go_wp2_with fail
  refine (HMAY0.out _ (Below.refl _ _)).mono ?_
  rintro e w1 ⟨rfl, hb1⟩
  have HB1 := Aside0.mk hb1
  clear hb1 HMAY0
  cases hm0 : mayC l0 with
  | false =>
    have HI := Aside0.mk (show mergeC l0 l1 l2 = [] by simp [mergeC, hm0])
    clear hm0
    go_wp2
    go_ret
    exact ⟨_, rfl, by rw [HI.out]; exact Kd.R_nil _ _ _ _ _, HB1.out⟩
  | true =>
    go_wp2_with fail
    refine (HMAY1.out _ HB1.out).mono ?_
    rintro e w2 ⟨rfl, hb2⟩
    have HB2 := Aside0.mk (below_step HB1.out hb2)
    clear hb2 HMAY1 HB1
    cases hm1 : mayC l1 with
    | false =>
      have HI := Aside0.mk (show mergeC l0 l1 l2 = [] by simp [mergeC, hm1])
      clear hm0 hm1
      go_wp2
      go_ret
      exact ⟨_, rfl, by rw [HI.out]; exact Kd.R_nil _ _ _ _ _, HB2.out⟩
    | true =>
      go_wp2_with fail
      refine (HMAY2.out _ HB2.out).mono ?_
      rintro e w3 ⟨rfl, hb3⟩
      have HB3 := Aside0.mk (below_step HB2.out hb3)
      clear hb3 HMAY2 HB2
      cases hm2 : mayC l2 with
      | false =>
        have HI := Aside0.mk (show mergeC l0 l1 l2 = [] by simp [mergeC, hm2])
        clear hm0 hm1 hm2
        go_wp2
        go_ret
        exact ⟨_, rfl, by rw [HI.out]; exact Kd.R_nil _ _ _ _ _, HB3.out⟩
      | true =>
        have HI := Aside0.mk (show mergeC l0 l1 l2 = outM (addM (-1) (addM 1 (addM 1 [] l1) l2) l0) by simp [mergeC, hm0, hm1, hm2])
        clear hm0 hm1 hm2
        have hw3 := HB3.out.size
        have hl1 : 0 + l1.length ≤ maxLen := by unfold maxLen; omega
        have HADD1 := Aside0.mk (sums_add w w3.heap.size 0 [] A1 c1 l1 1 (w3.alloc (.map #[] 0)) (below_alloc HB3.out _) hw3 (World.ownsMap_made w3 Tryz.prog 9 (plainElem (H := Unit) Tryz.prog 3)) List.Pairwise.nil HR1.out hl1 (fun x hx => kSmall_le (HS1.out x hx)))
        go_wp2_with fail
        refine HADD1.out.mono ?_
        rintro e w4 ⟨rfl, ho4, hb4⟩
        have HB4 := Aside0.mk hb4
        have hl2 : 0 + l1.length + l2.length ≤ maxLen := by unfold maxLen; omega
        have hU1 := addM_up 1 l1 [] List.Pairwise.nil
        have HADD2 := Aside0.mk (sums_add w w3.heap.size _ (addM 1 [] l1) A2 c2 l2 1 w4 hb4 hw3 ho4 hU1 HR2.out hl2 (fun x hx => kSmall_le (HS2.out x hx)))
        have HU2 := Aside0.mk (addM_up 1 l2 _ hU1)
        clear ho4 hb4 HADD1 hmm hU1
        go_wp2_with fail
        refine HADD2.out.mono ?_
        rintro e w5 ⟨rfl, ho5, hb5⟩
        have hl3 : 0 + l1.length + l2.length + l0.length ≤ maxLen := by unfold maxLen; omega
        have HADD3 := Aside0.mk (sums_add w w3.heap.size _ _ A0 c0 l0 (-1) w5 hb5 hw3 ho5 HU2.out HR0.out hl3 (fun x hx => kSmall_le (HS0.out x hx)))
        have HU3 := Aside0.mk (addM_up (-1) l0 _ HU2.out)
        clear ho5 hb5 HADD2 HB4
        go_wp2_with fail
        refine HADD3.out.mono ?_
        rintro e w6 ⟨rfl, ho6, hb6⟩
        have hlenI : (addM (-1) (addM 1 (addM 1 [] l1) l2) l0).length * 32 ≤ 140737488355328 := by
          have h1 := addM_len 1 l1 []
          have h2 := addM_len 1 l2 (addM 1 [] l1)
          have h3 := addM_len (-1) l0 (addM 1 (addM 1 [] l1) l2)
          simp only [List.length_nil] at h1
          exact Nat.le_trans (Nat.mul_le_mul_right 32 (show _ ≤ l1.length + l2.length + l0.length by omega)) (by omega)
        have HL := Aside0.mk (list_calls w3.heap.size _ _ w6 ho6 HU3.out hlenI)
        have HB6 := Aside0.mk hb6
        clear ho6 hb6 HADD3 HU3 HU2 hlenI
        go_wp2_with fail
        refine HL.out.mono ?_
        rintro e w7 ⟨v, rfl, ho7, hb7⟩
        obtain ⟨A', c', rfl⟩ := own_slice ho7
        have HO7 := Aside0.mk (own_lower' ho7 HB6.out.size)
        have HB7 := Aside0.mk (below_step HB6.out hb7)
        clear ho7 hb7 HL HB6
        go_wp2
        go_ret
        exact ⟨_, rfl, by rw [HI.out]; exact R_ctr HO7.out, HB7.out⟩
end Go.Proofs.YtmcddoolniaehaaGreat.S
end
section
namespace Go.Proofs.YtmcddoolniaehaaGreat.S
open Go.RowKit Go.Proofs.YtmcddoolniaehaaGreatW.PrintWords Go.Proofs.YtmcddoolniaehaaGreatW.PrintLast Go.Proofs.YtmcddoolniaehaaGreatW.PrintMore
set_option linter.unusedVariables false
set_option linter.unusedSimpArgs false

def firstAt {α : Type} (p : α → Bool) : Nat → List α → Int
  | _, [] => -1
  | k, x :: l => if p x then (k : Int) else firstAt p (k + 1) l
theorem firstAt_drop {α : Type} (p : α → Bool) (l : List α) : ∀ (k : Nat), k ≤ l.length → (∀ j, j < k → ∀ h : j < l.length, p l[j] = false) → firstAt p k (l.drop k) = firstAt p 0 l := by
  intro k
  induction k with
  | zero => intro _ _; rfl
  | succ k ih =>
    intro hk hp
    rw [← ih (by omega) (fun j hj h => hp j (by omega) h)]
    rw [List.drop_eq_getElem_cons (show k < l.length by omega)]
    simp [firstAt, hp k (by omega) (by omega)]
def regEnc (x : S47) : Value := .agg #[.string x.f0, .string x.f1, .int .i64 x.f2, .int .i64 x.f3.f0, .int .i64 x.f3.f1]
def regKey (key : ByteArray) (x : S47) : Bool := x.f0.toList == key.toList

theorem reg_clo (key : ByteArray) (B : Nat) (w : World) (hB : B < w.heap.size) (hcell : w.cell? ⟨B, 0, none⟩ = some (.string key)) (x : S47) :
    Calls Tryz.prog 71 #[.agg #[.string x.f0, .string x.f1, .int .i64 x.f2, .int .i64 x.f3.f0, .int .i64 x.f3.f1], .pointer (some ⟨B, 0, none⟩)] w fun e w' => e = .returned (.bool (regKey key x)) ∧ Below w.heap.size w w' := by
  have hne : B ≠ w.heap.size := by omega
  have H := Aside0.mk (show regKey key x = (x.f0.toList == key.toList) from rfl)
  go_enter Tryz.func71, Tryz.ntmps71
  go_wp2
  go_ret
  exact ⟨rfl, below_alloc (Below.refl _ _) _⟩

theorem reg_idx (key : ByteArray) (B : Nat) (w : World) (hB : B < w.heap.size) (hcell : w.cell? ⟨B, 0, none⟩ = some (.string key)) (A0 : Option Addr) (c0 : Nat) (l0 : List S47) (hr0 : Kd.C k47 w A0 l0.length l0) :
    Calls Tryz.prog 70 #[.slice A0 l0.length c0, .func (.func 71) #[] #[.pointer (some ⟨B, 0, none⟩)]] w fun e w' => e = .returned (.int .i64 (firstAt (regKey key) 0 l0)) ∧ Below w.heap.size w w' := by
  have HR := Aside0.mk hr0
  have HC := Aside0.mk hcell
  have HL := Aside0.mk hr0.2.1
  clear hr0 hcell
  go_enter Tryz.func70, Tryz.ntmps70
  go_wp2
  go_loopw [8] (fun i wr => ∃ k : Nat, k ≤ l0.length ∧ i = .int .i64 k ∧ Aside0 (∀ j, j < k → ∀ h : j < l0.length, regKey key l0[j] = false) ∧ Aside0 (Below w.heap.size w wr)) (fun i _ => l0.length - (intOf i).toNat)
  case atStart => exact ⟨0, Nat.zero_le _, rfl, ⟨fun j hj => by omega⟩, ⟨Below.refl _ _⟩⟩
  case round =>
    obtain ⟨k, hk, rfl, ha, HB⟩ := hrel
    by_cases hlt : k < l0.length
    · obtain ⟨ad, e, hx0, hx1, hx2, hx3, hx4⟩ := at_T47 HR.out k (by omega) (by omega)
      cases e
      replace hx0 := (HB.out.cell (World.block_lt_of_cell? w _ hx0)).trans hx0
      replace hx1 := (HB.out.cell (World.block_lt_of_cell? w _ hx1)).trans hx1
      replace hx2 := (HB.out.cell (World.block_lt_of_cell? w _ hx2)).trans hx2
      replace hx3 := (HB.out.cell (World.block_lt_of_cell? w _ hx3)).trans hx3
      replace hx4 := (HB.out.cell (World.block_lt_of_cell? w _ hx4)).trans hx4
      simp only [Int.toNat_natCast] at hx0 hx1 hx2 hx3 hx4
      have HX := Aside0.mk (show rd_T47 l0 k = l0[k] by simp [rd_T47, List.getD_eq_getElem?_getD, List.getElem?_eq_getElem hlt])
      have h63 := HL.out
      have hBr : B < wr.heap.size := Nat.lt_of_lt_of_le hB HB.out.size
      have hcl := reg_clo key B wr hBr ((HB.out.cell (p := ⟨B, 0, none⟩) hB).trans HC.out) (rd_T47 l0 k)
      have HCL := Aside0.mk hcl
      clear hcl
      cases hq : regKey key (rd_T47 l0 k) with
      | true =>
        have HF := Aside0.mk (show firstAt (regKey key) 0 l0 = (k : Int) by
          rw [← firstAt_drop (regKey key) l0 k hk ha.out, List.drop_eq_getElem_cons hlt]
          rw [HX.out] at hq
          simp [firstAt, hq])
        go_wp2_with fail
        refine HCL.out.mono ?_
        rintro e w' ⟨rfl, hb⟩
        have HB' := Aside0.mk (below_step HB.out hb)
        clear hx0 hx1 hx2 hx3 hx4 HB hb HCL hBr
        go_wp2
        go_ret
        exact ⟨by rw [HF.out]; rfl, HB'.out⟩
      | false =>
        have HF := Aside0.mk (show ∀ j, j < k + 1 → ∀ h : j < l0.length, regKey key l0[j] = false by
          intro j hj h
          rcases Nat.lt_or_ge j k with q | q
          · exact ha.out j q h
          · obtain rfl : j = k := by omega
            rw [← HX.out]; exact hq)
        go_wp2_with fail
        refine HCL.out.mono ?_
        rintro e w' ⟨rfl, hb⟩
        have HB' := Aside0.mk (below_step HB.out hb)
        clear hx0 hx1 hx2 hx3 hx4 HB hb HCL hBr ha
        go_wp2
        go_roundw
        case rel => exact ⟨k + 1, by omega, by go_num, HF, HB'⟩
        case measure => simp [intOf]; omega
    · have HF := Aside0.mk (show firstAt (regKey key) 0 l0 = -1 by
        obtain rfl : k = l0.length := by omega
        rw [← firstAt_drop (regKey key) l0 _ (Nat.le_refl _) ha.out, List.drop_length]; rfl)
      go_wp2
      go_ret
      exact ⟨by rw [HF.out]; rfl, HB.out⟩

theorem firstAt_find {α : Type} (p : α → Bool) : ∀ (l : List α) (k : Nat), (firstAt p k l = -1 ∧ l.find? p = none) ∨ ∃ (j : Nat) (h : j < l.length), firstAt p k l = ((k + j : Nat) : Int) ∧ l.find? p = some l[j]
  | [], _ => .inl ⟨rfl, rfl⟩
  | x :: l, k => by
    unfold firstAt
    cases hp : p x with
    | true => exact .inr ⟨0, by simp, by simp, by simp [hp]⟩
    | false =>
      simp only [List.find?_cons, hp]
      rcases firstAt_find p l (k + 1) with ⟨h1, h2⟩ | ⟨j, h, h1, h2⟩
      · exact .inl ⟨by simpa using h1, h2⟩
      · exact .inr ⟨j + 1, by simp; omega, by rw [if_neg (by simp)]; rw [h1]; congr 1; omega, by simpa using h2⟩
def reg_Get.f (l0 : List (S47)) (a1 : ByteArray) : Option (ByteArray × ByteArray × Int × Int × Int × Bool) :=
  match l0.find? (regKey a1) with
  | some x => some (x.f0, x.f1, x.f2, x.f3.f0, x.f3.f1, true)
  | none => some (⟨#[]⟩, ⟨#[]⟩, 0, 0, 0, false)
set_option maxRecDepth 100000 in
theorem reg_Get.calls (A0 : Option Addr) (c0 : Nat) (l0 : List (S47)) (a1 : ByteArray) (r1 : ByteArray) (r2 : ByteArray) (r3 : Int) (r4 : Int) (r5 : Int) (r6 : Bool) (w : World) (hr0 : Kd.C k47 w A0 l0.length l0) (hc0 : l0.length ≤ c0) (h : reg_Get.f l0 a1 = some (r1, r2, r3, r4, r5, r6)) :
    Calls Tryz.prog 21 #[.slice A0 l0.length c0, .string a1] w fun e w' => e = .returned (.tuple #[.agg #[.string r1, .string r2, .int .i64 r3, .int .i64 r4, .int .i64 r5], .bool r6]) ∧ Below w.heap.size w w' := by
  have hu := Tryz.underlying47
  have HW := Aside0.mk (Below.refl w.heap.size w)
  have HR := Aside0.mk hr0
  have HL := Aside0.mk hr0.2.1
  have HI := fun W => reg_idx a1 w.heap.size W
  rcases firstAt_find (regKey a1) l0 0 with ⟨h1, h2⟩ | ⟨j, hj, h1, h2⟩
  · have H2 : (⟨#[]⟩, ⟨#[]⟩, 0, 0, 0, false) = (r1, r2, r3, r4, r5, r6) := by simpa [reg_Get.f, h2] using h
    simp only [Prod.mk.injEq] at H2
    obtain ⟨rfl, rfl, rfl, rfl, rfl, rfl⟩ := H2
    have H1 := Aside0.mk h1
    clear h h1 h2 hr0 hc0
    go_enter Tryz.func21, Tryz.ntmps21
    go_wp2_with fail
    refine (HI _ ?h1 ?h2 A0 c0 l0 (Kd.C_below HR.out (below_alloc (below_alloc HW.out _) _))).mono ?_
    case h1 => simp; omega
    case h2 => simp
    rintro e w' ⟨rfl, hb⟩
    have hk := blk_below (blk_new _ _) hb
    have hlt := blk_lt hk
    have HB := Aside0.mk (below_step (below_alloc (below_alloc HW.out _) _) hb)
    clear hb HI HW
    rw [H1.out]
    simp only [World.size_alloc] at hk hlt
    have hc0 := (blk_cell hk 0).trans rfl
    have hc1 := (blk_cell hk 1).trans rfl
    have hc2 := (blk_cell hk 2).trans rfl
    have hc3 := (blk_cell hk 3).trans rfl
    have hc4 := (blk_cell hk 4).trans rfl
    have hf0 := blk_frozen hk 0
    have hf1 := blk_frozen hk 1
    have hf2 := blk_frozen hk 2
    have hf3 := blk_frozen hk 3
    have hf4 := blk_frozen hk 4
    clear hk
    go_wp2
    refine bodyPost_ret (v := .tuple #[.agg #[.string ⟨#[]⟩, .string ⟨#[]⟩, .int .i64 0, .int .i64 0, .int .i64 0], .bool false]) (by simp [results, Tryz.results21, go_sem, hc0, hc1, hc2, hc3, hc4]) rfl ⟨rfl, ?_⟩
    exact below_set (below_set (below_set (below_set (below_set HB.out (by omega)) (by omega)) (by omega)) (by omega)) (by omega)
  · have H2 : (l0[j].f0, l0[j].f1, l0[j].f2, l0[j].f3.f0, l0[j].f3.f1, true) = (r1, r2, r3, r4, r5, r6) := by simpa [reg_Get.f, h2] using h
    have HX := Aside0.mk (show rd_T47 l0 j = l0[j] by simp [rd_T47, List.getD_eq_getElem?_getD, List.getElem?_eq_getElem hj])
    rw [← HX.out] at H2
    simp only [Prod.mk.injEq] at H2
    obtain ⟨rfl, rfl, rfl, rfl, rfl, rfl⟩ := H2
    have H1 := Aside0.mk (show firstAt (regKey a1) 0 l0 = (j : Int) by rw [h1]; simp)
    clear h h1 h2 hr0 hc0 HX
    obtain ⟨ad, e, hx0, hx1, hx2, hx3, hx4⟩ := at_T47 HR.out j (by omega) (by omega)
    cases e
    simp only [Int.toNat_natCast] at hx0 hx1 hx2 hx3 hx4
    have HX0 := Aside0.mk hx0
    have HX1 := Aside0.mk hx1
    have HX2 := Aside0.mk hx2
    have HX3 := Aside0.mk hx3
    have HX4 := Aside0.mk hx4
    clear hx0 hx1 hx2 hx3 hx4
    go_enter Tryz.func21, Tryz.ntmps21
    go_wp2_with fail
    refine (HI _ ?h1 ?h2 (some ad) c0 l0 (Kd.C_below HR.out (below_alloc (below_alloc HW.out _) _))).mono ?_
    case h1 => simp; omega
    case h2 => simp
    rintro e w' ⟨rfl, hb⟩
    have hk := blk_below (blk_new _ _) hb
    have hlt := blk_lt hk
    have HB := Aside0.mk (below_step (below_alloc (below_alloc HW.out _) _) hb)
    clear hb HI HW
    rw [H1.out]
    simp only [World.size_alloc] at hk hlt
    have hc0 := (blk_cell hk 0).trans rfl
    have hc1 := (blk_cell hk 1).trans rfl
    have hc2 := (blk_cell hk 2).trans rfl
    have hc3 := (blk_cell hk 3).trans rfl
    have hc4 := (blk_cell hk 4).trans rfl
    have hf0 := blk_frozen hk 0
    have hf1 := blk_frozen hk 1
    have hf2 := blk_frozen hk 2
    have hf3 := blk_frozen hk 3
    have hf4 := blk_frozen hk 4
    clear hk
    have hx0 := (HB.out.cell (World.block_lt_of_cell? w _ HX0.out)).trans HX0.out
    have hx1 := (HB.out.cell (World.block_lt_of_cell? w _ HX1.out)).trans HX1.out
    have hx2 := (HB.out.cell (World.block_lt_of_cell? w _ HX2.out)).trans HX2.out
    have hx3 := (HB.out.cell (World.block_lt_of_cell? w _ HX3.out)).trans HX3.out
    have hx4 := (HB.out.cell (World.block_lt_of_cell? w _ HX4.out)).trans HX4.out
    have hl := HL.out
    clear HX0 HX1 HX2 HX3 HX4
    go_wp2
    refine bodyPost_ret (v := .tuple #[.agg #[.string (rd_T47 l0 j).f0, .string (rd_T47 l0 j).f1, .int .i64 (rd_T47 l0 j).f2, .int .i64 (rd_T47 l0 j).f3.f0, .int .i64 (rd_T47 l0 j).f3.f1], .bool true]) (by simp [results, Tryz.results21, go_sem, hc0, hc1, hc2, hc3, hc4]) rfl ⟨rfl, ?_⟩
    exact below_set (below_set (below_set (below_set (below_set HB.out (by omega)) (by omega)) (by omega)) (by omega)) (by omega)
end Go.Proofs.YtmcddoolniaehaaGreat.S
end
