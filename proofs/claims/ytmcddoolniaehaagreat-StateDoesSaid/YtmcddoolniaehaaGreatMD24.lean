/- Several of the walk's texts in one: Sx27, Sx28, Sx29, SRS. -/
import Derived.Test.YtmcddoolniaehaaGreatMD04
import Derived.Test.YtmcddoolniaehaaGreatMD05
import Derived.Test.YtmcddoolniaehaaGreatMD14
import Derived.Test.YtmcddoolniaehaaGreatMD20
import Derived.Test.YtmcddoolniaehaaGreatMD22
import Derived.Test.YtmcddoolniaehaaGreatMD23
section
namespace Go.Proofs.YtmcddoolniaehaaGreat.S
open Go.RowKit Go.Proofs.YtmcddoolniaehaaGreatW.PrintWords Go.Proofs.YtmcddoolniaehaaGreatW.PrintLast Go.Proofs.YtmcddoolniaehaaGreatW.PrintMore
attribute [local go_sem] max2_int min2_int max_two min_two max_three min_three max_four min_four   -- for this text's walks alone
set_option linter.unusedVariables false
set_option linter.unusedSimpArgs false

attribute [local go_sem high] eqA73
def ref06_Same.l0 : Nat → List (S73) → List (S73) → Int → Option (Bool)
 | 0, _, _, _ => none
 | k + 1, x0, x1, x5 => if x5 < (x0.length : Int) then (if 0 ≤ x5 then (if x5 < (x1.length : Int) then (if (!((((rd_T73 x0 x5).f0).toList) == (((rd_T73 x1 x5).f0).toList)) || (!(((rd_T73 x0 x5).f1) == ((rd_T73 x1 x5).f1)))) = true then (some false) else (ref06_Same.l0 k x0 x1 (wrap64 (x5 + 1)))) else (none)) else (none)) else (some true)
def ref06_Same.f (k : Nat) (l0 : List (S73)) (l1 : List (S73)) : Option (Bool) := if (l0.length : Int) = (l1.length : Int) then (ref06_Same.l0 k l0 l1 0) else (some false)
theorem ref06_Same.mono_l : ∀ k, (∀ y0 y1 y2, LeO (ref06_Same.l0 k y0 y1 y2) (ref06_Same.l0 (k + 1) y0 y1 y2))
 | 0 => fun _ _ _ r h => by simp [ref06_Same.l0] at h
 | k + 1 => by
  have ih0 := ref06_Same.mono_l k
  ·intro y0 y1 y2
   unfold ref06_Same.l0
   repeat' first
   | (with_reducible exact ih0 _ _ _)
   | (with_reducible exact LeO.refl _)
   | (with_reducible exact LeO.none _)
   | (with_reducible refine LeO.ite ?_ ?_)
   | (with_reducible refine LeO.bind ?_ (fun _ => ?_))
   | exact ih0 _ _ _
   | exact LeO.none _
   | refine LeO.ite ?_ ?_
   | refine LeO.bind ?_ (fun _ => ?_)
theorem ref06_Same.mono : ∀ a0 a1 k, LeO (ref06_Same.f k a0 a1) (ref06_Same.f (k + 1) a0 a1) := by
 intro a0 a1 k
 have ih0 := ref06_Same.mono_l k
 unfold ref06_Same.f
 repeat' first
   | (with_reducible exact ih0 _ _ _)
   | (with_reducible exact LeO.refl _)
   | (with_reducible exact LeO.none _)
   | (with_reducible refine LeO.ite ?_ ?_)
   | (with_reducible refine LeO.bind ?_ (fun _ => ?_))
   | exact ih0 _ _ _
   | exact LeO.none _
   | refine LeO.ite ?_ ?_
   | refine LeO.bind ?_ (fun _ => ?_)
set_option maxHeartbeats 8000000 in
set_option maxRecDepth 100000 in
theorem ref06_Same.calls (k : Nat) (A0 : Option Addr) (c0 : Nat) (l0 : List (S73)) (A1 : Option Addr) (c1 : Nat) (l1 : List (S73)) (r : Bool) (w : World) (hr0 : Kd.C k73 w A0 l0.length l0) (hc0 : l0.length ≤ c0) (hr1 : Kd.C k73 w A1 l1.length l1) (hc1 : l1.length ≤ c1) (h : ref06_Same.f k l0 l1 = some r) :
  Calls Tryz.prog 44 #[.slice A0 l0.length c0, .slice A1 l1.length c1] w fun e w' => e = .returned (.bool r) ∧ Drawn0 w w' := by
 have hu73 := Tryz.underlying73
 have HR0 := Aside0.mk hr0
 have HC0 := Aside0.mk hc0
 clear hr0 hc0
 have HR1 := Aside0.mk hr1
 have HC1 := Aside0.mk hc1
 clear hr1 hc1
 have H : (if (l0.length : Int) = (l1.length : Int) then (ref06_Same.l0 k l0 l1 0) else (some false)) = some r := h
 clear h
 by_cases c3 : (l0.length : Int) = (l1.length : Int)
 ·rw [if_pos c3] at H
  have c3b0 : ((l0.length : Int) == (l1.length : Int)) = true := beq_iff_eq.mpr c3
  have c3b1 : ((l0.length : Int) != (l1.length : Int)) = false := bne_eq_false_iff_eq.mpr c3
  have c3b2 : (l0.length == l1.length) = true := by first | simpa using c3 | (simp at c3 ⊢; omega)
  clear c3
  have H' := Aside0.mk H
  clear H
  go_enter Tryz.func44, Tryz.ntmps44
  go_wp2
  repeat (go_quiet (fail); try go_wp2)
  go_loopg [5] k (fun kq v5 w' => ∃ (x5_1 : Int), v5 = .int .i64 x5_1 ∧ Aside0 (ref06_Same.l0 kq l0 l1 x5_1 = some r) ∧ Aside0 (kq ≤ k) ∧ Drawn0 w w')
  case atStart => exact ⟨(0), (by first | rfl | (simp; done) | (simp [*]; done)), H', ⟨Nat.le_refl _⟩, by repeat (first | exact Drawn0.refl _ | apply Drawn0.step)⟩
  case round =>
   clear H'
   try clear c1
   try clear p2
   try clear c3
   try clear c3b0
   try clear c3b1
   try clear c3b2
   obtain ⟨x5_1, rfl, HA, HK1, ⟨m1, rfl⟩⟩ := hrel
   cases gk with
   | zero => exact absurd HA.out (by simp [ref06_Same.l0])
   | succ k1 =>
    have H := HA.out
    clear HA
    simp only [ref06_Same.l0] at H
    by_cases c4 : x5_1 < (l0.length : Int)
    ·rw [if_pos c4] at H
     have c4b0 : decide (x5_1 < (l0.length : Int)) = true := decide_eq_true c4
     clear c4
     by_cases c5 : 0 ≤ x5_1
     ·rw [if_pos c5] at H
      have c5b0 : decide (0 ≤ x5_1) = true := decide_eq_true c5
      clear c5
      by_cases c6 : x5_1 < (l1.length : Int)
      ·rw [if_pos c6] at H
       have c6b0 : decide (x5_1 < (l1.length : Int)) = true := decide_eq_true c6
       clear c6
       by_cases c7 : (!((((rd_T73 l0 x5_1).f0).toList) == (((rd_T73 l1 x5_1).f0).toList)) || (!(((rd_T73 l0 x5_1).f1) == ((rd_T73 l1 x5_1).f1)))) = true
       ·rw [if_pos c7] at H
        have c7b0 : (!((((rd_T73 l0 x5_1).f0).toList) == (((rd_T73 l1 x5_1).f0).toList)) || (!(((rd_T73 l0 x5_1).f1) == ((rd_T73 l1 x5_1).f1)))) = true := c7
        clear c7
        obtain rfl := Option.some.inj H
        have p265 : 0 ≤ (x5_1 : Int) := of_decide_eq_true (by first | (with_reducible assumption) | assumption)
        have q265 : x5_1 < (l0.length : Int) := of_decide_eq_true (by first | (with_reducible assumption) | assumption)
        obtain ⟨ad265, e265, hx265_0, hx265_1⟩ := at_T73 HR0.out x5_1 p265 q265
        cases e265
        replace p265 := eq_true p265
        replace q265 := eq_true q265
        have p266 : 0 ≤ (x5_1 : Int) := of_decide_eq_true (by first | (with_reducible assumption) | assumption)
        have q266 : x5_1 < (l1.length : Int) := of_decide_eq_true (by first | (with_reducible assumption) | assumption)
        obtain ⟨ad266, e266, hx266_0, hx266_1⟩ := at_T73 HR1.out x5_1 p266 q266
        cases e266
        replace p266 := eq_true p266
        replace q266 := eq_true q266
        go_wp2
        repeat (go_quiet (fail); try go_wp2)
        go_ret
        exact ⟨by first | rfl | (simp; done) | (simp [*]; done), by repeat (first | exact Drawn0.refl _ | apply Drawn0.step)⟩
       ·rw [if_neg c7] at H
        have c7b0 : (!((((rd_T73 l0 x5_1).f0).toList) == (((rd_T73 l1 x5_1).f0).toList)) || (!(((rd_T73 l0 x5_1).f1) == ((rd_T73 l1 x5_1).f1)))) = false := by simpa using c7
        clear c7
        have H' := Aside0.mk H
        clear H
        have p265 : 0 ≤ (x5_1 : Int) := of_decide_eq_true (by first | (with_reducible assumption) | assumption)
        have q265 : x5_1 < (l0.length : Int) := of_decide_eq_true (by first | (with_reducible assumption) | assumption)
        obtain ⟨ad265, e265, hx265_0, hx265_1⟩ := at_T73 HR0.out x5_1 p265 q265
        cases e265
        replace p265 := eq_true p265
        replace q265 := eq_true q265
        have p266 : 0 ≤ (x5_1 : Int) := of_decide_eq_true (by first | (with_reducible assumption) | assumption)
        have q266 : x5_1 < (l1.length : Int) := of_decide_eq_true (by first | (with_reducible assumption) | assumption)
        obtain ⟨ad266, e266, hx266_0, hx266_1⟩ := at_T73 HR1.out x5_1 p266 q266
        cases e266
        replace p266 := eq_true p266
        replace q266 := eq_true q266
        go_wp2
        repeat (go_quiet (fail); try go_wp2)
        go_roundg k1
        case measure => have := HK1.out; omega
        case rel => exact ⟨(wrap64 (x5_1 + 1)), (by first | rfl | (simp; done) | (simp [*]; done)), H', ⟨by have := HK1.out; omega⟩, by repeat (first | exact Drawn0.refl _ | apply Drawn0.step)⟩
      ·rw [if_neg c6] at H
       exact absurd H (by simp)
     ·rw [if_neg c5] at H
      exact absurd H (by simp)
    ·rw [if_neg c4] at H
     have c4b0 : decide (x5_1 < (l0.length : Int)) = false := decide_eq_false c4
     clear c4
     obtain rfl := Option.some.inj H
     go_wp2
     repeat (go_quiet (fail); try go_wp2)
     go_ret
     exact ⟨by first | rfl | (simp; done) | (simp [*]; done), by repeat (first | exact Drawn0.refl _ | apply Drawn0.step)⟩
 ·rw [if_neg c3] at H
  have c3b0 : ((l0.length : Int) == (l1.length : Int)) = false := beq_eq_false_iff_ne.mpr c3
  have c3b1 : ((l0.length : Int) != (l1.length : Int)) = true := bne_iff_ne.mpr c3
  have c3b2 : (l0.length == l1.length) = false := by first | simpa using c3 | (simp at c3 ⊢; omega)
  obtain rfl := Option.some.inj H
  go_enter Tryz.func44, Tryz.ntmps44
  go_wp2
  repeat (go_quiet (fail); try go_wp2)
  go_ret
  exact ⟨by first | rfl | (simp; done) | (simp [*]; done), by repeat (first | exact Drawn0.refl _ | apply Drawn0.step)⟩

end Go.Proofs.YtmcddoolniaehaaGreat.S
end
section
namespace Go.Proofs.YtmcddoolniaehaaGreat.S
open Go.RowKit Go.Proofs.YtmcddoolniaehaaGreatW.PrintWords Go.Proofs.YtmcddoolniaehaaGreatW.PrintLast Go.Proofs.YtmcddoolniaehaaGreatW.PrintMore
attribute [local go_sem] max2_int min2_int max_two min_two max_three min_three max_four min_four   -- for this text's walks alone
set_option linter.unusedVariables false
set_option linter.unusedSimpArgs false

attribute [local go_sem high] eqA47
def ref07_Same.l0 : Nat → List (S47) → List (S47) → Int → Option (Bool)
 | 0, _, _, _ => none
 | k + 1, x0, x1, x5 => if x5 < (x0.length : Int) then (if 0 ≤ x5 then (if x5 < (x1.length : Int) then (if (!((((rd_T47 x0 x5).f0).toList) == (((rd_T47 x1 x5).f0).toList)) || (!((((rd_T47 x0 x5).f1).toList) == (((rd_T47 x1 x5).f1).toList)) || (!(((rd_T47 x0 x5).f2) == ((rd_T47 x1 x5).f2)) || ((!(((rd_T47 x0 x5).f3.f0) == ((rd_T47 x1 x5).f3.f0)) || (!(((rd_T47 x0 x5).f3.f1) == ((rd_T47 x1 x5).f3.f1)))))))) = true then (some false) else (ref07_Same.l0 k x0 x1 (wrap64 (x5 + 1)))) else (none)) else (none)) else (some true)
def ref07_Same.f (k : Nat) (l0 : List (S47)) (l1 : List (S47)) : Option (Bool) := if (l0.length : Int) = (l1.length : Int) then (ref07_Same.l0 k l0 l1 0) else (some false)
theorem ref07_Same.mono_l : ∀ k, (∀ y0 y1 y2, LeO (ref07_Same.l0 k y0 y1 y2) (ref07_Same.l0 (k + 1) y0 y1 y2))
 | 0 => fun _ _ _ r h => by simp [ref07_Same.l0] at h
 | k + 1 => by
  have ih0 := ref07_Same.mono_l k
  ·intro y0 y1 y2
   unfold ref07_Same.l0
   repeat' first
   | (with_reducible exact ih0 _ _ _)
   | (with_reducible exact LeO.refl _)
   | (with_reducible exact LeO.none _)
   | (with_reducible refine LeO.ite ?_ ?_)
   | (with_reducible refine LeO.bind ?_ (fun _ => ?_))
   | exact ih0 _ _ _
   | exact LeO.none _
   | refine LeO.ite ?_ ?_
   | refine LeO.bind ?_ (fun _ => ?_)
theorem ref07_Same.mono : ∀ a0 a1 k, LeO (ref07_Same.f k a0 a1) (ref07_Same.f (k + 1) a0 a1) := by
 intro a0 a1 k
 have ih0 := ref07_Same.mono_l k
 unfold ref07_Same.f
 repeat' first
   | (with_reducible exact ih0 _ _ _)
   | (with_reducible exact LeO.refl _)
   | (with_reducible exact LeO.none _)
   | (with_reducible refine LeO.ite ?_ ?_)
   | (with_reducible refine LeO.bind ?_ (fun _ => ?_))
   | exact ih0 _ _ _
   | exact LeO.none _
   | refine LeO.ite ?_ ?_
   | refine LeO.bind ?_ (fun _ => ?_)
set_option maxHeartbeats 8000000 in
set_option maxRecDepth 100000 in
theorem ref07_Same.calls (k : Nat) (A0 : Option Addr) (c0 : Nat) (l0 : List (S47)) (A1 : Option Addr) (c1 : Nat) (l1 : List (S47)) (r : Bool) (w : World) (hr0 : Kd.C k47 w A0 l0.length l0) (hc0 : l0.length ≤ c0) (hr1 : Kd.C k47 w A1 l1.length l1) (hc1 : l1.length ≤ c1) (h : ref07_Same.f k l0 l1 = some r) :
  Calls Tryz.prog 45 #[.slice A0 l0.length c0, .slice A1 l1.length c1] w fun e w' => e = .returned (.bool r) ∧ Drawn0 w w' := by
 have hu47 := Tryz.underlying47
 have HR0 := Aside0.mk hr0
 have HC0 := Aside0.mk hc0
 clear hr0 hc0
 have HR1 := Aside0.mk hr1
 have HC1 := Aside0.mk hc1
 clear hr1 hc1
 have H : (if (l0.length : Int) = (l1.length : Int) then (ref07_Same.l0 k l0 l1 0) else (some false)) = some r := h
 clear h
 by_cases c3 : (l0.length : Int) = (l1.length : Int)
 ·rw [if_pos c3] at H
  have c3b0 : ((l0.length : Int) == (l1.length : Int)) = true := beq_iff_eq.mpr c3
  have c3b1 : ((l0.length : Int) != (l1.length : Int)) = false := bne_eq_false_iff_eq.mpr c3
  have c3b2 : (l0.length == l1.length) = true := by first | simpa using c3 | (simp at c3 ⊢; omega)
  clear c3
  have H' := Aside0.mk H
  clear H
  go_enter Tryz.func45, Tryz.ntmps45
  go_wp2
  repeat (go_quiet (fail); try go_wp2)
  go_loopg [5] k (fun kq v5 w' => ∃ (x5_1 : Int), v5 = .int .i64 x5_1 ∧ Aside0 (ref07_Same.l0 kq l0 l1 x5_1 = some r) ∧ Aside0 (kq ≤ k) ∧ Drawn0 w w')
  case atStart => exact ⟨(0), (by first | rfl | (simp; done) | (simp [*]; done)), H', ⟨Nat.le_refl _⟩, by repeat (first | exact Drawn0.refl _ | apply Drawn0.step)⟩
  case round =>
   clear H'
   try clear c1
   try clear p2
   try clear c3
   try clear c3b0
   try clear c3b1
   try clear c3b2
   obtain ⟨x5_1, rfl, HA, HK1, ⟨m1, rfl⟩⟩ := hrel
   cases gk with
   | zero => exact absurd HA.out (by simp [ref07_Same.l0])
   | succ k1 =>
    have H := HA.out
    clear HA
    simp only [ref07_Same.l0] at H
    by_cases c4 : x5_1 < (l0.length : Int)
    ·rw [if_pos c4] at H
     have c4b0 : decide (x5_1 < (l0.length : Int)) = true := decide_eq_true c4
     clear c4
     by_cases c5 : 0 ≤ x5_1
     ·rw [if_pos c5] at H
      have c5b0 : decide (0 ≤ x5_1) = true := decide_eq_true c5
      clear c5
      by_cases c6 : x5_1 < (l1.length : Int)
      ·rw [if_pos c6] at H
       have c6b0 : decide (x5_1 < (l1.length : Int)) = true := decide_eq_true c6
       clear c6
       by_cases c7 : (!((((rd_T47 l0 x5_1).f0).toList) == (((rd_T47 l1 x5_1).f0).toList)) || (!((((rd_T47 l0 x5_1).f1).toList) == (((rd_T47 l1 x5_1).f1).toList)) || (!(((rd_T47 l0 x5_1).f2) == ((rd_T47 l1 x5_1).f2)) || ((!(((rd_T47 l0 x5_1).f3.f0) == ((rd_T47 l1 x5_1).f3.f0)) || (!(((rd_T47 l0 x5_1).f3.f1) == ((rd_T47 l1 x5_1).f3.f1)))))))) = true
       ·rw [if_pos c7] at H
        have c7b0 : (!((((rd_T47 l0 x5_1).f0).toList) == (((rd_T47 l1 x5_1).f0).toList)) || (!((((rd_T47 l0 x5_1).f1).toList) == (((rd_T47 l1 x5_1).f1).toList)) || (!(((rd_T47 l0 x5_1).f2) == ((rd_T47 l1 x5_1).f2)) || ((!(((rd_T47 l0 x5_1).f3.f0) == ((rd_T47 l1 x5_1).f3.f0)) || (!(((rd_T47 l0 x5_1).f3.f1) == ((rd_T47 l1 x5_1).f3.f1)))))))) = true := c7
        clear c7
        obtain rfl := Option.some.inj H
        have p267 : 0 ≤ (x5_1 : Int) := of_decide_eq_true (by first | (with_reducible assumption) | assumption)
        have q267 : x5_1 < (l0.length : Int) := of_decide_eq_true (by first | (with_reducible assumption) | assumption)
        obtain ⟨ad267, e267, hx267_0, hx267_1, hx267_2, hx267_3, hx267_4⟩ := at_T47 HR0.out x5_1 p267 q267
        cases e267
        replace p267 := eq_true p267
        replace q267 := eq_true q267
        have p268 : 0 ≤ (x5_1 : Int) := of_decide_eq_true (by first | (with_reducible assumption) | assumption)
        have q268 : x5_1 < (l1.length : Int) := of_decide_eq_true (by first | (with_reducible assumption) | assumption)
        obtain ⟨ad268, e268, hx268_0, hx268_1, hx268_2, hx268_3, hx268_4⟩ := at_T47 HR1.out x5_1 p268 q268
        cases e268
        replace p268 := eq_true p268
        replace q268 := eq_true q268
        go_wp2
        repeat (go_quiet (fail); try go_wp2)
        go_ret
        exact ⟨by first | rfl | (simp; done) | (simp [*]; done), by repeat (first | exact Drawn0.refl _ | apply Drawn0.step)⟩
       ·rw [if_neg c7] at H
        have c7b0 : (!((((rd_T47 l0 x5_1).f0).toList) == (((rd_T47 l1 x5_1).f0).toList)) || (!((((rd_T47 l0 x5_1).f1).toList) == (((rd_T47 l1 x5_1).f1).toList)) || (!(((rd_T47 l0 x5_1).f2) == ((rd_T47 l1 x5_1).f2)) || ((!(((rd_T47 l0 x5_1).f3.f0) == ((rd_T47 l1 x5_1).f3.f0)) || (!(((rd_T47 l0 x5_1).f3.f1) == ((rd_T47 l1 x5_1).f3.f1)))))))) = false := by simpa using c7
        clear c7
        have H' := Aside0.mk H
        clear H
        have p267 : 0 ≤ (x5_1 : Int) := of_decide_eq_true (by first | (with_reducible assumption) | assumption)
        have q267 : x5_1 < (l0.length : Int) := of_decide_eq_true (by first | (with_reducible assumption) | assumption)
        obtain ⟨ad267, e267, hx267_0, hx267_1, hx267_2, hx267_3, hx267_4⟩ := at_T47 HR0.out x5_1 p267 q267
        cases e267
        replace p267 := eq_true p267
        replace q267 := eq_true q267
        have p268 : 0 ≤ (x5_1 : Int) := of_decide_eq_true (by first | (with_reducible assumption) | assumption)
        have q268 : x5_1 < (l1.length : Int) := of_decide_eq_true (by first | (with_reducible assumption) | assumption)
        obtain ⟨ad268, e268, hx268_0, hx268_1, hx268_2, hx268_3, hx268_4⟩ := at_T47 HR1.out x5_1 p268 q268
        cases e268
        replace p268 := eq_true p268
        replace q268 := eq_true q268
        go_wp2
        repeat (go_quiet (fail); try go_wp2)
        go_roundg k1
        case measure => have := HK1.out; omega
        case rel => exact ⟨(wrap64 (x5_1 + 1)), (by first | rfl | (simp; done) | (simp [*]; done)), H', ⟨by have := HK1.out; omega⟩, by repeat (first | exact Drawn0.refl _ | apply Drawn0.step)⟩
      ·rw [if_neg c6] at H
       exact absurd H (by simp)
     ·rw [if_neg c5] at H
      exact absurd H (by simp)
    ·rw [if_neg c4] at H
     have c4b0 : decide (x5_1 < (l0.length : Int)) = false := decide_eq_false c4
     clear c4
     obtain rfl := Option.some.inj H
     go_wp2
     repeat (go_quiet (fail); try go_wp2)
     go_ret
     exact ⟨by first | rfl | (simp; done) | (simp [*]; done), by repeat (first | exact Drawn0.refl _ | apply Drawn0.step)⟩
 ·rw [if_neg c3] at H
  have c3b0 : ((l0.length : Int) == (l1.length : Int)) = false := beq_eq_false_iff_ne.mpr c3
  have c3b1 : ((l0.length : Int) != (l1.length : Int)) = true := bne_iff_ne.mpr c3
  have c3b2 : (l0.length == l1.length) = false := by first | simpa using c3 | (simp at c3 ⊢; omega)
  obtain rfl := Option.some.inj H
  go_enter Tryz.func45, Tryz.ntmps45
  go_wp2
  repeat (go_quiet (fail); try go_wp2)
  go_ret
  exact ⟨by first | rfl | (simp; done) | (simp [*]; done), by repeat (first | exact Drawn0.refl _ | apply Drawn0.step)⟩

end Go.Proofs.YtmcddoolniaehaaGreat.S
end
section
namespace Go.Proofs.YtmcddoolniaehaaGreat.S
open Go.RowKit Go.Proofs.YtmcddoolniaehaaGreatW.PrintWords Go.Proofs.YtmcddoolniaehaaGreatW.PrintLast Go.Proofs.YtmcddoolniaehaaGreatW.PrintMore
attribute [local go_sem] max2_int min2_int max_two min_two max_three min_three max_four min_four   -- for this text's walks alone
set_option linter.unusedVariables false
set_option linter.unusedSimpArgs false

attribute [local go_sem high] eqA43
def ref08_Same.l0 : Nat → List (S43) → List (S43) → Int → Option (Bool)
 | 0, _, _, _ => none
 | k + 1, x0, x1, x5 => if x5 < (x0.length : Int) then (if 0 ≤ x5 then (if x5 < (x1.length : Int) then (if (!((((rd_T43 x0 x5).f0).toList) == (((rd_T43 x1 x5).f0).toList)) || (!((((rd_T43 x0 x5).f1).toList) == (((rd_T43 x1 x5).f1).toList)) || ((!(((rd_T43 x0 x5).f2.f0) == ((rd_T43 x1 x5).f2.f0)) || (!(((rd_T43 x0 x5).f2.f1) == ((rd_T43 x1 x5).f2.f1))))))) = true then (some false) else (ref08_Same.l0 k x0 x1 (wrap64 (x5 + 1)))) else (none)) else (none)) else (some true)
def ref08_Same.f (k : Nat) (l0 : List (S43)) (l1 : List (S43)) : Option (Bool) := if (l0.length : Int) = (l1.length : Int) then (ref08_Same.l0 k l0 l1 0) else (some false)
theorem ref08_Same.mono_l : ∀ k, (∀ y0 y1 y2, LeO (ref08_Same.l0 k y0 y1 y2) (ref08_Same.l0 (k + 1) y0 y1 y2))
 | 0 => fun _ _ _ r h => by simp [ref08_Same.l0] at h
 | k + 1 => by
  have ih0 := ref08_Same.mono_l k
  ·intro y0 y1 y2
   unfold ref08_Same.l0
   repeat' first
   | (with_reducible exact ih0 _ _ _)
   | (with_reducible exact LeO.refl _)
   | (with_reducible exact LeO.none _)
   | (with_reducible refine LeO.ite ?_ ?_)
   | (with_reducible refine LeO.bind ?_ (fun _ => ?_))
   | exact ih0 _ _ _
   | exact LeO.none _
   | refine LeO.ite ?_ ?_
   | refine LeO.bind ?_ (fun _ => ?_)
theorem ref08_Same.mono : ∀ a0 a1 k, LeO (ref08_Same.f k a0 a1) (ref08_Same.f (k + 1) a0 a1) := by
 intro a0 a1 k
 have ih0 := ref08_Same.mono_l k
 unfold ref08_Same.f
 repeat' first
   | (with_reducible exact ih0 _ _ _)
   | (with_reducible exact LeO.refl _)
   | (with_reducible exact LeO.none _)
   | (with_reducible refine LeO.ite ?_ ?_)
   | (with_reducible refine LeO.bind ?_ (fun _ => ?_))
   | exact ih0 _ _ _
   | exact LeO.none _
   | refine LeO.ite ?_ ?_
   | refine LeO.bind ?_ (fun _ => ?_)
set_option maxHeartbeats 8000000 in
set_option maxRecDepth 100000 in
theorem ref08_Same.calls (k : Nat) (A0 : Option Addr) (c0 : Nat) (l0 : List (S43)) (A1 : Option Addr) (c1 : Nat) (l1 : List (S43)) (r : Bool) (w : World) (hr0 : Kd.C k43 w A0 l0.length l0) (hc0 : l0.length ≤ c0) (hr1 : Kd.C k43 w A1 l1.length l1) (hc1 : l1.length ≤ c1) (h : ref08_Same.f k l0 l1 = some r) :
  Calls Tryz.prog 46 #[.slice A0 l0.length c0, .slice A1 l1.length c1] w fun e w' => e = .returned (.bool r) ∧ Drawn0 w w' := by
 have hu43 := Tryz.underlying43
 have HR0 := Aside0.mk hr0
 have HC0 := Aside0.mk hc0
 clear hr0 hc0
 have HR1 := Aside0.mk hr1
 have HC1 := Aside0.mk hc1
 clear hr1 hc1
 have H : (if (l0.length : Int) = (l1.length : Int) then (ref08_Same.l0 k l0 l1 0) else (some false)) = some r := h
 clear h
 by_cases c3 : (l0.length : Int) = (l1.length : Int)
 ·rw [if_pos c3] at H
  have c3b0 : ((l0.length : Int) == (l1.length : Int)) = true := beq_iff_eq.mpr c3
  have c3b1 : ((l0.length : Int) != (l1.length : Int)) = false := bne_eq_false_iff_eq.mpr c3
  have c3b2 : (l0.length == l1.length) = true := by first | simpa using c3 | (simp at c3 ⊢; omega)
  clear c3
  have H' := Aside0.mk H
  clear H
  go_enter Tryz.func46, Tryz.ntmps46
  go_wp2
  repeat (go_quiet (fail); try go_wp2)
  go_loopg [5] k (fun kq v5 w' => ∃ (x5_1 : Int), v5 = .int .i64 x5_1 ∧ Aside0 (ref08_Same.l0 kq l0 l1 x5_1 = some r) ∧ Aside0 (kq ≤ k) ∧ Drawn0 w w')
  case atStart => exact ⟨(0), (by first | rfl | (simp; done) | (simp [*]; done)), H', ⟨Nat.le_refl _⟩, by repeat (first | exact Drawn0.refl _ | apply Drawn0.step)⟩
  case round =>
   clear H'
   try clear c1
   try clear p2
   try clear c3
   try clear c3b0
   try clear c3b1
   try clear c3b2
   obtain ⟨x5_1, rfl, HA, HK1, ⟨m1, rfl⟩⟩ := hrel
   cases gk with
   | zero => exact absurd HA.out (by simp [ref08_Same.l0])
   | succ k1 =>
    have H := HA.out
    clear HA
    simp only [ref08_Same.l0] at H
    by_cases c4 : x5_1 < (l0.length : Int)
    ·rw [if_pos c4] at H
     have c4b0 : decide (x5_1 < (l0.length : Int)) = true := decide_eq_true c4
     clear c4
     by_cases c5 : 0 ≤ x5_1
     ·rw [if_pos c5] at H
      have c5b0 : decide (0 ≤ x5_1) = true := decide_eq_true c5
      clear c5
      by_cases c6 : x5_1 < (l1.length : Int)
      ·rw [if_pos c6] at H
       have c6b0 : decide (x5_1 < (l1.length : Int)) = true := decide_eq_true c6
       clear c6
       by_cases c7 : (!((((rd_T43 l0 x5_1).f0).toList) == (((rd_T43 l1 x5_1).f0).toList)) || (!((((rd_T43 l0 x5_1).f1).toList) == (((rd_T43 l1 x5_1).f1).toList)) || ((!(((rd_T43 l0 x5_1).f2.f0) == ((rd_T43 l1 x5_1).f2.f0)) || (!(((rd_T43 l0 x5_1).f2.f1) == ((rd_T43 l1 x5_1).f2.f1))))))) = true
       ·rw [if_pos c7] at H
        have c7b0 : (!((((rd_T43 l0 x5_1).f0).toList) == (((rd_T43 l1 x5_1).f0).toList)) || (!((((rd_T43 l0 x5_1).f1).toList) == (((rd_T43 l1 x5_1).f1).toList)) || ((!(((rd_T43 l0 x5_1).f2.f0) == ((rd_T43 l1 x5_1).f2.f0)) || (!(((rd_T43 l0 x5_1).f2.f1) == ((rd_T43 l1 x5_1).f2.f1))))))) = true := c7
        clear c7
        obtain rfl := Option.some.inj H
        have p269 : 0 ≤ (x5_1 : Int) := of_decide_eq_true (by first | (with_reducible assumption) | assumption)
        have q269 : x5_1 < (l0.length : Int) := of_decide_eq_true (by first | (with_reducible assumption) | assumption)
        obtain ⟨ad269, e269, hx269_0, hx269_1, hx269_2, hx269_3⟩ := at_T43 HR0.out x5_1 p269 q269
        cases e269
        replace p269 := eq_true p269
        replace q269 := eq_true q269
        have p270 : 0 ≤ (x5_1 : Int) := of_decide_eq_true (by first | (with_reducible assumption) | assumption)
        have q270 : x5_1 < (l1.length : Int) := of_decide_eq_true (by first | (with_reducible assumption) | assumption)
        obtain ⟨ad270, e270, hx270_0, hx270_1, hx270_2, hx270_3⟩ := at_T43 HR1.out x5_1 p270 q270
        cases e270
        replace p270 := eq_true p270
        replace q270 := eq_true q270
        go_wp2
        repeat (go_quiet (fail); try go_wp2)
        go_ret
        exact ⟨by first | rfl | (simp; done) | (simp [*]; done), by repeat (first | exact Drawn0.refl _ | apply Drawn0.step)⟩
       ·rw [if_neg c7] at H
        have c7b0 : (!((((rd_T43 l0 x5_1).f0).toList) == (((rd_T43 l1 x5_1).f0).toList)) || (!((((rd_T43 l0 x5_1).f1).toList) == (((rd_T43 l1 x5_1).f1).toList)) || ((!(((rd_T43 l0 x5_1).f2.f0) == ((rd_T43 l1 x5_1).f2.f0)) || (!(((rd_T43 l0 x5_1).f2.f1) == ((rd_T43 l1 x5_1).f2.f1))))))) = false := by simpa using c7
        clear c7
        have H' := Aside0.mk H
        clear H
        have p269 : 0 ≤ (x5_1 : Int) := of_decide_eq_true (by first | (with_reducible assumption) | assumption)
        have q269 : x5_1 < (l0.length : Int) := of_decide_eq_true (by first | (with_reducible assumption) | assumption)
        obtain ⟨ad269, e269, hx269_0, hx269_1, hx269_2, hx269_3⟩ := at_T43 HR0.out x5_1 p269 q269
        cases e269
        replace p269 := eq_true p269
        replace q269 := eq_true q269
        have p270 : 0 ≤ (x5_1 : Int) := of_decide_eq_true (by first | (with_reducible assumption) | assumption)
        have q270 : x5_1 < (l1.length : Int) := of_decide_eq_true (by first | (with_reducible assumption) | assumption)
        obtain ⟨ad270, e270, hx270_0, hx270_1, hx270_2, hx270_3⟩ := at_T43 HR1.out x5_1 p270 q270
        cases e270
        replace p270 := eq_true p270
        replace q270 := eq_true q270
        go_wp2
        repeat (go_quiet (fail); try go_wp2)
        go_roundg k1
        case measure => have := HK1.out; omega
        case rel => exact ⟨(wrap64 (x5_1 + 1)), (by first | rfl | (simp; done) | (simp [*]; done)), H', ⟨by have := HK1.out; omega⟩, by repeat (first | exact Drawn0.refl _ | apply Drawn0.step)⟩
      ·rw [if_neg c6] at H
       exact absurd H (by simp)
     ·rw [if_neg c5] at H
      exact absurd H (by simp)
    ·rw [if_neg c4] at H
     have c4b0 : decide (x5_1 < (l0.length : Int)) = false := decide_eq_false c4
     clear c4
     obtain rfl := Option.some.inj H
     go_wp2
     repeat (go_quiet (fail); try go_wp2)
     go_ret
     exact ⟨by first | rfl | (simp; done) | (simp [*]; done), by repeat (first | exact Drawn0.refl _ | apply Drawn0.step)⟩
 ·rw [if_neg c3] at H
  have c3b0 : ((l0.length : Int) == (l1.length : Int)) = false := beq_eq_false_iff_ne.mpr c3
  have c3b1 : ((l0.length : Int) != (l1.length : Int)) = true := bne_iff_ne.mpr c3
  have c3b2 : (l0.length == l1.length) = false := by first | simpa using c3 | (simp at c3 ⊢; omega)
  obtain rfl := Option.some.inj H
  go_enter Tryz.func46, Tryz.ntmps46
  go_wp2
  repeat (go_quiet (fail); try go_wp2)
  go_ret
  exact ⟨by first | rfl | (simp; done) | (simp [*]; done), by repeat (first | exact Drawn0.refl _ | apply Drawn0.step)⟩

end Go.Proofs.YtmcddoolniaehaaGreat.S
end
section
namespace Go.Proofs.YtmcddoolniaehaaGreat.S
open Go.RowKit Go.Proofs.YtmcddoolniaehaaGreatW.PrintWords Go.Proofs.YtmcddoolniaehaaGreatW.PrintLast Go.Proofs.YtmcddoolniaehaaGreatW.PrintMore Go.Proofs.YtmcddoolniaehaaGreatW
set_option linter.unusedVariables false
set_option linter.unusedSimpArgs false
theorem smC (l m : List S73) : ∀ k x, ref06_Same.l0 k l m x = api_Ctr.l0 k l m (l.length : Int) x
  | 0, x => rfl
  | k + 1, x => by
    simp only [ref06_Same.l0, api_Ctr.l0, smC l m k]
    by_cases h : x < (l.length : Int)
    · simp only [if_pos h]
    · simp only [if_neg h]
theorem smC_f (k : Nat) (l m : List S73) (hk : l.length < k) (hl : l.length < 1000000) : ref06_Same.f k l m = some (eqB l m) := by
  rw [← eqC_f k l m hk hl]
  unfold ref06_Same.f api_Ctr.f
  rw [smC]
theorem smR (l m : List S47) : ∀ k x, ref07_Same.l0 k l m x = api_Reg.l0 k l m (l.length : Int) x
  | 0, x => rfl
  | k + 1, x => by
    simp only [ref07_Same.l0, api_Reg.l0, smR l m k]
    by_cases h : x < (l.length : Int)
    · simp only [if_pos h]
    · simp only [if_neg h]
theorem smR_f (k : Nat) (l m : List S47) (hk : l.length < k) (hl : l.length < 1000000) : ref07_Same.f k l m = some (eqB l m) := by
  rw [← eqR_f k l m hk hl]
  unfold ref07_Same.f api_Reg.f
  rw [smR]
theorem smP (l m : List S43) : ∀ k x, ref08_Same.l0 k l m x = api_Pair.l0 k l m (l.length : Int) x
  | 0, x => rfl
  | k + 1, x => by
    simp only [ref08_Same.l0, api_Pair.l0, smP l m k]
    by_cases h : x < (l.length : Int)
    · simp only [if_pos h]
    · simp only [if_neg h]
theorem smP_f (k : Nat) (l m : List S43) (hk : l.length < k) (hl : l.length < 1000000) : ref08_Same.f k l m = some (eqB l m) := by
  rw [← eqP_f k l m hk hl]
  unfold ref08_Same.f api_Pair.f
  rw [smP]
def FitR (s : St) : Prop := FitS 30 s ∧ smL s.p
theorem few_fitR {s : St} (h : fewS s = true) (ho : okL s.p) : FitR s := ⟨few_fit h ho, by
  unfold fewS at h
  simp only [Bool.and_eq_true] at h
  exact fewP_sm h.2.2⟩
set_option maxRecDepth 100000 in
theorem rmay_calls {W : World} {cs : List Value} {s : St} (hv : StV W cs s) (h : FitR s) : Calls Tryz.prog 14 #[.agg cs.toArray] W fun e w' => e = .returned (.bool (mayS s)) ∧ Below W.heap.size W w' := by
  obtain ⟨A0, a0, A1, a1, A2, a2, rfl, h1, h2, h3, h4, h5, h6⟩ := hv
  obtain ⟨⟨⟨l0, l1, l2⟩, q0, q1, _⟩, q2⟩ := h
  have K0 := Aside0.mk (fun (W1 : World) (hb : Below W.heap.size W W1) => ref06_May.calls 400 A0 a0 s.c (mayC s.c) W1 (Kd.C_below h1 hb) h2 (mayD_f 400 s.c (by omega) (by omega) q0))
  have K1 := Aside0.mk (fun (W1 : World) (hb : Below W.heap.size W W1) => ref07_May.calls 400 A1 a1 s.r (mayB s.r) W1 (Kd.C_below h3 hb) h4 (mayRef_f 400 s.r (by omega) (by omega) q1))
  have K2 := Aside0.mk (fun (W1 : World) (hb : Below W.heap.size W W1) => ref08_May.calls 400 A2 a2 s.p (mayP s.p) W1 (Kd.C_below h5 hb) h6 (rmay_f 400 s.p (by omega) (by omega) q2))
  rw [show mayS s = (mayC s.c && (mayB s.r && mayP s.p)) from rfl]
  generalize mayC s.c = b0 at *
  generalize mayB s.r = b1 at *
  generalize mayP s.p = b2 at *
  clear h1 h2 h3 h4 h5 h6 l0 l1 l2 q0 q1 q2
  have hBX := Bx.new (Below.refl W.heap.size W) (.cells #[.slice A0 s.c.length a0, .slice A1 s.r.length a1, .slice A2 s.p.length a2] 26)
  go_enter Tryz.func14, Tryz.ntmps14
  go_wp2_with fail
  revert hBX
  generalize W.alloc (.cells #[.slice A0 s.c.length a0, .slice A1 s.r.length a1, .slice A2 s.p.length a2] 26) = W1
  intro hBX
  obtain ⟨c0, c1, c2⟩ := cells3 hBX.x
  go_wp2_with fail
  refine (K0.out _ hBX.b).mono ?_
  rintro e V0 ⟨rfl, hb⟩
  replace hBX := hBX.go hb
  clear hb c0 c1 c2 K0
  obtain ⟨c0, c1, c2⟩ := cells3 hBX.x
  go_wp2_with fail
  refine (K1.out _ hBX.b).mono ?_
  rintro e V1 ⟨rfl, hb⟩
  replace hBX := hBX.go hb
  clear hb c0 c1 c2 K1
  obtain ⟨c0, c1, c2⟩ := cells3 hBX.x
  go_wp2_with fail
  refine (K2.out _ hBX.b).mono ?_
  rintro e V2 ⟨rfl, hb⟩
  replace hBX := hBX.go hb
  clear hb c0 c1 c2 K2
  cases b0 <;> cases b1 <;> cases b2
  all_goals
    go_wp2
    go_ret
    exact ⟨rfl, hBX.b⟩
set_option maxRecDepth 100000 in
theorem rsame_calls {W : World} {cs ds : List Value} {s t : St} (hv : StV W cs s) (hw : StV W ds t) (h : FitS 900 s) : Calls Tryz.prog 13 #[.agg cs.toArray, .agg ds.toArray] W fun e w' => e = .returned (.bool (sameS s t)) ∧ Below W.heap.size W w' := by
  obtain ⟨A0, a0, A1, a1, A2, a2, rfl, h1, h2, h3, h4, h5, h6⟩ := hv
  obtain ⟨B0, b0, B1, b1, B2, b2, rfl, g1, g2, g3, g4, g5, g6⟩ := hw
  obtain ⟨l0, l1, l2⟩ := h.1
  have K0 := Aside0.mk (fun (W1 : World) (hb : Below W.heap.size W W1) => ref06_Same.calls 1000 A0 a0 s.c B0 b0 t.c (eqB s.c t.c) W1 (Kd.C_below h1 hb) h2 (Kd.C_below g1 hb) g2 (smC_f 1000 s.c t.c (by omega) (by omega)))
  have K1 := Aside0.mk (fun (W1 : World) (hb : Below W.heap.size W W1) => ref07_Same.calls 1000 A1 a1 s.r B1 b1 t.r (eqB s.r t.r) W1 (Kd.C_below h3 hb) h4 (Kd.C_below g3 hb) g4 (smR_f 1000 s.r t.r (by omega) (by omega)))
  have K2 := Aside0.mk (fun (W1 : World) (hb : Below W.heap.size W W1) => ref08_Same.calls 1000 A2 a2 s.p B2 b2 t.p (eqB s.p t.p) W1 (Kd.C_below h5 hb) h6 (Kd.C_below g5 hb) g6 (smP_f 1000 s.p t.p (by omega) (by omega)))
  rw [show sameS s t = (eqB s.c t.c && (eqB s.r t.r && eqB s.p t.p)) from rfl]
  generalize eqB s.c t.c = e0 at *
  generalize eqB s.r t.r = e1 at *
  generalize eqB s.p t.p = e2 at *
  clear h1 h2 h3 h4 h5 h6 g1 g2 g3 g4 g5 g6 l0 l1 l2 h
  have hBX := Bx.new (Below.refl W.heap.size W) (.cells #[.slice A0 s.c.length a0, .slice A1 s.r.length a1, .slice A2 s.p.length a2] 26)
  have hBY := Bx.new hBX.b (.cells #[.slice B0 t.c.length b0, .slice B1 t.r.length b1, .slice B2 t.p.length b2] 26)
  replace hBX := hBX.go (below_alloc (Below.refl _ _) (.cells #[.slice B0 t.c.length b0, .slice B1 t.r.length b1, .slice B2 t.p.length b2] 26))
  rw [World.size_alloc] at hBY
  go_enter Tryz.func13, Tryz.ntmps13
  go_wp2_with fail
  revert hBX hBY
  generalize (W.alloc (.cells #[.slice A0 s.c.length a0, .slice A1 s.r.length a1, .slice A2 s.p.length a2] 26)).alloc (.cells #[.slice B0 t.c.length b0, .slice B1 t.r.length b1, .slice B2 t.p.length b2] 26) = W1
  intro hBX hBY
  obtain ⟨c0, c1, c2⟩ := cells3 hBX.x
  obtain ⟨d0, d1, d2⟩ := cells3 hBY.x
  go_wp2_with fail
  refine (K0.out _ hBX.b).mono ?_
  rintro e V0 ⟨rfl, hb⟩
  replace hb := drawn_b hb
  replace hBX := hBX.go hb
  replace hBY := hBY.go hb
  clear hb c0 c1 c2 d0 d1 d2 K0
  obtain ⟨c0, c1, c2⟩ := cells3 hBX.x
  obtain ⟨d0, d1, d2⟩ := cells3 hBY.x
  go_wp2_with fail
  refine (K1.out _ hBX.b).mono ?_
  rintro e V1 ⟨rfl, hb⟩
  replace hb := drawn_b hb
  replace hBX := hBX.go hb
  replace hBY := hBY.go hb
  clear hb c0 c1 c2 d0 d1 d2 K1
  obtain ⟨c0, c1, c2⟩ := cells3 hBX.x
  obtain ⟨d0, d1, d2⟩ := cells3 hBY.x
  go_wp2_with fail
  refine (K2.out _ hBX.b).mono ?_
  rintro e V2 ⟨rfl, hb⟩
  replace hb := drawn_b hb
  replace hBX := hBX.go hb
  replace hBY := hBY.go hb
  clear hb c0 c1 c2 d0 d1 d2 K2
  cases e0 <;> cases e1 <;> cases e2
  all_goals
    go_wp2
    go_ret
    exact ⟨rfl, hBX.b⟩
end Go.Proofs.YtmcddoolniaehaaGreat.S
end
