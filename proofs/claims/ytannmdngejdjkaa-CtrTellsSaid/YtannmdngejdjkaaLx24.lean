-- PRINTED by print.py (a twelfth state) out of the translation. Not trusted: Lean checks it.
import Derived.Test.YtannmdngejdjkaaLx0
import Derived.Test.YtannmdngejdjkaaLx11
namespace Go.Proofs.Ytannmdngejdjkaa.L
open Go.RowKit Go.Proofs.YtannmdngejdjkaaW.PrintWords Go.Proofs.YtannmdngejdjkaaW.PrintLast Go.Proofs.YtannmdngejdjkaaW.PrintMore
attribute [local go_sem] max2_int min2_int max_two min_two max_three min_three max_four min_four   -- for this text's walks alone
set_option linter.unusedVariables false
set_option linter.unusedSimpArgs false

/-! ### ref06_May: function 35 -/
def ref06_May.l0 : Nat → List (S53) → Int → Option (Bool)
 | 0, _, _ => none
 | k + 1, x0, x3 => if x3 < (x0.length : Int) then (if 0 ≤ x3 then ((ref05_Key.f k ((rd_T53 x0 x3).f0)).bind fun t437 => (if t437 = true then (if ((rd_T53 x0 x3).f1) = 0 then (some false) else (if x3 > 0 then (if 0 ≤ (wrap64 (x3 - 1)) then (if (wrap64 (x3 - 1)) < (x0.length : Int) then (if ((Op.bytesLess (((rd_T53 x0 (wrap64 (x3 - 1))).f0).toList) (((rd_T53 x0 x3).f0).toList)) = true) then (ref06_May.l0 k x0 (wrap64 (x3 + 1))) else (some false)) else (none)) else (none)) else (ref06_May.l0 k x0 (wrap64 (x3 + 1))))) else (some false))) else (none)) else (some true)
def ref06_May.f (k : Nat) (l0 : List (S53)) : Option (Bool) := ref06_May.l0 k l0 0
theorem ref06_May.mono_l : ∀ k, (∀ y0 y1, LeO (ref06_May.l0 k y0 y1) (ref06_May.l0 (k + 1) y0 y1))
 | 0 => fun _ _ r h => by simp [ref06_May.l0] at h
 | k + 1 => by
  have ih0 := ref06_May.mono_l k
  ·intro y0 y1
   unfold ref06_May.l0
   repeat' first
   | (with_reducible exact ih0 _ _)
   | (with_reducible exact ref05_Key.mono _ _)
   | (with_reducible exact LeO.refl _)
   | (with_reducible exact LeO.none _)
   | (with_reducible refine LeO.ite ?_ ?_)
   | (with_reducible refine LeO.bind ?_ (fun _ => ?_))
   | exact ih0 _ _
   | exact ref05_Key.mono _ _
   | exact LeO.none _
   | refine LeO.ite ?_ ?_
   | refine LeO.bind ?_ (fun _ => ?_)
theorem ref06_May.mono : ∀ a0 k, LeO (ref06_May.f k a0) (ref06_May.f (k + 1) a0) := by
 intro a0 k
 have ih0 := ref06_May.mono_l k
 unfold ref06_May.f
 repeat' first
   | (with_reducible exact ih0 _ _)
   | (with_reducible exact ref05_Key.mono _ _)
   | (with_reducible exact LeO.refl _)
   | (with_reducible exact LeO.none _)
   | (with_reducible refine LeO.ite ?_ ?_)
   | (with_reducible refine LeO.bind ?_ (fun _ => ?_))
   | exact ih0 _ _
   | exact ref05_Key.mono _ _
   | exact LeO.none _
   | refine LeO.ite ?_ ?_
   | refine LeO.bind ?_ (fun _ => ?_)
set_option maxHeartbeats 8000000 in
set_option maxRecDepth 100000 in
theorem ref06_May.calls (k : Nat) (A0 : Option Addr) (c0 : Nat) (l0 : List (S53)) (r : Bool) (w : World) (hr0 : Kd.C k53 w A0 l0.length l0) (hc0 : l0.length ≤ c0) (h : ref06_May.f k l0 = some r) :
  Calls Try.prog 35 #[.slice A0 l0.length c0] w fun e w' => e = .returned (.bool r) ∧ Drawn0 w w' := by
 have HR0 := Aside0.mk hr0
 have HC0 := Aside0.mk hc0
 clear hr0 hc0
 have H : (ref06_May.l0 k l0 0) = some r := h
 clear h
 have H' := Aside0.mk H
 clear H
 go_enter Try.func35, Try.ntmps35
 go_wp2
 repeat (go_quiet (fail); try go_wp2)
 go_loopg [3] k (fun kq v3 w' => ∃ (x3_1 : Int), v3 = .int .i64 x3_1 ∧ Aside0 (ref06_May.l0 kq l0 x3_1 = some r) ∧ Aside0 (kq ≤ k) ∧ Drawn0 w w')
 case atStart => exact ⟨(0), (by first | rfl | (simp; done) | (simp [*]; done)), H', ⟨Nat.le_refl _⟩, by repeat (first | exact Drawn0.refl _ | apply Drawn0.step)⟩
 case round =>
  clear H'
  obtain ⟨x3_1, rfl, HA, HK1, ⟨m1, rfl⟩⟩ := hrel
  cases gk with
  | zero => exact absurd HA.out (by simp [ref06_May.l0])
  | succ k1 =>
   have H := HA.out
   clear HA
   simp only [ref06_May.l0] at H
   by_cases c2 : x3_1 < (l0.length : Int)
   ·rw [if_pos c2] at H
    have c2b0 : decide (x3_1 < (l0.length : Int)) = true := decide_eq_true c2
    clear c2
    by_cases c3 : 0 ≤ x3_1
    ·rw [if_pos c3] at H
     have c3b0 : decide (0 ≤ x3_1) = true := decide_eq_true c3
     clear c3
     replace H := Option.bind_eq_some_iff.mp H
     obtain ⟨t437, A40, H⟩ := H
     replace H : (if t437 = true then (if ((rd_T53 l0 x3_1).f1) = 0 then (some false) else (if x3_1 > 0 then (if 0 ≤ (wrap64 (x3_1 - 1)) then (if (wrap64 (x3_1 - 1)) < (l0.length : Int) then (if ((Op.bytesLess (((rd_T53 l0 (wrap64 (x3_1 - 1))).f0).toList) (((rd_T53 l0 x3_1).f0).toList)) = true) then (ref06_May.l0 k1 l0 (wrap64 (x3_1 + 1))) else (some false)) else (none)) else (none)) else (ref06_May.l0 k1 l0 (wrap64 (x3_1 + 1))))) else (some false)) = some r := H
     have A4 := Aside0.mk A40
     clear A40
     by_cases c5 : t437 = true
     ·subst c5
      have H1 : (if ((rd_T53 l0 x3_1).f1) = 0 then (some false) else (if x3_1 > 0 then (if 0 ≤ (wrap64 (x3_1 - 1)) then (if (wrap64 (x3_1 - 1)) < (l0.length : Int) then (if ((Op.bytesLess (((rd_T53 l0 (wrap64 (x3_1 - 1))).f0).toList) (((rd_T53 l0 x3_1).f0).toList)) = true) then (ref06_May.l0 k1 l0 (wrap64 (x3_1 + 1))) else (some false)) else (none)) else (none)) else (ref06_May.l0 k1 l0 (wrap64 (x3_1 + 1))))) = some r := by rw [if_pos rfl] at H; exact H
      clear H
      have H := H1
      clear H1
      by_cases c6 : ((rd_T53 l0 x3_1).f1) = 0
      ·rw [if_pos c6] at H
       have c6b0 : (((rd_T53 l0 x3_1).f1) == 0) = true := beq_iff_eq.mpr c6
       have c6b1 : (((rd_T53 l0 x3_1).f1) != 0) = false := bne_eq_false_iff_eq.mpr c6
       clear c6
       obtain rfl := Option.some.inj H
       have p436 : 0 ≤ (x3_1 : Int) := of_decide_eq_true (by first | (with_reducible assumption) | assumption)
       have q436 : x3_1 < (l0.length : Int) := of_decide_eq_true (by first | (with_reducible assumption) | assumption)
       obtain ⟨ad436, e436, hx436_0, hx436_1⟩ := at_T53 HR0.out x3_1 p436 q436
       cases e436
       replace p436 := eq_true p436
       replace q436 := eq_true q436
       go_wp2_with (first | (go_at_call 44; (with_reducible refine (ref05_Key.calls k1 ((rd_T53 l0 x3_1).f0) true _ A4.out).mono ?_); rintro e w' ⟨rfl, ⟨nd, rfl⟩⟩; (try first | exact ⟨rfl, _, World.drewN_drewN _ _ _⟩ | exact ⟨rfl, _, Eq.trans (World.drewN_drewN _ _ _) (congrArg (World.drewN _) (Nat.add_assoc _ _ _))⟩); have p438 : 0 ≤ (x3_1 : Int) := of_decide_eq_true (by first | (with_reducible assumption) | assumption); have q438 : x3_1 < (l0.length : Int) := of_decide_eq_true (by first | (with_reducible assumption) | assumption); obtain ⟨ad438, e438, hx438_0, hx438_1⟩ := at_T53 HR0.out x3_1 p438 q438; obtain rfl : ad436 = ad438 := (by injection e438); replace p438 := eq_true p438; replace q438 := eq_true q438))
       repeat (go_quiet (first | (go_at_call 44; (with_reducible refine (ref05_Key.calls k1 ((rd_T53 l0 x3_1).f0) true _ A4.out).mono ?_); rintro e w' ⟨rfl, ⟨nd, rfl⟩⟩; (try first | exact ⟨rfl, _, World.drewN_drewN _ _ _⟩ | exact ⟨rfl, _, Eq.trans (World.drewN_drewN _ _ _) (congrArg (World.drewN _) (Nat.add_assoc _ _ _))⟩); have p438 : 0 ≤ (x3_1 : Int) := of_decide_eq_true (by first | (with_reducible assumption) | assumption); have q438 : x3_1 < (l0.length : Int) := of_decide_eq_true (by first | (with_reducible assumption) | assumption); obtain ⟨ad438, e438, hx438_0, hx438_1⟩ := at_T53 HR0.out x3_1 p438 q438; obtain rfl : ad436 = ad438 := (by injection e438); replace p438 := eq_true p438; replace q438 := eq_true q438)); try go_wp2_with (first | (go_at_call 44; (with_reducible refine (ref05_Key.calls k1 ((rd_T53 l0 x3_1).f0) true _ A4.out).mono ?_); rintro e w' ⟨rfl, ⟨nd, rfl⟩⟩; (try first | exact ⟨rfl, _, World.drewN_drewN _ _ _⟩ | exact ⟨rfl, _, Eq.trans (World.drewN_drewN _ _ _) (congrArg (World.drewN _) (Nat.add_assoc _ _ _))⟩); have p438 : 0 ≤ (x3_1 : Int) := of_decide_eq_true (by first | (with_reducible assumption) | assumption); have q438 : x3_1 < (l0.length : Int) := of_decide_eq_true (by first | (with_reducible assumption) | assumption); obtain ⟨ad438, e438, hx438_0, hx438_1⟩ := at_T53 HR0.out x3_1 p438 q438; obtain rfl : ad436 = ad438 := (by injection e438); replace p438 := eq_true p438; replace q438 := eq_true q438)))
       go_ret
       exact ⟨by first | rfl | (simp; done) | (simp [*]; done), by repeat (first | exact Drawn0.refl _ | apply Drawn0.step)⟩
      ·rw [if_neg c6] at H
       have c6b0 : (((rd_T53 l0 x3_1).f1) == 0) = false := beq_eq_false_iff_ne.mpr c6
       have c6b1 : (((rd_T53 l0 x3_1).f1) != 0) = true := bne_iff_ne.mpr c6
       by_cases c7 : x3_1 > 0
       ·rw [if_pos c7] at H
        have c7b0 : decide (0 < x3_1) = true := decide_eq_true c7
        clear c7
        obtain ⟨ji8, hji8⟩ : ∃ j_ : Int, (wrap64 (x3_1 - 1)) = j_ := ⟨_, rfl⟩
        replace H : (if 0 ≤ (ji8) then (if (ji8) < (l0.length : Int) then (if ((Op.bytesLess (((rd_T53 l0 (ji8)).f0).toList) (((rd_T53 l0 x3_1).f0).toList)) = true) then (ref06_May.l0 k1 l0 (wrap64 (x3_1 + 1))) else (some false)) else (none)) else (none)) = some r := by first | (rw [hji8] at H; exact H) | (simp only [hji8] at H ⊢; exact H)
        (try rw [hji8] at A4)
        have hji8w : (IntKind.i64.wrap (x3_1 - 1)) = ji8 := (i64_w _).trans hji8
        by_cases c9 : 0 ≤ (ji8)
        ·rw [if_pos c9] at H
         have c9b0 : decide (0 ≤ (ji8)) = true := decide_eq_true c9
         clear c9
         by_cases c10 : (ji8) < (l0.length : Int)
         ·rw [if_pos c10] at H
          have c10b0 : decide ((ji8) < (l0.length : Int)) = true := decide_eq_true c10
          clear c10
          by_cases c11 : ((Op.bytesLess (((rd_T53 l0 (ji8)).f0).toList) (((rd_T53 l0 x3_1).f0).toList)) = true)
          ·rw [if_pos c11] at H
           have c11b0 : (Op.bytesLess (((rd_T53 l0 (ji8)).f0).toList) (((rd_T53 l0 x3_1).f0).toList)) = true := c11
           clear c11
           have H' := Aside0.mk H
           clear H
           have p436 : 0 ≤ (x3_1 : Int) := of_decide_eq_true (by first | (with_reducible assumption) | assumption)
           have q436 : x3_1 < (l0.length : Int) := of_decide_eq_true (by first | (with_reducible assumption) | assumption)
           obtain ⟨ad436, e436, hx436_0, hx436_1⟩ := at_T53 HR0.out x3_1 p436 q436
           cases e436
           replace p436 := eq_true p436
           replace q436 := eq_true q436
           go_wp2_with (first | (go_at_call 44; (with_reducible refine (ref05_Key.calls k1 ((rd_T53 l0 x3_1).f0) true _ A4.out).mono ?_); rintro e w' ⟨rfl, ⟨nd, rfl⟩⟩; (try first | exact ⟨rfl, _, World.drewN_drewN _ _ _⟩ | exact ⟨rfl, _, Eq.trans (World.drewN_drewN _ _ _) (congrArg (World.drewN _) (Nat.add_assoc _ _ _))⟩); have p438 : 0 ≤ (x3_1 : Int) := of_decide_eq_true (by first | (with_reducible assumption) | assumption); have q438 : x3_1 < (l0.length : Int) := of_decide_eq_true (by first | (with_reducible assumption) | assumption); obtain ⟨ad438, e438, hx438_0, hx438_1⟩ := at_T53 HR0.out x3_1 p438 q438; obtain rfl : ad436 = ad438 := (by injection e438); replace p438 := eq_true p438; replace q438 := eq_true q438; have p439 : 0 ≤ (x3_1 : Int) := of_decide_eq_true (by first | (with_reducible assumption) | assumption); have q439 : x3_1 < (l0.length : Int) := of_decide_eq_true (by first | (with_reducible assumption) | assumption); obtain ⟨ad439, e439, hx439_0, hx439_1⟩ := at_T53 HR0.out x3_1 p439 q439; obtain rfl : ad436 = ad439 := (by injection e439); replace p439 := eq_true p439; replace q439 := eq_true q439; have p440 : 0 ≤ ((ji8) : Int) := of_decide_eq_true (by first | (with_reducible assumption) | assumption); have q440 : (ji8) < (l0.length : Int) := of_decide_eq_true (by first | (with_reducible assumption) | assumption); obtain ⟨ad440, e440, hx440_0, hx440_1⟩ := at_T53 HR0.out (ji8) p440 q440; obtain rfl : ad436 = ad440 := (by injection e440); replace p440 := eq_true p440; replace q440 := eq_true q440))
           repeat (go_quiet (first | (go_at_call 44; (with_reducible refine (ref05_Key.calls k1 ((rd_T53 l0 x3_1).f0) true _ A4.out).mono ?_); rintro e w' ⟨rfl, ⟨nd, rfl⟩⟩; (try first | exact ⟨rfl, _, World.drewN_drewN _ _ _⟩ | exact ⟨rfl, _, Eq.trans (World.drewN_drewN _ _ _) (congrArg (World.drewN _) (Nat.add_assoc _ _ _))⟩); have p438 : 0 ≤ (x3_1 : Int) := of_decide_eq_true (by first | (with_reducible assumption) | assumption); have q438 : x3_1 < (l0.length : Int) := of_decide_eq_true (by first | (with_reducible assumption) | assumption); obtain ⟨ad438, e438, hx438_0, hx438_1⟩ := at_T53 HR0.out x3_1 p438 q438; obtain rfl : ad436 = ad438 := (by injection e438); replace p438 := eq_true p438; replace q438 := eq_true q438; have p439 : 0 ≤ (x3_1 : Int) := of_decide_eq_true (by first | (with_reducible assumption) | assumption); have q439 : x3_1 < (l0.length : Int) := of_decide_eq_true (by first | (with_reducible assumption) | assumption); obtain ⟨ad439, e439, hx439_0, hx439_1⟩ := at_T53 HR0.out x3_1 p439 q439; obtain rfl : ad436 = ad439 := (by injection e439); replace p439 := eq_true p439; replace q439 := eq_true q439; have p440 : 0 ≤ ((ji8) : Int) := of_decide_eq_true (by first | (with_reducible assumption) | assumption); have q440 : (ji8) < (l0.length : Int) := of_decide_eq_true (by first | (with_reducible assumption) | assumption); obtain ⟨ad440, e440, hx440_0, hx440_1⟩ := at_T53 HR0.out (ji8) p440 q440; obtain rfl : ad436 = ad440 := (by injection e440); replace p440 := eq_true p440; replace q440 := eq_true q440)); try go_wp2_with (first | (go_at_call 44; (with_reducible refine (ref05_Key.calls k1 ((rd_T53 l0 x3_1).f0) true _ A4.out).mono ?_); rintro e w' ⟨rfl, ⟨nd, rfl⟩⟩; (try first | exact ⟨rfl, _, World.drewN_drewN _ _ _⟩ | exact ⟨rfl, _, Eq.trans (World.drewN_drewN _ _ _) (congrArg (World.drewN _) (Nat.add_assoc _ _ _))⟩); have p438 : 0 ≤ (x3_1 : Int) := of_decide_eq_true (by first | (with_reducible assumption) | assumption); have q438 : x3_1 < (l0.length : Int) := of_decide_eq_true (by first | (with_reducible assumption) | assumption); obtain ⟨ad438, e438, hx438_0, hx438_1⟩ := at_T53 HR0.out x3_1 p438 q438; obtain rfl : ad436 = ad438 := (by injection e438); replace p438 := eq_true p438; replace q438 := eq_true q438; have p439 : 0 ≤ (x3_1 : Int) := of_decide_eq_true (by first | (with_reducible assumption) | assumption); have q439 : x3_1 < (l0.length : Int) := of_decide_eq_true (by first | (with_reducible assumption) | assumption); obtain ⟨ad439, e439, hx439_0, hx439_1⟩ := at_T53 HR0.out x3_1 p439 q439; obtain rfl : ad436 = ad439 := (by injection e439); replace p439 := eq_true p439; replace q439 := eq_true q439; have p440 : 0 ≤ ((ji8) : Int) := of_decide_eq_true (by first | (with_reducible assumption) | assumption); have q440 : (ji8) < (l0.length : Int) := of_decide_eq_true (by first | (with_reducible assumption) | assumption); obtain ⟨ad440, e440, hx440_0, hx440_1⟩ := at_T53 HR0.out (ji8) p440 q440; obtain rfl : ad436 = ad440 := (by injection e440); replace p440 := eq_true p440; replace q440 := eq_true q440)))
           go_roundg k1
           case measure => have := HK1.out; omega
           case rel => exact ⟨(wrap64 (x3_1 + 1)), (by first | rfl | (simp; done) | (simp [*]; done)), H', ⟨by have := HK1.out; omega⟩, by repeat (first | exact Drawn0.refl _ | apply Drawn0.step)⟩
          ·rw [if_neg c11] at H
           have c11b0 : (Op.bytesLess (((rd_T53 l0 (ji8)).f0).toList) (((rd_T53 l0 x3_1).f0).toList)) = false := by simpa using c11
           clear c11
           obtain rfl := Option.some.inj H
           have p436 : 0 ≤ (x3_1 : Int) := of_decide_eq_true (by first | (with_reducible assumption) | assumption)
           have q436 : x3_1 < (l0.length : Int) := of_decide_eq_true (by first | (with_reducible assumption) | assumption)
           obtain ⟨ad436, e436, hx436_0, hx436_1⟩ := at_T53 HR0.out x3_1 p436 q436
           cases e436
           replace p436 := eq_true p436
           replace q436 := eq_true q436
           go_wp2_with (first | (go_at_call 44; (with_reducible refine (ref05_Key.calls k1 ((rd_T53 l0 x3_1).f0) true _ A4.out).mono ?_); rintro e w' ⟨rfl, ⟨nd, rfl⟩⟩; (try first | exact ⟨rfl, _, World.drewN_drewN _ _ _⟩ | exact ⟨rfl, _, Eq.trans (World.drewN_drewN _ _ _) (congrArg (World.drewN _) (Nat.add_assoc _ _ _))⟩); have p438 : 0 ≤ (x3_1 : Int) := of_decide_eq_true (by first | (with_reducible assumption) | assumption); have q438 : x3_1 < (l0.length : Int) := of_decide_eq_true (by first | (with_reducible assumption) | assumption); obtain ⟨ad438, e438, hx438_0, hx438_1⟩ := at_T53 HR0.out x3_1 p438 q438; obtain rfl : ad436 = ad438 := (by injection e438); replace p438 := eq_true p438; replace q438 := eq_true q438; have p439 : 0 ≤ (x3_1 : Int) := of_decide_eq_true (by first | (with_reducible assumption) | assumption); have q439 : x3_1 < (l0.length : Int) := of_decide_eq_true (by first | (with_reducible assumption) | assumption); obtain ⟨ad439, e439, hx439_0, hx439_1⟩ := at_T53 HR0.out x3_1 p439 q439; obtain rfl : ad436 = ad439 := (by injection e439); replace p439 := eq_true p439; replace q439 := eq_true q439; have p440 : 0 ≤ ((ji8) : Int) := of_decide_eq_true (by first | (with_reducible assumption) | assumption); have q440 : (ji8) < (l0.length : Int) := of_decide_eq_true (by first | (with_reducible assumption) | assumption); obtain ⟨ad440, e440, hx440_0, hx440_1⟩ := at_T53 HR0.out (ji8) p440 q440; obtain rfl : ad436 = ad440 := (by injection e440); replace p440 := eq_true p440; replace q440 := eq_true q440))
           repeat (go_quiet (first | (go_at_call 44; (with_reducible refine (ref05_Key.calls k1 ((rd_T53 l0 x3_1).f0) true _ A4.out).mono ?_); rintro e w' ⟨rfl, ⟨nd, rfl⟩⟩; (try first | exact ⟨rfl, _, World.drewN_drewN _ _ _⟩ | exact ⟨rfl, _, Eq.trans (World.drewN_drewN _ _ _) (congrArg (World.drewN _) (Nat.add_assoc _ _ _))⟩); have p438 : 0 ≤ (x3_1 : Int) := of_decide_eq_true (by first | (with_reducible assumption) | assumption); have q438 : x3_1 < (l0.length : Int) := of_decide_eq_true (by first | (with_reducible assumption) | assumption); obtain ⟨ad438, e438, hx438_0, hx438_1⟩ := at_T53 HR0.out x3_1 p438 q438; obtain rfl : ad436 = ad438 := (by injection e438); replace p438 := eq_true p438; replace q438 := eq_true q438; have p439 : 0 ≤ (x3_1 : Int) := of_decide_eq_true (by first | (with_reducible assumption) | assumption); have q439 : x3_1 < (l0.length : Int) := of_decide_eq_true (by first | (with_reducible assumption) | assumption); obtain ⟨ad439, e439, hx439_0, hx439_1⟩ := at_T53 HR0.out x3_1 p439 q439; obtain rfl : ad436 = ad439 := (by injection e439); replace p439 := eq_true p439; replace q439 := eq_true q439; have p440 : 0 ≤ ((ji8) : Int) := of_decide_eq_true (by first | (with_reducible assumption) | assumption); have q440 : (ji8) < (l0.length : Int) := of_decide_eq_true (by first | (with_reducible assumption) | assumption); obtain ⟨ad440, e440, hx440_0, hx440_1⟩ := at_T53 HR0.out (ji8) p440 q440; obtain rfl : ad436 = ad440 := (by injection e440); replace p440 := eq_true p440; replace q440 := eq_true q440)); try go_wp2_with (first | (go_at_call 44; (with_reducible refine (ref05_Key.calls k1 ((rd_T53 l0 x3_1).f0) true _ A4.out).mono ?_); rintro e w' ⟨rfl, ⟨nd, rfl⟩⟩; (try first | exact ⟨rfl, _, World.drewN_drewN _ _ _⟩ | exact ⟨rfl, _, Eq.trans (World.drewN_drewN _ _ _) (congrArg (World.drewN _) (Nat.add_assoc _ _ _))⟩); have p438 : 0 ≤ (x3_1 : Int) := of_decide_eq_true (by first | (with_reducible assumption) | assumption); have q438 : x3_1 < (l0.length : Int) := of_decide_eq_true (by first | (with_reducible assumption) | assumption); obtain ⟨ad438, e438, hx438_0, hx438_1⟩ := at_T53 HR0.out x3_1 p438 q438; obtain rfl : ad436 = ad438 := (by injection e438); replace p438 := eq_true p438; replace q438 := eq_true q438; have p439 : 0 ≤ (x3_1 : Int) := of_decide_eq_true (by first | (with_reducible assumption) | assumption); have q439 : x3_1 < (l0.length : Int) := of_decide_eq_true (by first | (with_reducible assumption) | assumption); obtain ⟨ad439, e439, hx439_0, hx439_1⟩ := at_T53 HR0.out x3_1 p439 q439; obtain rfl : ad436 = ad439 := (by injection e439); replace p439 := eq_true p439; replace q439 := eq_true q439; have p440 : 0 ≤ ((ji8) : Int) := of_decide_eq_true (by first | (with_reducible assumption) | assumption); have q440 : (ji8) < (l0.length : Int) := of_decide_eq_true (by first | (with_reducible assumption) | assumption); obtain ⟨ad440, e440, hx440_0, hx440_1⟩ := at_T53 HR0.out (ji8) p440 q440; obtain rfl : ad436 = ad440 := (by injection e440); replace p440 := eq_true p440; replace q440 := eq_true q440)))
           go_ret
           exact ⟨by first | rfl | (simp; done) | (simp only [← hji8] <;> (first | rfl | simp)) | (simp [*]; done), by repeat (first | exact Drawn0.refl _ | apply Drawn0.step)⟩
         ·rw [if_neg c10] at H
          exact absurd H (by simp)
        ·rw [if_neg c9] at H
         exact absurd H (by simp)
       ·rw [if_neg c7] at H
        have c7b0 : decide (0 < x3_1) = false := decide_eq_false c7
        clear c7
        have H' := Aside0.mk H
        clear H
        have p436 : 0 ≤ (x3_1 : Int) := of_decide_eq_true (by first | (with_reducible assumption) | assumption)
        have q436 : x3_1 < (l0.length : Int) := of_decide_eq_true (by first | (with_reducible assumption) | assumption)
        obtain ⟨ad436, e436, hx436_0, hx436_1⟩ := at_T53 HR0.out x3_1 p436 q436
        cases e436
        replace p436 := eq_true p436
        replace q436 := eq_true q436
        go_wp2_with (first | (go_at_call 44; (with_reducible refine (ref05_Key.calls k1 ((rd_T53 l0 x3_1).f0) true _ A4.out).mono ?_); rintro e w' ⟨rfl, ⟨nd, rfl⟩⟩; (try first | exact ⟨rfl, _, World.drewN_drewN _ _ _⟩ | exact ⟨rfl, _, Eq.trans (World.drewN_drewN _ _ _) (congrArg (World.drewN _) (Nat.add_assoc _ _ _))⟩); have p438 : 0 ≤ (x3_1 : Int) := of_decide_eq_true (by first | (with_reducible assumption) | assumption); have q438 : x3_1 < (l0.length : Int) := of_decide_eq_true (by first | (with_reducible assumption) | assumption); obtain ⟨ad438, e438, hx438_0, hx438_1⟩ := at_T53 HR0.out x3_1 p438 q438; obtain rfl : ad436 = ad438 := (by injection e438); replace p438 := eq_true p438; replace q438 := eq_true q438))
        repeat (go_quiet (first | (go_at_call 44; (with_reducible refine (ref05_Key.calls k1 ((rd_T53 l0 x3_1).f0) true _ A4.out).mono ?_); rintro e w' ⟨rfl, ⟨nd, rfl⟩⟩; (try first | exact ⟨rfl, _, World.drewN_drewN _ _ _⟩ | exact ⟨rfl, _, Eq.trans (World.drewN_drewN _ _ _) (congrArg (World.drewN _) (Nat.add_assoc _ _ _))⟩); have p438 : 0 ≤ (x3_1 : Int) := of_decide_eq_true (by first | (with_reducible assumption) | assumption); have q438 : x3_1 < (l0.length : Int) := of_decide_eq_true (by first | (with_reducible assumption) | assumption); obtain ⟨ad438, e438, hx438_0, hx438_1⟩ := at_T53 HR0.out x3_1 p438 q438; obtain rfl : ad436 = ad438 := (by injection e438); replace p438 := eq_true p438; replace q438 := eq_true q438)); try go_wp2_with (first | (go_at_call 44; (with_reducible refine (ref05_Key.calls k1 ((rd_T53 l0 x3_1).f0) true _ A4.out).mono ?_); rintro e w' ⟨rfl, ⟨nd, rfl⟩⟩; (try first | exact ⟨rfl, _, World.drewN_drewN _ _ _⟩ | exact ⟨rfl, _, Eq.trans (World.drewN_drewN _ _ _) (congrArg (World.drewN _) (Nat.add_assoc _ _ _))⟩); have p438 : 0 ≤ (x3_1 : Int) := of_decide_eq_true (by first | (with_reducible assumption) | assumption); have q438 : x3_1 < (l0.length : Int) := of_decide_eq_true (by first | (with_reducible assumption) | assumption); obtain ⟨ad438, e438, hx438_0, hx438_1⟩ := at_T53 HR0.out x3_1 p438 q438; obtain rfl : ad436 = ad438 := (by injection e438); replace p438 := eq_true p438; replace q438 := eq_true q438)))
        go_roundg k1
        case measure => have := HK1.out; omega
        case rel => exact ⟨(wrap64 (x3_1 + 1)), (by first | rfl | (simp; done) | (simp [*]; done)), H', ⟨by have := HK1.out; omega⟩, by repeat (first | exact Drawn0.refl _ | apply Drawn0.step)⟩
     ·replace c5 := Bool.eq_false_iff.mpr c5
      subst c5
      have H1 : (some false) = some r := by rw [if_neg (show ¬ (false = true) by decide)] at H; exact H
      clear H
      have H := H1
      clear H1
      obtain rfl := Option.some.inj H
      have p436 : 0 ≤ (x3_1 : Int) := of_decide_eq_true (by first | (with_reducible assumption) | assumption)
      have q436 : x3_1 < (l0.length : Int) := of_decide_eq_true (by first | (with_reducible assumption) | assumption)
      obtain ⟨ad436, e436, hx436_0, hx436_1⟩ := at_T53 HR0.out x3_1 p436 q436
      cases e436
      replace p436 := eq_true p436
      replace q436 := eq_true q436
      go_wp2_with (first | (go_at_call 44; (with_reducible refine (ref05_Key.calls k1 ((rd_T53 l0 x3_1).f0) false _ A4.out).mono ?_); rintro e w' ⟨rfl, ⟨nd, rfl⟩⟩; (try first | exact ⟨rfl, _, World.drewN_drewN _ _ _⟩ | exact ⟨rfl, _, Eq.trans (World.drewN_drewN _ _ _) (congrArg (World.drewN _) (Nat.add_assoc _ _ _))⟩)))
      repeat (go_quiet (first | (go_at_call 44; (with_reducible refine (ref05_Key.calls k1 ((rd_T53 l0 x3_1).f0) false _ A4.out).mono ?_); rintro e w' ⟨rfl, ⟨nd, rfl⟩⟩; (try first | exact ⟨rfl, _, World.drewN_drewN _ _ _⟩ | exact ⟨rfl, _, Eq.trans (World.drewN_drewN _ _ _) (congrArg (World.drewN _) (Nat.add_assoc _ _ _))⟩))); try go_wp2_with (first | (go_at_call 44; (with_reducible refine (ref05_Key.calls k1 ((rd_T53 l0 x3_1).f0) false _ A4.out).mono ?_); rintro e w' ⟨rfl, ⟨nd, rfl⟩⟩; (try first | exact ⟨rfl, _, World.drewN_drewN _ _ _⟩ | exact ⟨rfl, _, Eq.trans (World.drewN_drewN _ _ _) (congrArg (World.drewN _) (Nat.add_assoc _ _ _))⟩))))
      go_ret
      exact ⟨by first | rfl | (simp; done) | (simp [*]; done), by repeat (first | exact Drawn0.refl _ | apply Drawn0.step)⟩
    ·rw [if_neg c3] at H
     exact absurd H (by simp)
   ·rw [if_neg c2] at H
    have c2b0 : decide (x3_1 < (l0.length : Int)) = false := decide_eq_false c2
    clear c2
    obtain rfl := Option.some.inj H
    go_wp2
    repeat (go_quiet (fail); try go_wp2)
    go_ret
    exact ⟨by first | rfl | (simp; done) | (simp [*]; done), by repeat (first | exact Drawn0.refl _ | apply Drawn0.step)⟩

/-! ### ref06_Get: function 43 -/
def ref06_Get.l0 : Nat → List (S53) → ByteArray → Int → Option (Int)
 | 0, _, _, _ => none
 | k + 1, x0, x1, x5 => if x5 < (x0.length : Int) then (if 0 ≤ x5 then (if ((rd_T53 x0 x5).f0).toList = x1.toList then (some ((rd_T53 x0 x5).f1)) else (ref06_Get.l0 k x0 x1 (wrap64 (x5 + 1)))) else (none)) else (some 0)
def ref06_Get.f (k : Nat) (l0 : List (S53)) (a1 : ByteArray) : Option (Int) := ref06_Get.l0 k l0 a1 0
theorem ref06_Get.mono_l : ∀ k, (∀ y0 y1 y2, LeO (ref06_Get.l0 k y0 y1 y2) (ref06_Get.l0 (k + 1) y0 y1 y2))
 | 0 => fun _ _ _ r h => by simp [ref06_Get.l0] at h
 | k + 1 => by
  have ih0 := ref06_Get.mono_l k
  ·intro y0 y1 y2
   unfold ref06_Get.l0
   repeat' first
   | (with_reducible exact ih0 _ _ _)
   | (with_reducible exact LeO.refl _)
   | (with_reducible exact LeO.none _)
   | (with_reducible refine LeO.ite ?_ ?_)
   | (with_reducible refine LeO.bind ?_ (fun _ => ?_))
   | exact ih0 _ _ _
   | exact LeO.none _
   | refine LeO.ite ?_ ?_
   | refine LeO.bind ?_ (fun _ => ?_)
theorem ref06_Get.mono : ∀ a0 a1 k, LeO (ref06_Get.f k a0 a1) (ref06_Get.f (k + 1) a0 a1) := by
 intro a0 a1 k
 have ih0 := ref06_Get.mono_l k
 unfold ref06_Get.f
 repeat' first
   | (with_reducible exact ih0 _ _ _)
   | (with_reducible exact LeO.refl _)
   | (with_reducible exact LeO.none _)
   | (with_reducible refine LeO.ite ?_ ?_)
   | (with_reducible refine LeO.bind ?_ (fun _ => ?_))
   | exact ih0 _ _ _
   | exact LeO.none _
   | refine LeO.ite ?_ ?_
   | refine LeO.bind ?_ (fun _ => ?_)
set_option maxHeartbeats 8000000 in
set_option maxRecDepth 100000 in
theorem ref06_Get.calls (k : Nat) (A0 : Option Addr) (c0 : Nat) (l0 : List (S53)) (a1 : ByteArray) (r : Int) (w : World) (hr0 : Kd.C k53 w A0 l0.length l0) (hc0 : l0.length ≤ c0) (h : ref06_Get.f k l0 a1 = some r) :
  Calls Try.prog 43 #[.slice A0 l0.length c0, .string a1] w fun e w' => e = .returned (.int .i64 r) ∧ Drawn0 w w' := by
 have HR0 := Aside0.mk hr0
 have HC0 := Aside0.mk hc0
 clear hr0 hc0
 have H : (ref06_Get.l0 k l0 a1 0) = some r := h
 clear h
 have H' := Aside0.mk H
 clear H
 go_enter Try.func43, Try.ntmps43
 go_wp2
 go_loopg [5] k (fun kq v5 w' => ∃ (x5_1 : Int), v5 = .int .i64 x5_1 ∧ Aside0 (ref06_Get.l0 kq l0 a1 x5_1 = some r) ∧ Aside0 (kq ≤ k) ∧ Drawn0 w w')
 case atStart => exact ⟨(0), (by first | rfl | (simp; done) | (simp [*]; done)), H', ⟨Nat.le_refl _⟩, by repeat (first | exact Drawn0.refl _ | apply Drawn0.step)⟩
 case round =>
  clear H'
  try clear p2
  obtain ⟨x5_1, rfl, HA, HK1, ⟨m1, rfl⟩⟩ := hrel
  cases gk with
  | zero => exact absurd HA.out (by simp [ref06_Get.l0])
  | succ k1 =>
   have H := HA.out
   clear HA
   simp only [ref06_Get.l0] at H
   by_cases c3 : x5_1 < (l0.length : Int)
   ·rw [if_pos c3] at H
    have c3b0 : decide (x5_1 < (l0.length : Int)) = true := decide_eq_true c3
    clear c3
    by_cases c4 : 0 ≤ x5_1
    ·rw [if_pos c4] at H
     have c4b0 : decide (0 ≤ x5_1) = true := decide_eq_true c4
     clear c4
     by_cases c5 : ((rd_T53 l0 x5_1).f0).toList = a1.toList
     ·rw [if_pos c5] at H
      have c5b0 : (((rd_T53 l0 x5_1).f0).toList == a1.toList) = true := beq_iff_eq.mpr c5
      have c5b1 : (((rd_T53 l0 x5_1).f0).toList != a1.toList) = false := bne_eq_false_iff_eq.mpr c5
      clear c5
      obtain rfl := Option.some.inj H
      have p441 : 0 ≤ (x5_1 : Int) := of_decide_eq_true (by first | (with_reducible assumption) | assumption)
      have q441 : x5_1 < (l0.length : Int) := of_decide_eq_true (by first | (with_reducible assumption) | assumption)
      obtain ⟨ad441, e441, hx441_0, hx441_1⟩ := at_T53 HR0.out x5_1 p441 q441
      cases e441
      replace p441 := eq_true p441
      replace q441 := eq_true q441
      have p442 : 0 ≤ (x5_1 : Int) := of_decide_eq_true (by first | (with_reducible assumption) | assumption)
      have q442 : x5_1 < (l0.length : Int) := of_decide_eq_true (by first | (with_reducible assumption) | assumption)
      obtain ⟨ad442, e442, hx442_0, hx442_1⟩ := at_T53 HR0.out x5_1 p442 q442
      obtain rfl : ad441 = ad442 := (by injection e442)
      replace p442 := eq_true p442
      replace q442 := eq_true q442
      go_wp2
      go_ret
      exact ⟨by first | rfl | (simp; done) | (simp [*]; done), by repeat (first | exact Drawn0.refl _ | apply Drawn0.step)⟩
     ·rw [if_neg c5] at H
      have c5b0 : (((rd_T53 l0 x5_1).f0).toList == a1.toList) = false := beq_eq_false_iff_ne.mpr c5
      have c5b1 : (((rd_T53 l0 x5_1).f0).toList != a1.toList) = true := bne_iff_ne.mpr c5
      have H' := Aside0.mk H
      clear H
      have p441 : 0 ≤ (x5_1 : Int) := of_decide_eq_true (by first | (with_reducible assumption) | assumption)
      have q441 : x5_1 < (l0.length : Int) := of_decide_eq_true (by first | (with_reducible assumption) | assumption)
      obtain ⟨ad441, e441, hx441_0, hx441_1⟩ := at_T53 HR0.out x5_1 p441 q441
      cases e441
      replace p441 := eq_true p441
      replace q441 := eq_true q441
      go_wp2
      go_roundg k1
      case measure => have := HK1.out; omega
      case rel => exact ⟨(wrap64 (x5_1 + 1)), (by first | rfl | (simp; done) | (simp [*]; done)), H', ⟨by have := HK1.out; omega⟩, by repeat (first | exact Drawn0.refl _ | apply Drawn0.step)⟩
    ·rw [if_neg c4] at H
     exact absurd H (by simp)
   ·rw [if_neg c3] at H
    have c3b0 : decide (x5_1 < (l0.length : Int)) = false := decide_eq_false c3
    clear c3
    obtain rfl := Option.some.inj H
    go_wp2
    go_ret
    exact ⟨by first | rfl | (simp; done) | (simp [*]; done), by repeat (first | exact Drawn0.refl _ | apply Drawn0.step)⟩

/-! ### ref06_put: function 72 -/
mutual
def ref06_put.l0 : Nat → List (S53) → ByteArray → Int → List (S53) → Bool → Int → Option ((List (S53)))
 | 0, _, _, _, _, _, _ => none
 | k + 1, x0, x1, x2, x7, x8, x9 => if x9 < (x0.length : Int) then (if x8 = true then (ref06_put.j1 k x0 x1 x2 x7 x8 x9 false) else (if 0 ≤ x9 then (ref06_put.j1 k x0 x1 x2 x7 x8 x9 (!(Op.bytesLess (((rd_T53 x0 x9).f0).toList) x1.toList))) else (none))) else (if x8 = true then (some x7) else (if x2 = 0 then (some x7) else (if x7.length < 5864062014805 then (some (x7 ++ [(⟨x1, x2⟩ : S53)])) else (none))))
def ref06_put.j1 : Nat → List (S53) → ByteArray → Int → List (S53) → Bool → Int → Bool → Option ((List (S53)))
 | 0, _, _, _, _, _, _, _ => none
 | k + 1, x0, x1, x2, x7, x8, x9, x26 => if x26 = true then (if x2 = 0 then (if 0 ≤ x9 then (if x9 < (x0.length : Int) then (if ((rd_T53 x0 x9).f0).toList = x1.toList then (ref06_put.l0 k x0 x1 x2 x7 true (wrap64 (x9 + 1))) else (if x7.length < 5864062014805 then (ref06_put.l0 k x0 x1 x2 (x7 ++ [(⟨(rd_T53 x0 x9).f0, (rd_T53 x0 x9).f1⟩ : S53)]) true (wrap64 (x9 + 1))) else (none))) else (none)) else (none)) else (if x7.length < 5864062014805 then ((some (x7 ++ [(⟨x1, x2⟩ : S53)] : List (S53))).bind fun y452 => (if 0 ≤ x9 then (if x9 < (x0.length : Int) then (if ((rd_T53 x0 x9).f0).toList = x1.toList then (ref06_put.l0 k x0 x1 x2 y452 true (wrap64 (x9 + 1))) else (if y452.length < 5864062014805 then (ref06_put.l0 k x0 x1 x2 (y452 ++ [(⟨(rd_T53 x0 x9).f0, (rd_T53 x0 x9).f1⟩ : S53)]) true (wrap64 (x9 + 1))) else (none))) else (none)) else (none))) else (none))) else (if 0 ≤ x9 then (if x9 < (x0.length : Int) then (if ((rd_T53 x0 x9).f0).toList = x1.toList then (ref06_put.l0 k x0 x1 x2 x7 x8 (wrap64 (x9 + 1))) else (if x7.length < 5864062014805 then (ref06_put.l0 k x0 x1 x2 (x7 ++ [(⟨(rd_T53 x0 x9).f0, (rd_T53 x0 x9).f1⟩ : S53)]) x8 (wrap64 (x9 + 1))) else (none))) else (none)) else (none))
end
def ref06_put.f (k : Nat) (l0 : List (S53)) (a1 : ByteArray) (a2 : Int) : Option ((List (S53))) := ref06_put.l0 k l0 a1 a2 ([] : List (S53)) false 0
theorem ref06_put.mono_l : ∀ k, (∀ y0 y1 y2 y3 y4 y5, LeO (ref06_put.l0 k y0 y1 y2 y3 y4 y5) (ref06_put.l0 (k + 1) y0 y1 y2 y3 y4 y5)) ∧ (∀ y0 y1 y2 y3 y4 y5 y6, LeO (ref06_put.j1 k y0 y1 y2 y3 y4 y5 y6) (ref06_put.j1 (k + 1) y0 y1 y2 y3 y4 y5 y6))
 | 0 => ⟨fun _ _ _ _ _ _ r h => by simp [ref06_put.l0] at h, fun _ _ _ _ _ _ _ r h => by simp [ref06_put.j1] at h⟩
 | k + 1 => by
  obtain ⟨ih0, ih1⟩ := ref06_put.mono_l k
  refine ⟨?_, ?_⟩
  ·intro y0 y1 y2 y3 y4 y5
   unfold ref06_put.l0
   repeat' first
   | (with_reducible exact ih0 _ _ _ _ _ _)
   | (with_reducible exact ih1 _ _ _ _ _ _ _)
   | (with_reducible exact LeO.refl _)
   | (with_reducible exact LeO.none _)
   | (with_reducible refine LeO.ite ?_ ?_)
   | (with_reducible refine LeO.bind ?_ (fun _ => ?_))
   | exact ih0 _ _ _ _ _ _
   | exact ih1 _ _ _ _ _ _ _
   | exact LeO.none _
   | refine LeO.ite ?_ ?_
   | refine LeO.bind ?_ (fun _ => ?_)
  ·intro y0 y1 y2 y3 y4 y5 y6
   unfold ref06_put.j1
   repeat' first
   | (with_reducible exact ih0 _ _ _ _ _ _)
   | (with_reducible exact ih1 _ _ _ _ _ _ _)
   | (with_reducible exact LeO.refl _)
   | (with_reducible exact LeO.none _)
   | (with_reducible refine LeO.ite ?_ ?_)
   | (with_reducible refine LeO.bind ?_ (fun _ => ?_))
   | exact ih0 _ _ _ _ _ _
   | exact ih1 _ _ _ _ _ _ _
   | exact LeO.none _
   | refine LeO.ite ?_ ?_
   | refine LeO.bind ?_ (fun _ => ?_)
theorem ref06_put.mono : ∀ a0 a1 a2 k, LeO (ref06_put.f k a0 a1 a2) (ref06_put.f (k + 1) a0 a1 a2) := by
 intro a0 a1 a2 k
 obtain ⟨ih0, ih1⟩ := ref06_put.mono_l k
 unfold ref06_put.f
 repeat' first
   | (with_reducible exact ih0 _ _ _ _ _ _)
   | (with_reducible exact ih1 _ _ _ _ _ _ _)
   | (with_reducible exact LeO.refl _)
   | (with_reducible exact LeO.none _)
   | (with_reducible refine LeO.ite ?_ ?_)
   | (with_reducible refine LeO.bind ?_ (fun _ => ?_))
   | exact ih0 _ _ _ _ _ _
   | exact ih1 _ _ _ _ _ _ _
   | exact LeO.none _
   | refine LeO.ite ?_ ?_
   | refine LeO.bind ?_ (fun _ => ?_)
set_option maxHeartbeats 8000000 in
set_option maxRecDepth 100000 in
theorem ref06_put.calls (k : Nat) (A0 : Option Addr) (c0 : Nat) (l0 : List (S53)) (a1 : ByteArray) (a2 : Int) (r : List (S53)) (w : World) (hr0 : Kd.C k53 w A0 l0.length l0) (hc0 : l0.length ≤ c0) (h : ref06_put.f k l0 a1 a2 = some r) :
  Calls Try.prog 72 #[.slice A0 l0.length c0, .string a1, .int .i64 a2] w fun e w' => ∃ v0_ : Value, e = .returned (v0_) ∧ Kd.R k53 53 w' w.heap.size (fun _ => True) v0_ r ∧ Below w.heap.size w w' := by
 have hu53 := Try.underlying53
 have HR0 := Aside0.mk hr0
 have HC0 := Aside0.mk hc0
 clear hr0 hc0
 have HB := Aside0.mk (Below.refl w.heap.size w)
 have H : (ref06_put.l0 k l0 a1 a2 ([] : List (S53)) false 0) = some r := h
 clear h
 have H' := Aside0.mk H
 clear H
 go_enter Try.func72, Try.ntmps72
 go_wp2
 go_loopg [7, 8, 9] k (fun kq v7 v8 v9 w' => ∃ (x7_1 : List (S53)) (x8_1 : Bool) (x9_1 : Int), v8 = .bool x8_1 ∧ v9 = .int .i64 x9_1 ∧ Aside0 (ref06_put.l0 kq l0 a1 a2 x7_1 x8_1 x9_1 = some r) ∧ Aside0 (kq ≤ k) ∧ Aside0 (Kd.R k53 53 w' w.heap.size (fun _ => True) v7 x7_1) ∧ Aside0 (Below w.heap.size w w'))
 case atStart => exact ⟨(([] : List (S53))), (false), (0), (by first | rfl | (simp; done) | (simp [*]; done)), (by first | rfl | (simp; done) | (simp [*]; done)), H', ⟨Nat.le_refl _⟩, ⟨by first | exact Kd.R_nil _ _ _ _ _ | exact Kd.N_nil _ _ _ _ _ | exact Kd.V_nil _ _ _ _ _ | exact Kd.Q_nil _ _ _ _ _ | exact Kd.S_nil _ _ _ _ _⟩, ⟨by repeat (first | (with_reducible first | exact HB.out | apply below_alloc | apply pw_below_drewN | apply below_drew1) | exact HB.out)⟩⟩
 case round =>
  clear H'
  try clear p2
  obtain ⟨x7_1, x8_1, x9_1, rfl, rfl, HA, HK1, HO_7, HB⟩ := hrel
  cases gk with
  | zero => exact absurd HA.out (by simp [ref06_put.l0])
  | succ k1 =>
   have H := HA.out
   clear HA
   simp only [ref06_put.l0] at H
   by_cases c4 : x9_1 < (l0.length : Int)
   ·rw [if_pos c4] at H
    have c4b0 : decide (x9_1 < (l0.length : Int)) = true := decide_eq_true c4
    clear c4
    have HC5 := Aside0.mk H
    clear H
    go_upto_region 6 with (fail)
    go_cut [26] (fun v26 wc => ∃ (kq : Nat) (x26_4 : Bool), v26 = .bool x26_4 ∧ Aside0 (ref06_put.j1 kq l0 a1 a2 x7_1 x8_1 x9_1 x26_4 = some r) ∧ Aside0 (kq ≤ k1) ∧ Aside0 (Kd.R k53 53 wc w.heap.size (fun _ => True) u7 x7_1) ∧ Aside0 (Below w.heap.size w wc))
    case first =>
     have H := HC5.out
     clear HC5
     by_cases c6 : x8_1 = true
     ·subst c6
      have H1 : (ref06_put.j1 k1 l0 a1 a2 x7_1 true x9_1 false) = some r := by rw [if_pos rfl] at H; exact H
      clear H
      have H := H1
      clear H1
      have H' := Aside0.mk H
      clear H
      go_wp2
      go_meet
      case rel => exact ⟨_, (false), (by first | rfl | (simp; done) | (simp [*]; done)), H', ⟨by have := HK1.out; first | omega | exact Nat.le_refl _⟩, ⟨by (with_reducible repeat (first | apply Kd.R_alloc | apply Kd.R_drewN | apply Kd.R_drew)); exact HO_7.out⟩, ⟨by repeat (first | (with_reducible first | exact HB.out | apply below_alloc | apply pw_below_drewN | apply below_drew1) | exact HB.out)⟩⟩
     ·replace c6 := Bool.eq_false_iff.mpr c6
      subst c6
      have H1 : (if 0 ≤ x9_1 then (ref06_put.j1 k1 l0 a1 a2 x7_1 false x9_1 (!(Op.bytesLess (((rd_T53 l0 x9_1).f0).toList) a1.toList))) else (none)) = some r := by rw [if_neg (show ¬ (false = true) by decide)] at H; exact H
      clear H
      have H := H1
      clear H1
      by_cases c7 : 0 ≤ x9_1
      ·rw [if_pos c7] at H
       have c7b0 : decide (0 ≤ x9_1) = true := decide_eq_true c7
       clear c7
       (first | rw [c7b0] | (simp only [i64_w, i32_w]; rw [c7b0]) | skip)
       have H' := Aside0.mk H
       clear H
       have p446 : 0 ≤ (x9_1 : Int) := of_decide_eq_true (by first | (with_reducible assumption) | assumption)
       have q446 : x9_1 < (l0.length : Int) := of_decide_eq_true (by first | (with_reducible assumption) | assumption)
       obtain ⟨ad446, e446, hx446_0, hx446_1⟩ := at_T53 HR0.out x9_1 p446 q446
       cases e446
       replace hx446_0 := (HB.out.cell (World.block_lt_of_cell? w _ hx446_0)).trans hx446_0
       replace hx446_1 := (HB.out.cell (World.block_lt_of_cell? w _ hx446_1)).trans hx446_1
       replace p446 := eq_true p446
       replace q446 := eq_true q446
       go_wp2
       go_meet
       case rel => exact ⟨_, (!(Op.bytesLess (((rd_T53 l0 x9_1).f0).toList) a1.toList)), (by first | rfl | (simp; done) | (simp [*]; done)), H', ⟨by have := HK1.out; first | omega | exact Nat.le_refl _⟩, ⟨by (with_reducible repeat (first | apply Kd.R_alloc | apply Kd.R_drewN | apply Kd.R_drew)); exact HO_7.out⟩, ⟨by repeat (first | (with_reducible first | exact HB.out | apply below_alloc | apply pw_below_drewN | apply below_drew1) | exact HB.out)⟩⟩
      ·rw [if_neg c7] at H
       exact absurd H (by simp)
    case rest =>
     clear HC5
     try clear p2
     try clear c4
     try clear c4b0
     try clear p4
     try clear q4
     try clear hx4
     try clear c6
     try clear c7
     try clear c7b0
     try clear hx446_0
     try clear hx446_1
     try clear p2
     try clear p446
     try clear q446
     obtain ⟨kq, x26_4, rfl, HA, HJ4, HO_7, HB⟩ := hcut
     cases kq with
     | zero => exact absurd HA.out (by simp [ref06_put.j1])
     | succ kj4 =>
      have H := HA.out
      clear HA
      simp only [ref06_put.j1] at H
      by_cases c8 : x26_4 = true
      ·subst c8
       have H1 : (if a2 = 0 then (if 0 ≤ x9_1 then (if x9_1 < (l0.length : Int) then (if ((rd_T53 l0 x9_1).f0).toList = a1.toList then (ref06_put.l0 kj4 l0 a1 a2 x7_1 true (wrap64 (x9_1 + 1))) else (if x7_1.length < 5864062014805 then (ref06_put.l0 kj4 l0 a1 a2 (x7_1 ++ [(⟨(rd_T53 l0 x9_1).f0, (rd_T53 l0 x9_1).f1⟩ : S53)]) true (wrap64 (x9_1 + 1))) else (none))) else (none)) else (none)) else (if x7_1.length < 5864062014805 then ((some (x7_1 ++ [(⟨a1, a2⟩ : S53)] : List (S53))).bind fun y452 => (if 0 ≤ x9_1 then (if x9_1 < (l0.length : Int) then (if ((rd_T53 l0 x9_1).f0).toList = a1.toList then (ref06_put.l0 kj4 l0 a1 a2 y452 true (wrap64 (x9_1 + 1))) else (if y452.length < 5864062014805 then (ref06_put.l0 kj4 l0 a1 a2 (y452 ++ [(⟨(rd_T53 l0 x9_1).f0, (rd_T53 l0 x9_1).f1⟩ : S53)]) true (wrap64 (x9_1 + 1))) else (none))) else (none)) else (none))) else (none))) = some r := by rw [if_pos rfl] at H; exact H
       clear H
       have H := H1
       clear H1
       by_cases c9 : a2 = 0
       ·rw [if_pos c9] at H
        have c9b0 : (a2 == 0) = true := beq_iff_eq.mpr c9
        have c9b1 : (a2 != 0) = false := bne_eq_false_iff_eq.mpr c9
        clear c9
        by_cases c10 : 0 ≤ x9_1
        ·rw [if_pos c10] at H
         have c10b0 : decide (0 ≤ x9_1) = true := decide_eq_true c10
         clear c10
         by_cases c11 : x9_1 < (l0.length : Int)
         ·rw [if_pos c11] at H
          have c11b0 : decide (x9_1 < (l0.length : Int)) = true := decide_eq_true c11
          clear c11
          by_cases c12 : ((rd_T53 l0 x9_1).f0).toList = a1.toList
          ·rw [if_pos c12] at H
           have c12b0 : (((rd_T53 l0 x9_1).f0).toList == a1.toList) = true := beq_iff_eq.mpr c12
           have c12b1 : (((rd_T53 l0 x9_1).f0).toList != a1.toList) = false := bne_eq_false_iff_eq.mpr c12
           clear c12
           have H' := Aside0.mk H
           clear H
           have p447 : 0 ≤ (x9_1 : Int) := of_decide_eq_true (by first | (with_reducible assumption) | assumption)
           have q447 : x9_1 < (l0.length : Int) := of_decide_eq_true (by first | (with_reducible assumption) | assumption)
           obtain ⟨ad447, e447, hx447_0, hx447_1⟩ := at_T53 HR0.out x9_1 p447 q447
           cases e447
           replace hx447_0 := (HB.out.cell (World.block_lt_of_cell? w _ hx447_0)).trans hx447_0
           replace hx447_1 := (HB.out.cell (World.block_lt_of_cell? w _ hx447_1)).trans hx447_1
           replace p447 := eq_true p447
           replace q447 := eq_true q447
           go_wp2
           go_roundg kj4
           case measure => have := HK1.out; have := HJ4.out; omega
           case rel => exact ⟨(x7_1), (true), (wrap64 (x9_1 + 1)), (by first | rfl | (simp; done) | (simp [*]; done)), (by first | rfl | (simp; done) | (simp [*]; done)), H', ⟨by have := HK1.out; have := HJ4.out; omega⟩, ⟨by (with_reducible repeat (first | apply Kd.R_alloc | apply Kd.R_drewN | apply Kd.R_drew)); exact HO_7.out⟩, ⟨by repeat (first | (with_reducible first | exact HB.out | apply below_alloc | apply pw_below_drewN | apply below_drew1) | exact HB.out)⟩⟩
          ·rw [if_neg c12] at H
           have c12b0 : (((rd_T53 l0 x9_1).f0).toList == a1.toList) = false := beq_eq_false_iff_ne.mpr c12
           have c12b1 : (((rd_T53 l0 x9_1).f0).toList != a1.toList) = true := bne_iff_ne.mpr c12
           by_cases c13 : x7_1.length < 5864062014805
           ·rw [if_pos c13] at H
            have LMc13 := Aside0.mk c13
            clear c13
            obtain ⟨y449, hy449⟩ : ∃ y_ : List (S53), y_ = (x7_1 ++ [(⟨(rd_T53 l0 x9_1).f0, (rd_T53 l0 x9_1).f1⟩ : S53)]) := ⟨_, rfl⟩
            replace H : (ref06_put.l0 kj4 l0 a1 a2 y449 true (wrap64 (x9_1 + 1))) = some r := by first | (rw [hy449]; with_reducible exact H) | (have H2_ := (Option.bind_some _ _).symm.trans H; rw [hy449]; with_reducible exact H2_) | (have H2_ := (Option.bind_some _ _).symm.trans H; with_reducible exact H2_) | with_reducible exact H | (rw [hy449]; exact H) | exact H
            have Ny449 := Aside0.mk hy449
            clear hy449
            have H' := Aside0.mk H
            clear H
            have p447 : 0 ≤ (x9_1 : Int) := of_decide_eq_true (by first | (with_reducible assumption) | assumption)
            have q447 : x9_1 < (l0.length : Int) := of_decide_eq_true (by first | (with_reducible assumption) | assumption)
            obtain ⟨ad447, e447, hx447_0, hx447_1⟩ := at_T53 HR0.out x9_1 p447 q447
            cases e447
            replace hx447_0 := (HB.out.cell (World.block_lt_of_cell? w _ hx447_0)).trans hx447_0
            replace hx447_1 := (HB.out.cell (World.block_lt_of_cell? w _ hx447_1)).trans hx447_1
            replace p447 := eq_true p447
            replace q447 := eq_true q447
            have p448 : 0 ≤ (x9_1 : Int) := of_decide_eq_true (by first | (with_reducible assumption) | assumption)
            have q448 : x9_1 < (l0.length : Int) := of_decide_eq_true (by first | (with_reducible assumption) | assumption)
            obtain ⟨ad448, e448, hx448_0, hx448_1⟩ := at_T53 HR0.out x9_1 p448 q448
            obtain rfl : ad447 = ad448 := (by injection e448)
            replace hx448_0 := (HB.out.cell (World.block_lt_of_cell? w _ hx448_0)).trans hx448_0
            replace hx448_1 := (HB.out.cell (World.block_lt_of_cell? w _ hx448_1)).trans hx448_1
            replace p448 := eq_true p448
            replace q448 := eq_true q448
            go_wp2_with (first | ((with_reducible refine gate_builtin (b := .append) (xs := #[.tmp 42, .tmp 47]) rfl ?_); at_builtin; refine Kd.R_append k53 (w0 := w) w.heap.size rfl (.tmp 42) (.tmp 47) 40 53 (.agg #[(.string ⟨#[]⟩), (.int .i64 0)]) 24 rfl Try.underlying40 info53 rfl (by decide) (by omega) u7 x7_1 (⟨(rd_T53 l0 x9_1).f0, (rd_T53 l0 x9_1).f1⟩ : S53) [.string ((rd_T53 l0 x9_1).f0), .int .i64 ((rd_T53 l0 x9_1).f1)] (fun _ => True) (fun _ => False) rfl rfl ?aP (fun _ hk => hk.elim) ?aF ?aO ?aB ?aS ?aL ?_; (case aP => exact k53_mkM _ _ _ (⟨(rd_T53 l0 x9_1).f0, (rd_T53 l0 x9_1).f1⟩ : S53)); (case aB => exact (by repeat (first | (with_reducible first | exact HB.out | apply below_alloc | apply pw_below_drewN | apply below_drew1) | exact HB.out))); (case aF => exact (fun _ _ => trivial)); (case aO => exact (by (with_reducible repeat (first | apply Kd.R_alloc | apply Kd.R_drewN | apply Kd.R_drew)); exact HO_7.out)); (case aS => exact (below_size (by repeat (first | (with_reducible first | exact HB.out | apply below_alloc | apply pw_below_drewN | apply below_drew1) | exact HB.out)))); (case aL => have := LMc13.out; omega); intro v450 w14 ho hb hg hat; rw [← Ny449.out] at ho; have n0_ := Aside0.mk (hb); have n1_ := Aside0.mk (ho); clear HB; clear HO_7; have HB := n0_; have HO451 := n1_; clear n0_ n1_; clear ho hb hg hat))
            go_roundg kj4
            case measure => have := HK1.out; have := HJ4.out; omega
            case rel => exact ⟨(y449), (true), (wrap64 (x9_1 + 1)), (by first | rfl | (simp; done) | (simp [*]; done)), (by first | rfl | (simp; done) | (simp [*]; done)), H', ⟨by have := HK1.out; have := HJ4.out; omega⟩, ⟨by (with_reducible repeat (first | apply Kd.R_alloc | apply Kd.R_drewN | apply Kd.R_drew)); exact HO451.out⟩, ⟨by repeat (first | (with_reducible first | exact HB.out | apply below_alloc | apply pw_below_drewN | apply below_drew1) | exact HB.out)⟩⟩
           ·rw [if_neg c13] at H
            exact absurd H (by simp)
         ·rw [if_neg c11] at H
          exact absurd H (by simp)
        ·rw [if_neg c10] at H
         exact absurd H (by simp)
       ·rw [if_neg c9] at H
        have c9b0 : (a2 == 0) = false := beq_eq_false_iff_ne.mpr c9
        have c9b1 : (a2 != 0) = true := bne_iff_ne.mpr c9
        by_cases c15 : x7_1.length < 5864062014805
        ·rw [if_pos c15] at H
         have LMc15 := Aside0.mk c15
         clear c15
         obtain ⟨y452, hy452⟩ : ∃ y_ : List (S53), y_ = (x7_1 ++ [(⟨a1, a2⟩ : S53)]) := ⟨_, rfl⟩
         replace H : (if 0 ≤ x9_1 then (if x9_1 < (l0.length : Int) then (if ((rd_T53 l0 x9_1).f0).toList = a1.toList then (ref06_put.l0 kj4 l0 a1 a2 y452 true (wrap64 (x9_1 + 1))) else (if y452.length < 5864062014805 then (ref06_put.l0 kj4 l0 a1 a2 (y452 ++ [(⟨(rd_T53 l0 x9_1).f0, (rd_T53 l0 x9_1).f1⟩ : S53)]) true (wrap64 (x9_1 + 1))) else (none))) else (none)) else (none)) = some r := by first | (rw [hy452]; with_reducible exact H) | (have H2_ := (Option.bind_some _ _).symm.trans H; rw [hy452]; with_reducible exact H2_) | (have H2_ := (Option.bind_some _ _).symm.trans H; with_reducible exact H2_) | with_reducible exact H | (rw [hy452]; exact H) | exact H
         have Ny452 := Aside0.mk hy452
         clear hy452
         by_cases c16 : 0 ≤ x9_1
         ·rw [if_pos c16] at H
          have c16b0 : decide (0 ≤ x9_1) = true := decide_eq_true c16
          clear c16
          by_cases c17 : x9_1 < (l0.length : Int)
          ·rw [if_pos c17] at H
           have c17b0 : decide (x9_1 < (l0.length : Int)) = true := decide_eq_true c17
           clear c17
           by_cases c18 : ((rd_T53 l0 x9_1).f0).toList = a1.toList
           ·rw [if_pos c18] at H
            have c18b0 : (((rd_T53 l0 x9_1).f0).toList == a1.toList) = true := beq_iff_eq.mpr c18
            have c18b1 : (((rd_T53 l0 x9_1).f0).toList != a1.toList) = false := bne_eq_false_iff_eq.mpr c18
            clear c18
            have H' := Aside0.mk H
            clear H
            go_wp2_with (first | ((with_reducible refine gate_builtin (b := .append) (xs := #[.tmp 29, .tmp 33]) rfl ?_); at_builtin; refine Kd.R_append k53 (w0 := w) w.heap.size rfl (.tmp 29) (.tmp 33) 40 53 (.agg #[(.string ⟨#[]⟩), (.int .i64 0)]) 24 rfl Try.underlying40 info53 rfl (by decide) (by omega) u7 x7_1 (⟨a1, a2⟩ : S53) [.string a1, .int .i64 a2] (fun _ => True) (fun _ => False) rfl rfl ?aP (fun _ hk => hk.elim) ?aF ?aO ?aB ?aS ?aL ?_; (case aP => exact k53_mkM _ _ _ (⟨a1, a2⟩ : S53)); (case aB => exact (by repeat (first | (with_reducible first | exact HB.out | apply below_alloc | apply pw_below_drewN | apply below_drew1) | exact HB.out))); (case aF => exact (fun _ _ => trivial)); (case aO => exact (by (with_reducible repeat (first | apply Kd.R_alloc | apply Kd.R_drewN | apply Kd.R_drew)); exact HO_7.out)); (case aS => exact (below_size (by repeat (first | (with_reducible first | exact HB.out | apply below_alloc | apply pw_below_drewN | apply below_drew1) | exact HB.out)))); (case aL => have := LMc15.out; omega); intro v453 w19 ho hb hg hat; rw [← Ny452.out] at ho; have n0_ := Aside0.mk (hb); have n1_ := Aside0.mk (ho); clear HB; clear HO_7; have HB := n0_; have HO454 := n1_; clear n0_ n1_; clear ho hb hg hat; have p455 : 0 ≤ (x9_1 : Int) := of_decide_eq_true (by first | (with_reducible assumption) | assumption); have q455 : x9_1 < (l0.length : Int) := of_decide_eq_true (by first | (with_reducible assumption) | assumption); obtain ⟨ad455, e455, hx455_0, hx455_1⟩ := at_T53 HR0.out x9_1 p455 q455; cases e455; replace hx455_0 := (HB.out.cell (World.block_lt_of_cell? w _ hx455_0)).trans hx455_0; replace hx455_1 := (HB.out.cell (World.block_lt_of_cell? w _ hx455_1)).trans hx455_1; replace p455 := eq_true p455; replace q455 := eq_true q455))
            go_roundg kj4
            case measure => have := HK1.out; have := HJ4.out; omega
            case rel => exact ⟨(y452), (true), (wrap64 (x9_1 + 1)), (by first | rfl | (simp; done) | (simp [*]; done)), (by first | rfl | (simp; done) | (simp [*]; done)), H', ⟨by have := HK1.out; have := HJ4.out; omega⟩, ⟨by (with_reducible repeat (first | apply Kd.R_alloc | apply Kd.R_drewN | apply Kd.R_drew)); exact HO454.out⟩, ⟨by repeat (first | (with_reducible first | exact HB.out | apply below_alloc | apply pw_below_drewN | apply below_drew1) | exact HB.out)⟩⟩
           ·rw [if_neg c18] at H
            have c18b0 : (((rd_T53 l0 x9_1).f0).toList == a1.toList) = false := beq_eq_false_iff_ne.mpr c18
            have c18b1 : (((rd_T53 l0 x9_1).f0).toList != a1.toList) = true := bne_iff_ne.mpr c18
            by_cases c20 : y452.length < 5864062014805
            ·rw [if_pos c20] at H
             have LMc20 := Aside0.mk c20
             clear c20
             obtain ⟨y457, hy457⟩ : ∃ y_ : List (S53), y_ = (y452 ++ [(⟨(rd_T53 l0 x9_1).f0, (rd_T53 l0 x9_1).f1⟩ : S53)]) := ⟨_, rfl⟩
             replace H : (ref06_put.l0 kj4 l0 a1 a2 y457 true (wrap64 (x9_1 + 1))) = some r := by first | (rw [hy457]; with_reducible exact H) | (have H2_ := (Option.bind_some _ _).symm.trans H; rw [hy457]; with_reducible exact H2_) | (have H2_ := (Option.bind_some _ _).symm.trans H; with_reducible exact H2_) | with_reducible exact H | (rw [hy457]; exact H) | exact H
             have Ny457 := Aside0.mk hy457
             clear hy457
             have H' := Aside0.mk H
             clear H
             go_wp2_with (first | ((with_reducible refine gate_builtin (b := .append) (xs := #[.tmp 29, .tmp 33]) rfl ?_); at_builtin; refine Kd.R_append k53 (w0 := w) w.heap.size rfl (.tmp 29) (.tmp 33) 40 53 (.agg #[(.string ⟨#[]⟩), (.int .i64 0)]) 24 rfl Try.underlying40 info53 rfl (by decide) (by omega) u7 x7_1 (⟨a1, a2⟩ : S53) [.string a1, .int .i64 a2] (fun _ => True) (fun _ => False) rfl rfl ?aP (fun _ hk => hk.elim) ?aF ?aO ?aB ?aS ?aL ?_; (case aP => exact k53_mkM _ _ _ (⟨a1, a2⟩ : S53)); (case aB => exact (by repeat (first | (with_reducible first | exact HB.out | apply below_alloc | apply pw_below_drewN | apply below_drew1) | exact HB.out))); (case aF => exact (fun _ _ => trivial)); (case aO => exact (by (with_reducible repeat (first | apply Kd.R_alloc | apply Kd.R_drewN | apply Kd.R_drew)); exact HO_7.out)); (case aS => exact (below_size (by repeat (first | (with_reducible first | exact HB.out | apply below_alloc | apply pw_below_drewN | apply below_drew1) | exact HB.out)))); (case aL => have := LMc15.out; omega); intro v453 w21 ho hb hg hat; rw [← Ny452.out] at ho; have n0_ := Aside0.mk (hb); have n1_ := Aside0.mk (ho); clear HB; clear HO_7; have HB := n0_; have HO454 := n1_; clear n0_ n1_; clear ho hb hg hat; have p455 : 0 ≤ (x9_1 : Int) := of_decide_eq_true (by first | (with_reducible assumption) | assumption); have q455 : x9_1 < (l0.length : Int) := of_decide_eq_true (by first | (with_reducible assumption) | assumption); obtain ⟨ad455, e455, hx455_0, hx455_1⟩ := at_T53 HR0.out x9_1 p455 q455; cases e455; replace hx455_0 := (HB.out.cell (World.block_lt_of_cell? w _ hx455_0)).trans hx455_0; replace hx455_1 := (HB.out.cell (World.block_lt_of_cell? w _ hx455_1)).trans hx455_1; replace p455 := eq_true p455; replace q455 := eq_true q455; have p456 : 0 ≤ (x9_1 : Int) := of_decide_eq_true (by first | (with_reducible assumption) | assumption); have q456 : x9_1 < (l0.length : Int) := of_decide_eq_true (by first | (with_reducible assumption) | assumption); obtain ⟨ad456, e456, hx456_0, hx456_1⟩ := at_T53 HR0.out x9_1 p456 q456; obtain rfl : ad455 = ad456 := (by injection e456); replace hx456_0 := (HB.out.cell (World.block_lt_of_cell? w _ hx456_0)).trans hx456_0; replace hx456_1 := (HB.out.cell (World.block_lt_of_cell? w _ hx456_1)).trans hx456_1; replace p456 := eq_true p456; replace q456 := eq_true q456) | ((with_reducible refine gate_builtin (b := .append) (xs := #[.tmp 42, .tmp 47]) rfl ?_); at_builtin; refine Kd.R_append k53 (w0 := w) w.heap.size rfl (.tmp 42) (.tmp 47) 40 53 (.agg #[(.string ⟨#[]⟩), (.int .i64 0)]) 24 rfl Try.underlying40 info53 rfl (by decide) (by omega) v453 y452 (⟨(rd_T53 l0 x9_1).f0, (rd_T53 l0 x9_1).f1⟩ : S53) [.string ((rd_T53 l0 x9_1).f0), .int .i64 ((rd_T53 l0 x9_1).f1)] (fun _ => True) (fun _ => False) rfl rfl ?aP (fun _ hk => hk.elim) ?aF ?aO ?aB ?aS ?aL ?_; (case aP => exact k53_mkM _ _ _ (⟨(rd_T53 l0 x9_1).f0, (rd_T53 l0 x9_1).f1⟩ : S53)); (case aB => exact (by repeat (first | (with_reducible first | exact HB.out | apply below_alloc | apply pw_below_drewN | apply below_drew1) | exact HB.out))); (case aF => exact (fun _ _ => trivial)); (case aO => exact (by (with_reducible repeat (first | apply Kd.R_alloc | apply Kd.R_drewN | apply Kd.R_drew)); exact HO454.out)); (case aS => exact (below_size (by repeat (first | (with_reducible first | exact HB.out | apply below_alloc | apply pw_below_drewN | apply below_drew1) | exact HB.out)))); (case aL => have := LMc20.out; omega); intro v458 w22 ho hb hg hat; rw [← Ny457.out] at ho; have n0_ := Aside0.mk (hb); have n1_ := Aside0.mk (ho); clear HB; clear HO454; have HB := n0_; have HO459 := n1_; clear n0_ n1_; clear ho hb hg hat))
             go_roundg kj4
             case measure => have := HK1.out; have := HJ4.out; omega
             case rel => exact ⟨(y457), (true), (wrap64 (x9_1 + 1)), (by first | rfl | (simp; done) | (simp [*]; done)), (by first | rfl | (simp; done) | (simp [*]; done)), H', ⟨by have := HK1.out; have := HJ4.out; omega⟩, ⟨by (with_reducible repeat (first | apply Kd.R_alloc | apply Kd.R_drewN | apply Kd.R_drew)); exact HO459.out⟩, ⟨by repeat (first | (with_reducible first | exact HB.out | apply below_alloc | apply pw_below_drewN | apply below_drew1) | exact HB.out)⟩⟩
            ·rw [if_neg c20] at H
             exact absurd H (by simp)
          ·rw [if_neg c17] at H
           exact absurd H (by simp)
         ·rw [if_neg c16] at H
          exact absurd H (by simp)
        ·rw [if_neg c15] at H
         exact absurd H (by simp)
      ·replace c8 := Bool.eq_false_iff.mpr c8
       subst c8
       have H1 : (if 0 ≤ x9_1 then (if x9_1 < (l0.length : Int) then (if ((rd_T53 l0 x9_1).f0).toList = a1.toList then (ref06_put.l0 kj4 l0 a1 a2 x7_1 x8_1 (wrap64 (x9_1 + 1))) else (if x7_1.length < 5864062014805 then (ref06_put.l0 kj4 l0 a1 a2 (x7_1 ++ [(⟨(rd_T53 l0 x9_1).f0, (rd_T53 l0 x9_1).f1⟩ : S53)]) x8_1 (wrap64 (x9_1 + 1))) else (none))) else (none)) else (none)) = some r := by rw [if_neg (show ¬ (false = true) by decide)] at H; exact H
       clear H
       have H := H1
       clear H1
       by_cases c23 : 0 ≤ x9_1
       ·rw [if_pos c23] at H
        have c23b0 : decide (0 ≤ x9_1) = true := decide_eq_true c23
        clear c23
        by_cases c24 : x9_1 < (l0.length : Int)
        ·rw [if_pos c24] at H
         have c24b0 : decide (x9_1 < (l0.length : Int)) = true := decide_eq_true c24
         clear c24
         by_cases c25 : ((rd_T53 l0 x9_1).f0).toList = a1.toList
         ·rw [if_pos c25] at H
          have c25b0 : (((rd_T53 l0 x9_1).f0).toList == a1.toList) = true := beq_iff_eq.mpr c25
          have c25b1 : (((rd_T53 l0 x9_1).f0).toList != a1.toList) = false := bne_eq_false_iff_eq.mpr c25
          clear c25
          have H' := Aside0.mk H
          clear H
          have p460 : 0 ≤ (x9_1 : Int) := of_decide_eq_true (by first | (with_reducible assumption) | assumption)
          have q460 : x9_1 < (l0.length : Int) := of_decide_eq_true (by first | (with_reducible assumption) | assumption)
          obtain ⟨ad460, e460, hx460_0, hx460_1⟩ := at_T53 HR0.out x9_1 p460 q460
          cases e460
          replace hx460_0 := (HB.out.cell (World.block_lt_of_cell? w _ hx460_0)).trans hx460_0
          replace hx460_1 := (HB.out.cell (World.block_lt_of_cell? w _ hx460_1)).trans hx460_1
          replace p460 := eq_true p460
          replace q460 := eq_true q460
          go_wp2
          go_roundg kj4
          case measure => have := HK1.out; have := HJ4.out; omega
          case rel => exact ⟨(x7_1), (x8_1), (wrap64 (x9_1 + 1)), (by first | rfl | (simp; done) | (simp [*]; done)), (by first | rfl | (simp; done) | (simp [*]; done)), H', ⟨by have := HK1.out; have := HJ4.out; omega⟩, ⟨by (with_reducible repeat (first | apply Kd.R_alloc | apply Kd.R_drewN | apply Kd.R_drew)); exact HO_7.out⟩, ⟨by repeat (first | (with_reducible first | exact HB.out | apply below_alloc | apply pw_below_drewN | apply below_drew1) | exact HB.out)⟩⟩
         ·rw [if_neg c25] at H
          have c25b0 : (((rd_T53 l0 x9_1).f0).toList == a1.toList) = false := beq_eq_false_iff_ne.mpr c25
          have c25b1 : (((rd_T53 l0 x9_1).f0).toList != a1.toList) = true := bne_iff_ne.mpr c25
          by_cases c26 : x7_1.length < 5864062014805
          ·rw [if_pos c26] at H
           have LMc26 := Aside0.mk c26
           clear c26
           obtain ⟨y462, hy462⟩ : ∃ y_ : List (S53), y_ = (x7_1 ++ [(⟨(rd_T53 l0 x9_1).f0, (rd_T53 l0 x9_1).f1⟩ : S53)]) := ⟨_, rfl⟩
           replace H : (ref06_put.l0 kj4 l0 a1 a2 y462 x8_1 (wrap64 (x9_1 + 1))) = some r := by first | (rw [hy462]; with_reducible exact H) | (have H2_ := (Option.bind_some _ _).symm.trans H; rw [hy462]; with_reducible exact H2_) | (have H2_ := (Option.bind_some _ _).symm.trans H; with_reducible exact H2_) | with_reducible exact H | (rw [hy462]; exact H) | exact H
           have Ny462 := Aside0.mk hy462
           clear hy462
           have H' := Aside0.mk H
           clear H
           have p460 : 0 ≤ (x9_1 : Int) := of_decide_eq_true (by first | (with_reducible assumption) | assumption)
           have q460 : x9_1 < (l0.length : Int) := of_decide_eq_true (by first | (with_reducible assumption) | assumption)
           obtain ⟨ad460, e460, hx460_0, hx460_1⟩ := at_T53 HR0.out x9_1 p460 q460
           cases e460
           replace hx460_0 := (HB.out.cell (World.block_lt_of_cell? w _ hx460_0)).trans hx460_0
           replace hx460_1 := (HB.out.cell (World.block_lt_of_cell? w _ hx460_1)).trans hx460_1
           replace p460 := eq_true p460
           replace q460 := eq_true q460
           have p461 : 0 ≤ (x9_1 : Int) := of_decide_eq_true (by first | (with_reducible assumption) | assumption)
           have q461 : x9_1 < (l0.length : Int) := of_decide_eq_true (by first | (with_reducible assumption) | assumption)
           obtain ⟨ad461, e461, hx461_0, hx461_1⟩ := at_T53 HR0.out x9_1 p461 q461
           obtain rfl : ad460 = ad461 := (by injection e461)
           replace hx461_0 := (HB.out.cell (World.block_lt_of_cell? w _ hx461_0)).trans hx461_0
           replace hx461_1 := (HB.out.cell (World.block_lt_of_cell? w _ hx461_1)).trans hx461_1
           replace p461 := eq_true p461
           replace q461 := eq_true q461
           go_wp2_with (first | ((with_reducible refine gate_builtin (b := .append) (xs := #[.tmp 42, .tmp 47]) rfl ?_); at_builtin; refine Kd.R_append k53 (w0 := w) w.heap.size rfl (.tmp 42) (.tmp 47) 40 53 (.agg #[(.string ⟨#[]⟩), (.int .i64 0)]) 24 rfl Try.underlying40 info53 rfl (by decide) (by omega) u7 x7_1 (⟨(rd_T53 l0 x9_1).f0, (rd_T53 l0 x9_1).f1⟩ : S53) [.string ((rd_T53 l0 x9_1).f0), .int .i64 ((rd_T53 l0 x9_1).f1)] (fun _ => True) (fun _ => False) rfl rfl ?aP (fun _ hk => hk.elim) ?aF ?aO ?aB ?aS ?aL ?_; (case aP => exact k53_mkM _ _ _ (⟨(rd_T53 l0 x9_1).f0, (rd_T53 l0 x9_1).f1⟩ : S53)); (case aB => exact (by repeat (first | (with_reducible first | exact HB.out | apply below_alloc | apply pw_below_drewN | apply below_drew1) | exact HB.out))); (case aF => exact (fun _ _ => trivial)); (case aO => exact (by (with_reducible repeat (first | apply Kd.R_alloc | apply Kd.R_drewN | apply Kd.R_drew)); exact HO_7.out)); (case aS => exact (below_size (by repeat (first | (with_reducible first | exact HB.out | apply below_alloc | apply pw_below_drewN | apply below_drew1) | exact HB.out)))); (case aL => have := LMc26.out; omega); intro v463 w27 ho hb hg hat; rw [← Ny462.out] at ho; have n0_ := Aside0.mk (hb); have n1_ := Aside0.mk (ho); clear HB; clear HO_7; have HB := n0_; have HO464 := n1_; clear n0_ n1_; clear ho hb hg hat))
           go_roundg kj4
           case measure => have := HK1.out; have := HJ4.out; omega
           case rel => exact ⟨(y462), (x8_1), (wrap64 (x9_1 + 1)), (by first | rfl | (simp; done) | (simp [*]; done)), (by first | rfl | (simp; done) | (simp [*]; done)), H', ⟨by have := HK1.out; have := HJ4.out; omega⟩, ⟨by (with_reducible repeat (first | apply Kd.R_alloc | apply Kd.R_drewN | apply Kd.R_drew)); exact HO464.out⟩, ⟨by repeat (first | (with_reducible first | exact HB.out | apply below_alloc | apply pw_below_drewN | apply below_drew1) | exact HB.out)⟩⟩
          ·rw [if_neg c26] at H
           exact absurd H (by simp)
        ·rw [if_neg c24] at H
         exact absurd H (by simp)
       ·rw [if_neg c23] at H
        exact absurd H (by simp)
   ·rw [if_neg c4] at H
    have c4b0 : decide (x9_1 < (l0.length : Int)) = false := decide_eq_false c4
    clear c4
    by_cases c28 : x8_1 = true
    ·subst c28
     have H1 : (some x7_1) = some r := by rw [if_pos rfl] at H; exact H
     clear H
     have H := H1
     clear H1
     obtain rfl := Option.some.inj H
     go_wp2
     go_ret
     exact ⟨_, by first | rfl | (simp [errW_none, errW_some] <;> rfl) | (simp [*, errW_none, errW_some] <;> rfl), by (with_reducible repeat (first | apply Kd.R_alloc | apply Kd.R_drewN | apply Kd.R_drew)); exact HO_7.out, by repeat (first | (with_reducible first | exact HB.out | apply below_alloc | apply pw_below_drewN | apply below_drew1) | exact HB.out)⟩
    ·replace c28 := Bool.eq_false_iff.mpr c28
     subst c28
     have H1 : (if a2 = 0 then (some x7_1) else (if x7_1.length < 5864062014805 then (some (x7_1 ++ [(⟨a1, a2⟩ : S53)])) else (none))) = some r := by rw [if_neg (show ¬ (false = true) by decide)] at H; exact H
     clear H
     have H := H1
     clear H1
     by_cases c29 : a2 = 0
     ·rw [if_pos c29] at H
      have c29b0 : (a2 == 0) = true := beq_iff_eq.mpr c29
      have c29b1 : (a2 != 0) = false := bne_eq_false_iff_eq.mpr c29
      clear c29
      obtain rfl := Option.some.inj H
      go_wp2
      go_ret
      exact ⟨_, by first | rfl | (simp [errW_none, errW_some] <;> rfl) | (simp [*, errW_none, errW_some] <;> rfl), by (with_reducible repeat (first | apply Kd.R_alloc | apply Kd.R_drewN | apply Kd.R_drew)); exact HO_7.out, by repeat (first | (with_reducible first | exact HB.out | apply below_alloc | apply pw_below_drewN | apply below_drew1) | exact HB.out)⟩
     ·rw [if_neg c29] at H
      have c29b0 : (a2 == 0) = false := beq_eq_false_iff_ne.mpr c29
      have c29b1 : (a2 != 0) = true := bne_iff_ne.mpr c29
      by_cases c30 : x7_1.length < 5864062014805
      ·rw [if_pos c30] at H
       have LMc30 := Aside0.mk c30
       clear c30
       obtain ⟨y443, hy443⟩ : ∃ y_ : List (S53), y_ = (x7_1 ++ [(⟨a1, a2⟩ : S53)]) := ⟨_, rfl⟩
       replace H : (some y443) = some r := by first | (rw [hy443]; with_reducible exact H) | (have H2_ := (Option.bind_some _ _).symm.trans H; rw [hy443]; with_reducible exact H2_) | (have H2_ := (Option.bind_some _ _).symm.trans H; with_reducible exact H2_) | with_reducible exact H | (rw [hy443]; exact H) | exact H
       have Ny443 := Aside0.mk hy443
       clear hy443
       obtain rfl := Option.some.inj H
       go_wp2_with (first | ((with_reducible refine gate_builtin (b := .append) (xs := #[.tmp 55, .tmp 59]) rfl ?_); at_builtin; refine Kd.R_append k53 (w0 := w) w.heap.size rfl (.tmp 55) (.tmp 59) 40 53 (.agg #[(.string ⟨#[]⟩), (.int .i64 0)]) 24 rfl Try.underlying40 info53 rfl (by decide) (by omega) u7 x7_1 (⟨a1, a2⟩ : S53) [.string a1, .int .i64 a2] (fun _ => True) (fun _ => False) rfl rfl ?aP (fun _ hk => hk.elim) ?aF ?aO ?aB ?aS ?aL ?_; (case aP => exact k53_mkM _ _ _ (⟨a1, a2⟩ : S53)); (case aB => exact (by repeat (first | (with_reducible first | exact HB.out | apply below_alloc | apply pw_below_drewN | apply below_drew1) | exact HB.out))); (case aF => exact (fun _ _ => trivial)); (case aO => exact (by (with_reducible repeat (first | apply Kd.R_alloc | apply Kd.R_drewN | apply Kd.R_drew)); exact HO_7.out)); (case aS => exact (below_size (by repeat (first | (with_reducible first | exact HB.out | apply below_alloc | apply pw_below_drewN | apply below_drew1) | exact HB.out)))); (case aL => have := LMc30.out; omega); intro v444 w31 ho hb hg hat; rw [← Ny443.out] at ho; have n0_ := Aside0.mk (hb); have n1_ := Aside0.mk (ho); clear HB; clear HO_7; have HB := n0_; have HO445 := n1_; clear n0_ n1_; clear ho hb hg hat))
       go_ret
       exact ⟨_, by first | rfl | (simp [errW_none, errW_some] <;> rfl) | (simp [*, errW_none, errW_some] <;> rfl), by (with_reducible repeat (first | apply Kd.R_alloc | apply Kd.R_drewN | apply Kd.R_drew)); exact HO445.out, by repeat (first | (with_reducible first | exact HB.out | apply below_alloc | apply pw_below_drewN | apply below_drew1) | exact HB.out)⟩
      ·rw [if_neg c30] at H
       exact absurd H (by simp)

/-! ### ref06_Inc: function 38 -/
def ref06_Inc.j0 : Nat → List (S53) → ByteArray → Int → Bool → Option ((List (S53)))
 | 0, _, _, _, _ => none
 | k + 1, x0, x1, x2, x18 => if x18 = true then (some ([] : List (S53))) else ((ref06_Get.f k x0 x1).bind fun t467 => ((ref06_put.f k x0 x1 (wrap64 (t467 + x2))).bind fun t468 => (some t468)))
def ref06_Inc.f (k : Nat) (l0 : List (S53)) (a1 : ByteArray) (a2 : Int) : Option ((List (S53))) := (ref06_May.f k l0).bind fun t465 => ((ref05_Key.f k a1).bind fun t466 => (if t465 = true then (ref06_Inc.j0 k l0 a1 a2 (!t466)) else (ref06_Inc.j0 k l0 a1 a2 true)))
theorem ref06_Inc.mono_l : ∀ k, (∀ y0 y1 y2 y3, LeO (ref06_Inc.j0 k y0 y1 y2 y3) (ref06_Inc.j0 (k + 1) y0 y1 y2 y3))
 | 0 => fun _ _ _ _ r h => by simp [ref06_Inc.j0] at h
 | k + 1 => by
  have ih0 := ref06_Inc.mono_l k
  ·intro y0 y1 y2 y3
   unfold ref06_Inc.j0
   repeat' first
   | (with_reducible exact ih0 _ _ _ _)
   | (with_reducible exact ref05_Key.mono _ _)
   | (with_reducible exact ref06_Get.mono _ _ _)
   | (with_reducible exact ref06_May.mono _ _)
   | (with_reducible exact ref06_put.mono _ _ _ _)
   | (with_reducible exact LeO.refl _)
   | (with_reducible exact LeO.none _)
   | (with_reducible refine LeO.ite ?_ ?_)
   | (with_reducible refine LeO.bind ?_ (fun _ => ?_))
   | exact ih0 _ _ _ _
   | exact ref05_Key.mono _ _
   | exact ref06_Get.mono _ _ _
   | exact ref06_May.mono _ _
   | exact ref06_put.mono _ _ _ _
   | exact LeO.none _
   | refine LeO.ite ?_ ?_
   | refine LeO.bind ?_ (fun _ => ?_)
theorem ref06_Inc.mono : ∀ a0 a1 a2 k, LeO (ref06_Inc.f k a0 a1 a2) (ref06_Inc.f (k + 1) a0 a1 a2) := by
 intro a0 a1 a2 k
 have ih0 := ref06_Inc.mono_l k
 unfold ref06_Inc.f
 repeat' first
   | (with_reducible exact ih0 _ _ _ _)
   | (with_reducible exact ref05_Key.mono _ _)
   | (with_reducible exact ref06_Get.mono _ _ _)
   | (with_reducible exact ref06_May.mono _ _)
   | (with_reducible exact ref06_put.mono _ _ _ _)
   | (with_reducible exact LeO.refl _)
   | (with_reducible exact LeO.none _)
   | (with_reducible refine LeO.ite ?_ ?_)
   | (with_reducible refine LeO.bind ?_ (fun _ => ?_))
   | exact ih0 _ _ _ _
   | exact ref05_Key.mono _ _
   | exact ref06_Get.mono _ _ _
   | exact ref06_May.mono _ _
   | exact ref06_put.mono _ _ _ _
   | exact LeO.none _
   | refine LeO.ite ?_ ?_
   | refine LeO.bind ?_ (fun _ => ?_)
set_option maxHeartbeats 8000000 in
set_option maxRecDepth 100000 in
theorem ref06_Inc.calls (k : Nat) (A0 : Option Addr) (c0 : Nat) (l0 : List (S53)) (a1 : ByteArray) (a2 : Int) (r : List (S53)) (w : World) (hr0 : Kd.C k53 w A0 l0.length l0) (hc0 : l0.length ≤ c0) (h : ref06_Inc.f k l0 a1 a2 = some r) :
  Calls Try.prog 38 #[.slice A0 l0.length c0, .string a1, .int .i64 a2] w fun e w' => ∃ v0_ : Value, e = .returned (v0_) ∧ Kd.R k53 53 w' w.heap.size (fun _ => True) v0_ r ∧ Below w.heap.size w w' := by
 have HR0 := Aside0.mk hr0
 have HC0 := Aside0.mk hc0
 clear hr0 hc0
 have HB := Aside0.mk (Below.refl w.heap.size w)
 have H : ((ref06_May.f k l0).bind fun t465 => ((ref05_Key.f k a1).bind fun t466 => (if t465 = true then (ref06_Inc.j0 k l0 a1 a2 (!t466)) else (ref06_Inc.j0 k l0 a1 a2 true)))) = some r := h
 clear h
 replace H := Option.bind_eq_some_iff.mp H
 obtain ⟨t465, A40, H⟩ := H
 replace H : ((ref05_Key.f k a1).bind fun t466 => (if t465 = true then (ref06_Inc.j0 k l0 a1 a2 (!t466)) else (ref06_Inc.j0 k l0 a1 a2 true))) = some r := H
 have A4 := Aside0.mk A40
 clear A40
 replace H := Option.bind_eq_some_iff.mp H
 obtain ⟨t466, A50, H⟩ := H
 replace H : (if t465 = true then (ref06_Inc.j0 k l0 a1 a2 (!t466)) else (ref06_Inc.j0 k l0 a1 a2 true)) = some r := H
 have A5 := Aside0.mk A50
 clear A50
 have HC6 := Aside0.mk H
 clear H
 go_enter Try.func38, Try.ntmps38
 go_upto_region 3 with (first | ((with_reducible refine gate_callee (f := 35) rfl ?_); refine goesL_ (some 10) rfl rfl Try.func35 (by kernel_rfl) rfl #[.slice A0 l0.length c0] rfl (by (try simp only [List.map_toArray, List.map_cons, List.map_nil]); first | done | rfl | (simp only [List.length_drop, List.length_take]; rfl)) ?_; (with_reducible refine (ref06_May.calls k _ _ l0 t465 _ ?side1 ?side2 A4.out).mono ?_); (case side1 => repeat (first | exact HR0.out | (with_reducible refine Kd.C_alloc ?_ _) | (with_reducible refine Kd.C_drewN ?_ _) | (with_reducible refine Kd.C_drew ?_))); (case side2 => exact HC0.out); rintro e w' ⟨rfl, ⟨nd, rfl⟩⟩; refine ⟨_, rfl, ?_⟩) | ((with_reducible refine gate_callee (f := 44) rfl ?_); refine goesL_ (some 12) rfl rfl Try.func44 (by kernel_rfl) rfl #[.string a1] rfl (by (try simp only [List.map_toArray, List.map_cons, List.map_nil]); first | done | rfl | (simp only [List.length_drop, List.length_take]; rfl)) ?_; (with_reducible refine (ref05_Key.calls k a1 t466 _ A5.out).mono ?_); rintro e w' ⟨rfl, ⟨nd, rfl⟩⟩; refine ⟨_, rfl, ?_⟩))
 (try simp only [Act.put, List.setIfInBounds_toArray, List.set_cons_zero, List.set_cons_succ])
 go_cut [18] (fun v18 wc => ∃ (kq : Nat) (x18_5 : Bool), v18 = .bool x18_5 ∧ Aside0 (ref06_Inc.j0 kq l0 a1 a2 x18_5 = some r) ∧ Aside0 (kq ≤ k) ∧ Aside0 (Below w.heap.size w wc))
 case first =>
  have H := HC6.out
  clear HC6
  by_cases c7 : t465 = true
  ·subst c7
   have H1 : (ref06_Inc.j0 k l0 a1 a2 (!t466)) = some r := by rw [if_pos rfl] at H; exact H
   clear H
   have H := H1
   clear H1
   have H' := Aside0.mk H
   clear H
   go_wp2
   go_meet
   case rel => exact ⟨_, (!t466), (by first | rfl | (simp; done) | (simp [*]; done)), H', ⟨by first | omega | exact Nat.le_refl _⟩, ⟨by repeat (first | (with_reducible first | exact HB.out | apply below_alloc | apply pw_below_drewN | apply below_drew1) | exact HB.out)⟩⟩
  ·replace c7 := Bool.eq_false_iff.mpr c7
   subst c7
   have H1 : (ref06_Inc.j0 k l0 a1 a2 true) = some r := by rw [if_neg (show ¬ (false = true) by decide)] at H; exact H
   clear H
   have H := H1
   clear H1
   have H' := Aside0.mk H
   clear H
   go_wp2
   go_meet
   case rel => exact ⟨_, (true), (by first | rfl | (simp; done) | (simp [*]; done)), H', ⟨by first | omega | exact Nat.le_refl _⟩, ⟨by repeat (first | (with_reducible first | exact HB.out | apply below_alloc | apply pw_below_drewN | apply below_drew1) | exact HB.out)⟩⟩
 case rest =>
  clear HC6
  try clear p2
  try clear c3
  try clear c4
  try clear c7
  obtain ⟨kq, x18_5, rfl, HA, HJ5, HB⟩ := hcut
  cases kq with
  | zero => exact absurd HA.out (by simp [ref06_Inc.j0])
  | succ kj5 =>
   have H := HA.out
   clear HA
   simp only [ref06_Inc.j0] at H
   by_cases c8 : x18_5 = true
   ·subst c8
    have H1 : (some ([] : List (S53))) = some r := by rw [if_pos rfl] at H; exact H
    clear H
    have H := H1
    clear H1
    obtain rfl := Option.some.inj H
    go_wp2
    go_ret
    exact ⟨_, by first | rfl | (simp [errW_none, errW_some] <;> rfl) | (simp [*, errW_none, errW_some] <;> rfl), by first | exact Kd.R_nil _ _ _ _ _ | exact Kd.N_nil _ _ _ _ _ | exact Kd.V_nil _ _ _ _ _ | exact Kd.Q_nil _ _ _ _ _ | exact Kd.S_nil _ _ _ _ _, by repeat (first | (with_reducible first | exact HB.out | apply below_alloc | apply pw_below_drewN | apply below_drew1) | exact HB.out)⟩
   ·replace c8 := Bool.eq_false_iff.mpr c8
    subst c8
    have H1 : ((ref06_Get.f kj5 l0 a1).bind fun t467 => ((ref06_put.f kj5 l0 a1 (wrap64 (t467 + a2))).bind fun t468 => (some t468))) = some r := by rw [if_neg (show ¬ (false = true) by decide)] at H; exact H
    clear H
    have H := H1
    clear H1
    replace H := Option.bind_eq_some_iff.mp H
    obtain ⟨t467, A90, H⟩ := H
    replace H : ((ref06_put.f kj5 l0 a1 (wrap64 (t467 + a2))).bind fun t468 => (some t468)) = some r := H
    have A9 := Aside0.mk A90
    clear A90
    replace H := Option.bind_eq_some_iff.mp H
    obtain ⟨t468, A100, H⟩ := H
    replace H : (some t468) = some r := H
    have A10 := Aside0.mk A100
    clear A100
    obtain rfl := Option.some.inj H
    go_wp2_with (first | ((with_reducible refine gate_callee (f := 43) rfl ?_); refine goesL_ (some 23) rfl rfl Try.func43 (by kernel_rfl) rfl #[.slice A0 l0.length c0, .string a1] rfl (by (try simp only [List.map_toArray, List.map_cons, List.map_nil]); first | done | rfl | (simp only [List.length_drop, List.length_take]; rfl)) ?_; (with_reducible refine (ref06_Get.calls kj5 _ _ l0 a1 t467 _ ?side1 ?side2 A9.out).mono ?_); (case side1 => repeat (first | exact (Kd.C_below HR0.out HB.out) | (with_reducible refine Kd.C_alloc ?_ _) | (with_reducible refine Kd.C_drewN ?_ _) | (with_reducible refine Kd.C_drew ?_))); (case side2 => exact HC0.out); rintro e w' ⟨rfl, ⟨nd, rfl⟩⟩; refine ⟨_, rfl, ?_⟩) | ((with_reducible refine gate_callee (f := 72) rfl ?_); refine goesL_ (some 26) rfl rfl Try.func72 (by kernel_rfl) rfl #[.slice A0 l0.length c0, .string a1, .int .i64 (wrap64 (t467 + a2))] rfl (by (try simp only [List.map_toArray, List.map_cons, List.map_nil]); first | done | rfl | (simp only [List.length_drop, List.length_take]; rfl)) ?_; (with_reducible refine (ref06_put.calls kj5 _ _ l0 a1 (wrap64 (t467 + a2)) t468 _ ?side1 ?side2 A10.out).mono ?_); (case side1 => repeat (first | exact (Kd.C_below HR0.out (by repeat (first | (with_reducible first | exact HB.out | apply below_alloc | apply pw_below_drewN | apply below_drew1) | exact HB.out))) | (with_reducible refine Kd.C_alloc ?_ _) | (with_reducible refine Kd.C_drewN ?_ _) | (with_reducible refine Kd.C_drew ?_))); (case side2 => exact HC0.out); rintro e w11 ⟨v469, rfl, ho0, hb⟩; refine ⟨_, rfl, ?_⟩; have n0_ := Aside0.mk (Kd.R_lower ho0 (below_size (by repeat (first | (with_reducible first | exact HB.out | apply below_alloc | apply pw_below_drewN | apply below_drew1) | exact HB.out)))); have n1_ := Aside0.mk (below_step (by repeat (first | (with_reducible first | exact HB.out | apply below_alloc | apply pw_below_drewN | apply below_drew1) | exact HB.out)) hb); clear HB; have HO470 := n0_; have HB := n1_; clear n0_ n1_; (try clear hb); (try clear hb2); (try clear hk); (try clear hi); (try clear ho0)))
    go_ret
    exact ⟨_, by first | rfl | (simp [errW_none, errW_some] <;> rfl) | (simp [*, errW_none, errW_some] <;> rfl), by (with_reducible repeat (first | apply Kd.R_alloc | apply Kd.R_drewN | apply Kd.R_drew)); exact HO470.out, by repeat (first | (with_reducible first | exact HB.out | apply below_alloc | apply pw_below_drewN | apply below_drew1) | exact HB.out)⟩

end Go.Proofs.Ytannmdngejdjkaa.L
