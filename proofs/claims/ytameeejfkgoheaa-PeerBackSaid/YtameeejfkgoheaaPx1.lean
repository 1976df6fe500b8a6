-- PRINTED by print.py (a twelfth state) out of the translation. Not trusted: Lean checks it.
import Derived.Test.YtameeejfkgoheaaPx0
namespace Go.Proofs.Ytameeejfkgoheaa.P
open Go.RowKit Go.Proofs.YtameeejfkgoheaaW.PrintWords Go.Proofs.YtameeejfkgoheaaW.PrintLast Go.Proofs.YtameeejfkgoheaaW.PrintMore
attribute [local go_sem] max2_int min2_int max_two min_two max_three min_three max_four min_four   -- for this text's walks alone
set_option linter.unusedVariables false
set_option linter.unusedSimpArgs false

/-! ### peer_Next: function 11 -/
def peer_Next.f (a0 : Int) : Option (Int) := if a0 = 0 then (some (Go.bits .xor .u32 (Go.bits .xor .u32 (Go.bits .xor .u32 1 (1 * 8192)) ((Go.bits .xor .u32 1 (1 * 8192)) / 131072)) (((Go.bits .xor .u32 (Go.bits .xor .u32 1 (1 * 8192)) ((Go.bits .xor .u32 1 (1 * 8192)) / 131072)) * 32) % 4294967296))) else (some (Go.bits .xor .u32 (Go.bits .xor .u32 (Go.bits .xor .u32 a0 ((a0 * 8192) % 4294967296)) ((Go.bits .xor .u32 a0 ((a0 * 8192) % 4294967296)) / 131072)) (((Go.bits .xor .u32 (Go.bits .xor .u32 a0 ((a0 * 8192) % 4294967296)) ((Go.bits .xor .u32 a0 ((a0 * 8192) % 4294967296)) / 131072)) * 32) % 4294967296)))
set_option maxHeartbeats 8000000 in
set_option maxRecDepth 100000 in
theorem peer_Next.calls (a0 : Int) (r : Int) (w : World) (h : peer_Next.f a0 = some r) :
  Calls Try.prog 11 #[.int .u32 a0] w fun e w' => e = .returned (.int .u32 r) ∧ Drawn0 w w' := by
 have H : (if a0 = 0 then (some (Go.bits .xor .u32 (Go.bits .xor .u32 (Go.bits .xor .u32 1 (1 * 8192)) ((Go.bits .xor .u32 1 (1 * 8192)) / 131072)) (((Go.bits .xor .u32 (Go.bits .xor .u32 1 (1 * 8192)) ((Go.bits .xor .u32 1 (1 * 8192)) / 131072)) * 32) % 4294967296))) else (some (Go.bits .xor .u32 (Go.bits .xor .u32 (Go.bits .xor .u32 a0 ((a0 * 8192) % 4294967296)) ((Go.bits .xor .u32 a0 ((a0 * 8192) % 4294967296)) / 131072)) (((Go.bits .xor .u32 (Go.bits .xor .u32 a0 ((a0 * 8192) % 4294967296)) ((Go.bits .xor .u32 a0 ((a0 * 8192) % 4294967296)) / 131072)) * 32) % 4294967296)))) = some r := h
 clear h
 by_cases c2 : a0 = 0
 ·rw [if_pos c2] at H
  have c2b0 : (a0 == 0) = true := beq_iff_eq.mpr c2
  have c2b1 : (a0 != 0) = false := bne_eq_false_iff_eq.mpr c2
  clear c2
  obtain rfl := Option.some.inj H
  go_enter Try.func11, Try.ntmps11
  go_wp2
  go_ret
  exact ⟨by first | rfl | (simp; done) | (simp [*]; done), by repeat (first | exact Drawn0.refl _ | apply Drawn0.step)⟩
 ·rw [if_neg c2] at H
  have c2b0 : (a0 == 0) = false := beq_eq_false_iff_ne.mpr c2
  have c2b1 : (a0 != 0) = true := bne_iff_ne.mpr c2
  obtain rfl := Option.some.inj H
  go_enter Try.func11, Try.ntmps11
  go_wp2
  go_ret
  exact ⟨by first | rfl | (simp; done) | (simp [*]; done), by repeat (first | exact Drawn0.refl _ | apply Drawn0.step)⟩

/-! ### peer_Wait: function 12 -/
def peer_Wait.f (a0 : Int) : Option (Int) := some (wrap64 (2 ^ (mn (mx a0 0) 6).toNat))
set_option maxHeartbeats 8000000 in
set_option maxRecDepth 100000 in
theorem peer_Wait.calls (a0 : Int) (r : Int) (w : World) (h : peer_Wait.f a0 = some r) :
  Calls Try.prog 12 #[.int .i64 a0] w fun e w' => e = .returned (.int .i64 r) ∧ Below w.heap.size w w' := by
 have HB := Aside0.mk (Below.refl w.heap.size w)
 have H : (some (wrap64 (2 ^ (mn (mx a0 0) 6).toNat))) = some r := h
 clear h
 obtain ⟨ji2, hji2⟩ : ∃ j_ : Int, (mx a0 0) = j_ := ⟨_, rfl⟩
 replace H : (some (wrap64 (2 ^ (mn (ji2) 6).toNat))) = some r := by first | (rw [hji2] at H; exact H) | (simp only [hji2] at H ⊢; exact H)
 (try (have hji2l : 0 ≤ ji2 := by (rw [← hji2]; unfold mx; (repeat' split) <;> omega)))
 (try (have hji2m : 0 ≤ ji2 := by omega))
 have hji2_ : (if a0 < 0 then 0 else a0) = ji2 := hji2
 obtain ⟨ji3, hji3⟩ : ∃ j_ : Int, (mn (ji2) 6) = j_ := ⟨_, rfl⟩
 replace H : (some (wrap64 (2 ^ (ji3).toNat))) = some r := by first | (rw [hji3] at H; exact H) | (simp only [hji3] at H ⊢; exact H)
 have hji3_ : (if 6 < (ji2) then 6 else (ji2)) = ji3 := hji3
 obtain rfl := Option.some.inj H
 go_enter Try.func12, Try.ntmps12
 go_wp2
 go_ret
 exact ⟨by first | rfl | (simp [errW_none, errW_some] <;> rfl) | (simp only [← hji2, ← hji3]; first | rfl | (simp [errW_none, errW_some] <;> rfl)) | (simp [*, errW_none, errW_some] <;> rfl), by repeat (first | (with_reducible first | exact HB.out | apply below_alloc | apply pw_below_drewN | apply below_drew1) | exact HB.out)⟩

/-! ### peer_Pick: function 13 -/
def peer_Pick.f (l0 : List Int) (a1 : Int) : Option (Int × Bool) := if (l0.length : Int) = 0 then (some (0,false)) else (if (((l0.length : Int)) % 4294967296) = 0 then (none) else (if 0 ≤ (wrap64 (Int.tmod a1 (((l0.length : Int)) % 4294967296))) then (if (wrap64 (Int.tmod a1 (((l0.length : Int)) % 4294967296))) < (l0.length : Int) then (some (rd l0 (wrap64 (Int.tmod a1 (((l0.length : Int)) % 4294967296))),true)) else (none)) else (none)))
set_option maxHeartbeats 8000000 in
set_option maxRecDepth 100000 in
theorem peer_Pick.calls (A0 : Option Addr) (c0 : Nat) (l0 : List Int) (a1 : Int) (r1 : Int) (r2 : Bool) (w : World) (hr0 : Kd.C (Kd.int .i64) w A0 l0.length l0) (hc0 : l0.length ≤ c0) (h : peer_Pick.f l0 a1 = some (r1, r2)) :
  Calls Try.prog 13 #[.slice A0 l0.length c0, .int .u32 a1] w fun e w' => e = .returned (.tuple #[.int .i64 r1, .bool r2]) ∧ Drawn0 w w' := by
 have HR0 := Aside0.mk hr0
 have HC0 := Aside0.mk hc0
 clear hr0 hc0
 have H : (if (l0.length : Int) = 0 then (some (0,false)) else (if (((l0.length : Int)) % 4294967296) = 0 then (none) else (if 0 ≤ (wrap64 (Int.tmod a1 (((l0.length : Int)) % 4294967296))) then (if (wrap64 (Int.tmod a1 (((l0.length : Int)) % 4294967296))) < (l0.length : Int) then (some (rd l0 (wrap64 (Int.tmod a1 (((l0.length : Int)) % 4294967296))),true)) else (none)) else (none)))) = some (r1, r2) := h
 clear h
 by_cases c3 : (l0.length : Int) = 0
 ·rw [if_pos c3] at H
  have c3b0 : ((l0.length : Int) == 0) = true := beq_iff_eq.mpr c3
  have c3b1 : ((l0.length : Int) != 0) = false := bne_eq_false_iff_eq.mpr c3
  clear c3
  simp only [Option.some.injEq, Prod.mk.injEq] at H
  obtain ⟨rfl, rfl⟩ := H
  go_enter Try.func13, Try.ntmps13
  go_wp2
  go_ret2
  exact ⟨by first | rfl | (simp; done) | (simp [*]; done), by repeat (first | exact Drawn0.refl _ | apply Drawn0.step)⟩
 ·rw [if_neg c3] at H
  have c3b0 : ((l0.length : Int) == 0) = false := beq_eq_false_iff_ne.mpr c3
  have c3b1 : ((l0.length : Int) != 0) = true := bne_iff_ne.mpr c3
  have c3b2 : ¬ (l0 = []) := fun h_ => c3 (by rw [h_]; rfl)
  by_cases c4 : (((l0.length : Int)) % 4294967296) = 0
  ·rw [if_pos c4] at H
   exact absurd H (by simp)
  ·rw [if_neg c4] at H
   have c4b0 : ((((l0.length : Int)) % 4294967296) == 0) = false := beq_eq_false_iff_ne.mpr c4
   have c4b1 : ((((l0.length : Int)) % 4294967296) != 0) = true := bne_iff_ne.mpr c4
   obtain ⟨ji5, hji5⟩ : ∃ j_ : Int, (wrap64 (Int.tmod a1 (((l0.length : Int)) % 4294967296))) = j_ := ⟨_, rfl⟩
   replace H : (if 0 ≤ (ji5) then (if (ji5) < (l0.length : Int) then (some (rd l0 (ji5),true)) else (none)) else (none)) = some (r1, r2) := by first | (rw [hji5] at H; exact H) | (simp only [hji5] at H ⊢; exact H)
   have hji5w : (IntKind.i64.wrap (Int.tmod a1 (((l0.length : Int)) % 4294967296))) = ji5 := (i64_w _).trans hji5
   by_cases c6 : 0 ≤ (ji5)
   ·rw [if_pos c6] at H
    have c6b0 : decide (0 ≤ (ji5)) = true := decide_eq_true c6
    clear c6
    by_cases c7 : (ji5) < (l0.length : Int)
    ·rw [if_pos c7] at H
     have c7b0 : decide ((ji5) < (l0.length : Int)) = true := decide_eq_true c7
     clear c7
     simp only [Option.some.injEq, Prod.mk.injEq] at H
     obtain ⟨rfl, rfl⟩ := H
     have p101 : 0 ≤ ((ji5) : Int) := of_decide_eq_true (by first | (with_reducible assumption) | assumption)
     have q101 : (ji5) < (l0.length : Int) := of_decide_eq_true (by first | (with_reducible assumption) | assumption)
     obtain ⟨ad101, e101, hx101_0⟩ := Kd.at_int HR0.out (ji5) p101 q101
     cases e101
     replace p101 := eq_true p101
     replace q101 := eq_true q101
     go_enter Try.func13, Try.ntmps13
     go_wp2
     go_ret2
     exact ⟨by first | rfl | (simp; done) | (simp only [← hji5] <;> (first | rfl | simp)) | (simp [*]; done), by repeat (first | exact Drawn0.refl _ | apply Drawn0.step)⟩
    ·rw [if_neg c7] at H
     exact absurd H (by simp)
   ·rw [if_neg c6] at H
    exact absurd H (by simp)

end Go.Proofs.Ytameeejfkgoheaa.P
