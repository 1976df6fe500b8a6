/- Several texts in one: PNRefs, PXs, PPeerPlain, PNTPure. -/
import Derived.Test.YtameeejfkgoheaaPx1
import Derived.Laws.BitsAllLaws
section
/- ref19: whom a number picks, the next number, how long is waited: cut out of the print of PeerTells. -/
namespace Go.Proofs.Ytameeejfkgoheaa.P
open Go.RowKit Go.Proofs.YtameeejfkgoheaaW.PrintWords Go.Proofs.YtameeejfkgoheaaW.PrintLast Go.Proofs.YtameeejfkgoheaaW.PrintMore
attribute [local go_sem] max2_int min2_int max_two min_two max_three min_three max_four min_four   -- for this text's walks alone
set_option linter.unusedVariables false
set_option linter.unusedSimpArgs false
/-! ### anabranchref19_Pick: function 21 -/
def anabranchref19_Pick.f (l0 : List Int) (a1 : Int) : Option (Int × Bool) := if (l0.length : Int) = 0 then (some (0, false)) else (if (IntKind.u64.wrap ((l0.length : Int))) = 0 then (none) else (if 0 ≤ (wrap64 (Int.tmod (IntKind.u64.wrap (a1)) (IntKind.u64.wrap ((l0.length : Int))))) then (if (wrap64 (Int.tmod (IntKind.u64.wrap (a1)) (IntKind.u64.wrap ((l0.length : Int))))) < (l0.length : Int) then (some (rd l0 (wrap64 (Int.tmod (IntKind.u64.wrap (a1)) (IntKind.u64.wrap ((l0.length : Int))))), true)) else (none)) else (none)))
set_option maxHeartbeats 8000000 in
set_option maxRecDepth 100000 in
theorem anabranchref19_Pick.calls (A0 : Option Addr) (c0 : Nat) (l0 : List Int) (a1 : Int) (r1 : Int) (r2 : Bool) (w : World) (hr0 : Kd.C (Kd.int .i64) w A0 l0.length l0) (hc0 : l0.length ≤ c0) (h : anabranchref19_Pick.f l0 a1 = some (r1, r2)) :
    Calls Try.prog 21 #[.slice A0 l0.length c0, .int .u32 a1] w fun e w' => e = .returned (.tuple #[.int .i64 r1, .bool r2]) ∧ Drawn0 w w' := by
  have HR0 := Aside0.mk hr0
  have HC0 := Aside0.mk hc0
  clear hr0 hc0
  have H : (if (l0.length : Int) = 0 then (some (0, false)) else (if (IntKind.u64.wrap ((l0.length : Int))) = 0 then (none) else (if 0 ≤ (wrap64 (Int.tmod (IntKind.u64.wrap (a1)) (IntKind.u64.wrap ((l0.length : Int))))) then (if (wrap64 (Int.tmod (IntKind.u64.wrap (a1)) (IntKind.u64.wrap ((l0.length : Int))))) < (l0.length : Int) then (some (rd l0 (wrap64 (Int.tmod (IntKind.u64.wrap (a1)) (IntKind.u64.wrap ((l0.length : Int))))), true)) else (none)) else (none)))) = some (r1, r2) := h
  clear h
  by_cases c3 : (l0.length : Int) = 0
  · rw [if_pos c3] at H
    have c3b0 : ((l0.length : Int) == 0) = true := beq_iff_eq.mpr c3
    have c3b1 : ((l0.length : Int) != 0) = false := bne_eq_false_iff_eq.mpr c3
    clear c3
    simp only [Option.some.injEq, Prod.mk.injEq] at H
    obtain ⟨rfl, rfl⟩ := H
    go_enter Try.func21, Try.ntmps21
    go_wp2
    go_ret2
    exact ⟨by first | rfl | (simp; done) | (simp [*]; done), by repeat (first | exact Drawn0.refl _ | apply Drawn0.step)⟩
  · rw [if_neg c3] at H
    have c3b0 : ((l0.length : Int) == 0) = false := beq_eq_false_iff_ne.mpr c3
    have c3b1 : ((l0.length : Int) != 0) = true := bne_iff_ne.mpr c3
    have c3b2 : ¬ (l0 = []) := fun h_ => c3 (by rw [h_]; rfl)
    by_cases c4 : (IntKind.u64.wrap ((l0.length : Int))) = 0
    · rw [if_pos c4] at H
      exact absurd H (by simp)
    · rw [if_neg c4] at H
      have c4b0 : ((IntKind.u64.wrap ((l0.length : Int))) == 0) = false := beq_eq_false_iff_ne.mpr c4
      have c4b1 : ((IntKind.u64.wrap ((l0.length : Int))) != 0) = true := bne_iff_ne.mpr c4
      obtain ⟨ji5, hji5⟩ : ∃ j_ : Int, (wrap64 (Int.tmod (IntKind.u64.wrap (a1)) (IntKind.u64.wrap ((l0.length : Int))))) = j_ := ⟨_, rfl⟩
      replace H : (if 0 ≤ (ji5) then (if (ji5) < (l0.length : Int) then (some (rd l0 (ji5), true)) else (none)) else (none)) = some (r1, r2) := by first | (rw [hji5] at H; exact H) | (simp only [hji5] at H ⊢; exact H)
      have hji5w : (IntKind.i64.wrap (Int.tmod (IntKind.u64.wrap (a1)) (IntKind.u64.wrap ((l0.length : Int))))) = ji5 := (i64_w _).trans hji5
      by_cases c6 : 0 ≤ (ji5)
      · rw [if_pos c6] at H
        have c6b0 : decide (0 ≤ (ji5)) = true := decide_eq_true c6
        clear c6
        by_cases c7 : (ji5) < (l0.length : Int)
        · rw [if_pos c7] at H
          have c7b0 : decide ((ji5) < (l0.length : Int)) = true := decide_eq_true c7
          clear c7
          simp only [Option.some.injEq, Prod.mk.injEq] at H
          obtain ⟨rfl, rfl⟩ := H
          have p123 : 0 ≤ ((ji5) : Int) := of_decide_eq_true (by first | (with_reducible assumption) | assumption)
          have q123 : (ji5) < (l0.length : Int) := of_decide_eq_true (by first | (with_reducible assumption) | assumption)
          obtain ⟨ad123, e123, hx123_0⟩ := Kd.at_int HR0.out (ji5) p123 q123
          cases e123
          replace p123 := eq_true p123
          replace q123 := eq_true q123
          go_enter Try.func21, Try.ntmps21
          go_wp2
          go_ret2
          exact ⟨by first | rfl | (simp; done) | (simp only [← hji5] <;> (first | rfl | simp)) | (simp [*]; done), by repeat (first | exact Drawn0.refl _ | apply Drawn0.step)⟩
        · rw [if_neg c7] at H
          exact absurd H (by simp)
      · rw [if_neg c6] at H
        exact absurd H (by simp)

/-! ### anabranchref19_Next: function 22 -/
def anabranchref19_Next.f (a0 : Int) : Option (Int) := if a0 = 0 then (some (Go.bits .xor .u32 (Go.bits .xor .u32 (Go.bits .xor .u32 1 (8192 * 1)) ((Int.tdiv (Go.bits .xor .u32 1 (8192 * 1)) 131072) % 4294967296)) ((32 * (Go.bits .xor .u32 (Go.bits .xor .u32 1 (8192 * 1)) ((Int.tdiv (Go.bits .xor .u32 1 (8192 * 1)) 131072) % 4294967296))) % 4294967296))) else (some (Go.bits .xor .u32 (Go.bits .xor .u32 (Go.bits .xor .u32 a0 ((8192 * a0) % 4294967296)) ((Int.tdiv (Go.bits .xor .u32 a0 ((8192 * a0) % 4294967296)) 131072) % 4294967296)) ((32 * (Go.bits .xor .u32 (Go.bits .xor .u32 a0 ((8192 * a0) % 4294967296)) ((Int.tdiv (Go.bits .xor .u32 a0 ((8192 * a0) % 4294967296)) 131072) % 4294967296))) % 4294967296)))
set_option maxHeartbeats 8000000 in
set_option maxRecDepth 100000 in
theorem anabranchref19_Next.calls (a0 : Int) (r : Int) (w : World) (h : anabranchref19_Next.f a0 = some r) :
    Calls Try.prog 22 #[.int .u32 a0] w fun e w' => e = .returned (.int .u32 r) ∧ Drawn0 w w' := by
  have H : (if a0 = 0 then (some (Go.bits .xor .u32 (Go.bits .xor .u32 (Go.bits .xor .u32 1 (8192 * 1)) ((Int.tdiv (Go.bits .xor .u32 1 (8192 * 1)) 131072) % 4294967296)) ((32 * (Go.bits .xor .u32 (Go.bits .xor .u32 1 (8192 * 1)) ((Int.tdiv (Go.bits .xor .u32 1 (8192 * 1)) 131072) % 4294967296))) % 4294967296))) else (some (Go.bits .xor .u32 (Go.bits .xor .u32 (Go.bits .xor .u32 a0 ((8192 * a0) % 4294967296)) ((Int.tdiv (Go.bits .xor .u32 a0 ((8192 * a0) % 4294967296)) 131072) % 4294967296)) ((32 * (Go.bits .xor .u32 (Go.bits .xor .u32 a0 ((8192 * a0) % 4294967296)) ((Int.tdiv (Go.bits .xor .u32 a0 ((8192 * a0) % 4294967296)) 131072) % 4294967296))) % 4294967296)))) = some r := h
  clear h
  by_cases c2 : a0 = 0
  · rw [if_pos c2] at H
    have c2b0 : (a0 == 0) = true := beq_iff_eq.mpr c2
    have c2b1 : (a0 != 0) = false := bne_eq_false_iff_eq.mpr c2
    clear c2
    obtain rfl := Option.some.inj H
    go_enter Try.func22, Try.ntmps22
    go_wp2
    go_ret
    exact ⟨by first | rfl | (simp; done) | (simp [*]; done), by repeat (first | exact Drawn0.refl _ | apply Drawn0.step)⟩
  · rw [if_neg c2] at H
    have c2b0 : (a0 == 0) = false := beq_eq_false_iff_ne.mpr c2
    have c2b1 : (a0 != 0) = true := bne_iff_ne.mpr c2
    obtain rfl := Option.some.inj H
    go_enter Try.func22, Try.ntmps22
    go_wp2
    go_ret
    exact ⟨by first | rfl | (simp; done) | (simp [*]; done), by repeat (first | exact Drawn0.refl _ | apply Drawn0.step)⟩

/-! ### anabranchref19_Wait: function 23 -/
def anabranchref19_Wait.l0 : Nat → Int → Int → Int → Option (Int)
  | 0, _, _, _ => none
  | k + 1, x0, x3, x4 => if x4 < x0 then (if x4 < 6 then (anabranchref19_Wait.l0 k x0 (wrap64 (2 * x3)) (wrap64 (x4 + 1))) else (some x3)) else (some x3)
def anabranchref19_Wait.f (k : Nat) (a0 : Int) : Option (Int) := anabranchref19_Wait.l0 k a0 1 0
theorem anabranchref19_Wait.mono_l : ∀ k, (∀ y0 y1 y2, LeO (anabranchref19_Wait.l0 k y0 y1 y2) (anabranchref19_Wait.l0 (k + 1) y0 y1 y2))
  | 0 => fun _ _ _ r h => by simp [anabranchref19_Wait.l0] at h
  | k + 1 => by
    have ih0 := anabranchref19_Wait.mono_l k
    · intro y0 y1 y2
      unfold anabranchref19_Wait.l0
      repeat' first
      | (with_reducible exact ih0 _ _ _)
      | (with_reducible exact LeO.refl _)
      | (with_reducible exact LeO.none _)
      | (with_reducible refine LeO.ite ?_ ?_)
      | (with_reducible refine LeO.bind ?_ (fun _ => ?_))
      | exact ih0 _ _ _
      | exact LeO.none _
      | refine LeO.ite ?_ ?_
      | refine LeO.bind ?_ (fun _ => ?_)
theorem anabranchref19_Wait.mono : ∀ a0 k, LeO (anabranchref19_Wait.f k a0) (anabranchref19_Wait.f (k + 1) a0) := by
  intro a0 k
  have ih0 := anabranchref19_Wait.mono_l k
  unfold anabranchref19_Wait.f
  repeat' first
      | (with_reducible exact ih0 _ _ _)
      | (with_reducible exact LeO.refl _)
      | (with_reducible exact LeO.none _)
      | (with_reducible refine LeO.ite ?_ ?_)
      | (with_reducible refine LeO.bind ?_ (fun _ => ?_))
      | exact ih0 _ _ _
      | exact LeO.none _
      | refine LeO.ite ?_ ?_
      | refine LeO.bind ?_ (fun _ => ?_)
set_option maxHeartbeats 8000000 in
set_option maxRecDepth 100000 in
theorem anabranchref19_Wait.calls (k : Nat) (a0 : Int) (r : Int) (w : World) (h : anabranchref19_Wait.f k a0 = some r) :
    Calls Try.prog 23 #[.int .i64 a0] w fun e w' => e = .returned (.int .i64 r) ∧ Drawn0 w w' := by
  have H : (anabranchref19_Wait.l0 k a0 1 0) = some r := h
  clear h
  have H' := Aside0.mk H
  clear H
  go_enter Try.func23, Try.ntmps23
  go_wp2
  go_loopg [3, 4] k (fun kq v3 v4 w' => ∃ (x3_1 : Int) (x4_1 : Int), v3 = .int .i64 x3_1 ∧ v4 = .int .i64 x4_1 ∧ Aside0 (anabranchref19_Wait.l0 kq a0 x3_1 x4_1 = some r) ∧ Aside0 (kq ≤ k) ∧ Drawn0 w w')
  case atStart => exact ⟨(1), (0), (by first | rfl | (simp; done) | (simp [*]; done)), (by first | rfl | (simp; done) | (simp [*]; done)), H', ⟨Nat.le_refl _⟩, by repeat (first | exact Drawn0.refl _ | apply Drawn0.step)⟩
  case round =>
    clear H'
    obtain ⟨x3_1, x4_1, rfl, rfl, HA, HK1, ⟨m1, rfl⟩⟩ := hrel
    cases gk with
    | zero => exact absurd HA.out (by simp [anabranchref19_Wait.l0])
    | succ k1 =>
      have H := HA.out
      clear HA
      simp only [anabranchref19_Wait.l0] at H
      by_cases c2 : x4_1 < a0
      · rw [if_pos c2] at H
        have c2b0 : decide (x4_1 < a0) = true := decide_eq_true c2
        clear c2
        by_cases c3 : x4_1 < 6
        · rw [if_pos c3] at H
          have c3b0 : decide (x4_1 < 6) = true := decide_eq_true c3
          clear c3
          have H' := Aside0.mk H
          clear H
          go_wp2
          go_roundg k1
          case measure => have := HK1.out; omega
          case rel => exact ⟨(wrap64 (2 * x3_1)), (wrap64 (x4_1 + 1)), (by first | rfl | (simp; done) | (simp [*]; done)), (by first | rfl | (simp; done) | (simp [*]; done)), H', ⟨by have := HK1.out; omega⟩, by repeat (first | exact Drawn0.refl _ | apply Drawn0.step)⟩
        · rw [if_neg c3] at H
          have c3b0 : decide (x4_1 < 6) = false := decide_eq_false c3
          clear c3
          obtain rfl := Option.some.inj H
          go_wp2
          go_ret
          exact ⟨by first | rfl | (simp; done) | (simp [*]; done), by repeat (first | exact Drawn0.refl _ | apply Drawn0.step)⟩
      · rw [if_neg c2] at H
        have c2b0 : decide (x4_1 < a0) = false := decide_eq_false c2
        clear c2
        obtain rfl := Option.some.inj H
        go_wp2
        go_ret
        exact ⟨by first | rfl | (simp; done) | (simp [*]; done), by repeat (first | exact Drawn0.refl _ | apply Drawn0.step)⟩

-- NOT PRINTED: function 7 (anabranchlaw19_PeerTells)

end Go.Proofs.Ytameeejfkgoheaa.P
end
section
/- xorshift32 over Nat: that two words have the same next one only if they are one, and that no word comes back within a thousand steps. -/
namespace Go.Proofs.Ytameeejfkgoheaa.Xs
def W : Nat := 4294967296
def L (n x : Nat) : Nat := x ^^^ (x <<< n % W)
def R (n x : Nat) : Nat := x ^^^ (x >>> n)
/-- the step on words -/
def st (x : Nat) : Nat := L 5 (R 17 (L 13 x))
def nx (x : Nat) : Nat := st (if x = 0 then 1 else x)

theorem shl_xor (a b n : Nat) : (a ^^^ b) <<< n % W = (a <<< n % W) ^^^ (b <<< n % W) := by
  apply Nat.eq_of_testBit_eq
  intro i
  have h : W = 2^32 := by decide
  simp only [h, Nat.testBit_mod_two_pow, Nat.testBit_shiftLeft, Nat.testBit_xor]
  by_cases h1 : i < 32 <;> by_cases h2 : n ≤ i <;> simp [h1, h2]
theorem shr_xor (a b n : Nat) : (a ^^^ b) >>> n = (a >>> n) ^^^ (b >>> n) := by
  apply Nat.eq_of_testBit_eq
  intro i
  simp [Nat.testBit_shiftRight, Nat.testBit_xor]
theorem four (a b c d : Nat) : (a ^^^ b) ^^^ (c ^^^ d) = (a ^^^ c) ^^^ (b ^^^ d) := by
  ac_rfl
theorem L_xor (n a b : Nat) : L n (a ^^^ b) = L n a ^^^ L n b := by
  unfold L; rw [shl_xor, four]
theorem R_xor (n a b : Nat) : R n (a ^^^ b) = R n a ^^^ R n b := by
  unfold R; rw [shr_xor, four]
theorem st_xor (a b : Nat) : st (a ^^^ b) = st a ^^^ st b := by
  unfold st; rw [L_xor, R_xor, L_xor]
theorem W_eq : W = 2^32 := by decide
theorem L_lt {n a : Nat} (h : a < W) : L n a < W := by
  unfold L; rw [W_eq] at h ⊢
  exact Nat.xor_lt_two_pow h (Nat.mod_lt _ (by decide))
theorem R_lt {n a : Nat} (h : a < W) : R n a < W := by
  unfold R; rw [W_eq] at h ⊢
  exact Nat.xor_lt_two_pow h (Nat.lt_of_le_of_lt (Nat.shiftRight_le _ _) h)
theorem st_lt {a : Nat} (h : a < W) : st a < W := L_lt (R_lt (L_lt h))
theorem st_zero : st 0 = 0 := by decide

/-- a matrix's columns at a word -/
def ap : List Nat → Nat → Nat
  | [], _ => 0
  | c :: m, x => (if x % 2 = 1 then c else 0) ^^^ ap m (x / 2)
theorem xor_mod2 (x y : Nat) : (x ^^^ y) % 2 = (x % 2 + y % 2) % 2 := by
  have := Nat.xor_mod_two_pow (a := x) (b := y) (n := 1)
  rw [Nat.pow_one] at this
  rw [this]
  rcases Nat.mod_two_eq_zero_or_one x with h | h <;> rcases Nat.mod_two_eq_zero_or_one y with h' | h' <;> rw [h, h'] <;> rfl
theorem xor_div2 (x y : Nat) : (x ^^^ y) / 2 = (x / 2) ^^^ (y / 2) := by
  have := shr_xor x y 1
  simpa [Nat.shiftRight_eq_div_pow] using this
theorem ap_xor : ∀ (m : List Nat) (x y : Nat), ap m (x ^^^ y) = ap m x ^^^ ap m y
  | [], _, _ => by simp [ap]
  | c :: m, x, y => by
    unfold ap
    rw [xor_div2, ap_xor m, four]
    congr 1
    rw [xor_mod2]
    rcases Nat.mod_two_eq_zero_or_one x with h | h <;> rcases Nat.mod_two_eq_zero_or_one y with h' | h' <;> rw [h, h'] <;> simp
theorem ap_zero : ∀ m : List Nat, ap m 0 = 0
  | [] => rfl
  | c :: m => by unfold ap; rw [Nat.zero_div, ap_zero m]; simp
/-- a linear map at a matrix's value -/
theorem ap_map (f : Nat → Nat) (h0 : f 0 = 0) (hf : ∀ a b, f (a ^^^ b) = f a ^^^ f b) : ∀ (m : List Nat) (x : Nat), ap (m.map f) x = f (ap m x)
  | [], _ => h0.symm
  | c :: m, x => by
    rw [List.map_cons]
    unfold ap
    rw [ap_map f h0 hf m, hf]
    congr 1
    split
    · rfl
    · exact h0.symm
/-- the columns of the identity, from bit k on -/
def ids : Nat → Nat → List Nat
  | 0, _ => []
  | n + 1, k => 2 ^ k :: ids n (k + 1)
theorem ap_ids : ∀ (n k x : Nat), x < 2 ^ n → ap (ids n k) x = x * 2 ^ k
  | 0, k, x, h => by
    have : x = 0 := by omega
    subst this; simp [ids, ap]
  | n + 1, k, x, h => by
    unfold ids ap
    rw [ap_ids n (k + 1) (x / 2) (by omega)]
    have e : x / 2 * 2 ^ (k + 1) = (x / 2) <<< (k + 1) := (Nat.shiftLeft_eq _ _).symm
    have hd : x = 2 * (x / 2) + x % 2 := (Nat.div_add_mod x 2).symm
    rcases Nat.mod_two_eq_zero_or_one x with h' | h'
    · rw [if_neg (by omega), Nat.zero_xor, Nat.pow_succ]
      rw [h'] at hd
      rw [show x / 2 * (2 ^ k * 2) = (2 * (x / 2)) * 2 ^ k by rw [Nat.mul_comm (2 ^ k) 2, ← Nat.mul_assoc, Nat.mul_comm (x / 2) 2]]
      rw [show 2 * (x / 2) = x by omega]
    · rw [if_pos h', e]
      rw [Nat.xor_comm]
      have hlt : (2 : Nat) ^ k < 2 ^ (k + 1) := Nat.pow_lt_pow_right (by decide) (by omega)
      have : (x / 2) <<< (k + 1) ^^^ 2 ^ k = (x / 2) <<< (k + 1) + 2 ^ k := by
        rw [Nat.shiftLeft_add_eq_or_of_lt hlt]
        apply Nat.eq_of_testBit_eq
        intro i
        rw [Nat.testBit_xor, Nat.testBit_or, Nat.testBit_shiftLeft, Nat.testBit_two_pow]
        by_cases hi : i ≥ k + 1
        · have : ¬ k = i := by omega
          simp [hi, this]
        · simp [hi]
      rw [this, Nat.shiftLeft_eq]
      have hx : x = 2 * (x / 2) + 1 := by omega
      conv => rhs; rw [hx]
      rw [Nat.add_mul, Nat.one_mul, Nat.pow_succ]
      congr 1
      rw [Nat.mul_comm (2 ^ k) 2, ← Nat.mul_assoc, Nat.mul_comm (x / 2) 2]
def one32 : List Nat := ids 32 0
theorem ap_one (x : Nat) (h : x < W) : ap one32 x = x := by
  unfold one32
  rw [ap_ids 32 0 x (by rw [W_eq] at h; exact h)]; omega
/-- a linear map is the matrix of its columns -/
theorem lin_ap (f : Nat → Nat) (h0 : f 0 = 0) (hf : ∀ a b, f (a ^^^ b) = f a ^^^ f b) (x : Nat) (h : x < W) : f x = ap (one32.map f) x := by
  rw [ap_map f h0 hf, ap_one x h]

def it (f : Nat → Nat) : Nat → Nat → Nat
  | 0, x => x
  | n + 1, x => it f n (f x)
theorem it_add (f : Nat → Nat) : ∀ (m n x : Nat), it f (m + n) x = it f n (it f m x)
  | 0, n, x => by rw [Nat.zero_add]; rfl
  | m + 1, n, x => by rw [Nat.add_right_comm]; exact it_add f m n (f x)
theorem it_succ (f : Nat → Nat) (n x : Nat) : it f (n + 1) x = f (it f n x) := it_add f n 1 x
theorem it_lt : ∀ (n x : Nat), x < W → it st n x < W
  | 0, _, h => h
  | n + 1, _, h => it_lt n _ (st_lt h)
theorem it_xor : ∀ (n a b : Nat), it st n (a ^^^ b) = it st n a ^^^ it st n b
  | 0, _, _ => rfl
  | n + 1, a, b => by unfold it; rw [st_xor, it_xor n]
theorem it_zero : ∀ n, it st n 0 = 0
  | 0 => rfl
  | n + 1 => by unfold it; rw [st_zero, it_zero n]
def sq (m : List Nat) : List Nat := m.map (ap m)
def sqs : Nat → List Nat → List Nat
  | 0, m => m
  | n + 1, m => sqs n (sq m)
/-- m is the matrix of k steps -/
def Is (m : List Nat) (k : Nat) : Prop := ∀ x, x < W → ap m x = it st k x
theorem Is.sq {m : List Nat} {k : Nat} (h : Is m k) : Is (sq m) (k + k) := by
  intro x hx
  unfold Xs.sq
  rw [ap_map (ap m) (ap_zero m) (ap_xor m), h x hx, h _ (it_lt k x hx), it_add]
theorem Is.sqs : ∀ (n : Nat) {m : List Nat} {k : Nat}, Is m k → Is (sqs n m) (2 ^ n * k)
  | 0, m, k, h => by rw [Nat.pow_zero, Nat.one_mul]; exact h
  | n + 1, m, k, h => by
    have := Is.sqs n h.sq
    rw [show 2 ^ (n + 1) * k = 2 ^ n * (k + k) by rw [Nat.pow_succ, Nat.mul_assoc]; congr 1; omega]
    exact this
def tm : List Nat := one32.map st
theorem tm_is : Is tm 1 := fun x hx => (lin_ap st st_zero st_xor x hx).symm
def tinv : List Nat := [4071982377, 3848997458, 3738612901, 3182258506, 2069549716, 4139099432, 3983231568, 3470144673, 2645322050, 995676804, 1991353608, 3982707216, 3469095969, 2643224642, 991481988, 1982963976, 3965927952, 3435537441, 2576107586, 857247876, 1714495752, 3428991504, 2294547488, 294127680, 588255360, 1176510720, 2353021440, 142607360, 285214720, 570429440, 1140858880, 2281717760]
def cinv : List Nat := [3908455207, 1269210685, 4230444939, 3445514380, 977471560, 478053426, 1403726630, 3920167479, 4259196828, 1141860469, 2042332397, 67291395, 4145823888, 1547246068, 1344483642, 1489834806, 942278809, 464277749, 3144945871, 3697391500, 89564266, 538550978, 2741397392, 2505068165, 1903679604, 3749508893, 3257480797, 1539128405, 3463255237, 2862100123, 216681703, 2931494590]
theorem inv_ok : tm.map (ap tinv) = one32 := by decide +kernel
theorem back (x : Nat) (h : x < W) : ap tinv (st x) = x := by
  rw [lin_ap st st_zero st_xor x h, show one32.map st = tm from rfl, ← ap_map (ap tinv) (ap_zero _) (ap_xor _), inv_ok, ap_one x h]
theorem st_inj {x y : Nat} (hx : x < W) (hy : y < W) (h : st x = st y) : x = y := by
  rw [← back x hx, h, back y hy]
theorem full : sqs 32 tm = tm := by decide +kernel
theorem it_full' (N : Nat) (hN : 2 ^ 32 * 1 = N + 1) (x : Nat) (h : x < W) : it st N x = x := by
  have h1 := Is.sqs 32 tm_is x h
  rw [full, tm_is x h, hN, it_succ st N] at h1
  exact (st_inj h (it_lt N x h) h1).symm
theorem it_full (x : Nat) (h : x < W) : it st 4294967295 x = x := it_full' _ (by decide) x h
def bm : List Nat := List.zipWith (· ^^^ ·) (sqs 16 tm) tm
theorem ap_zip : ∀ (a b : List Nat) (x : Nat), a.length = b.length → ap (List.zipWith (· ^^^ ·) a b) x = ap a x ^^^ ap b x
  | [], [], _, _ => by simp [ap]
  | [], _ :: _, _, h => by simp at h
  | _ :: _, [], _, h => by simp at h
  | c :: a, d :: b, x, h => by
    rw [List.zipWith_cons_cons]
    unfold ap
    rw [ap_zip a b _ (by simpa using h), four]
    congr 1
    split <;> rfl
theorem c_ok : bm.map (ap cinv) = one32 := by decide +kernel
theorem none_65535 (x : Nat) (h : x < W) (he : it st 65535 x = x) : x = 0 := by
  have h1 := Is.sqs 16 tm_is x h
  rw [show 2 ^ 16 * 1 = 65535 + 1 by decide, it_succ, he] at h1
  have h2 : ap bm x = 0 := by
    unfold bm
    rw [ap_zip _ _ _ (by decide +kernel), h1, tm_is x h]
    show st x ^^^ it st 1 x = 0
    show st x ^^^ st x = 0
    exact Nat.xor_self _
  have h3 := ap_map (ap cinv) (ap_zero _) (ap_xor _) bm x
  rw [c_ok, ap_one x h, h2, ap_zero] at h3
  exact h3
theorem it_mul (d : Nat) (x : Nat) (h : it st d x = x) : ∀ k, it st (k * d) x = x
  | 0 => by rw [Nat.zero_mul]; rfl
  | k + 1 => by rw [Nat.add_mul, Nat.one_mul, it_add, it_mul d x h k, h]
theorem it_gcd (x : Nat) : ∀ (m n : Nat), it st m x = x → it st n x = x → it st (Nat.gcd m n) x = x := by
  intro m n
  induction m, n using Nat.gcd.induction with
  | H0 n => intro _ h; rw [Nat.gcd_zero_left]; exact h
  | H1 m n hm ih =>
    intro h1 h2
    rw [Nat.gcd_rec]
    refine ih ?_ h1
    have h3 := it_mul m x h1 (n / m)
    have h4 : n = n / m * m + n % m := by rw [Nat.mul_comm]; exact (Nat.div_add_mod n m).symm
    rw [h4, it_add, h3] at h2
    exact h2
def gcds : Nat → Bool
  | 0 => true
  | n + 1 => (65535 % Nat.gcd (n + 1) 4294967295 == 0) && gcds n
theorem gcds_ok : gcds 1000 = true := by decide +kernel
theorem gcds_at : ∀ (m n : Nat), gcds m = true → 0 < n → n ≤ m → Nat.gcd n 4294967295 ∣ 65535
  | 0, n, _, h1, h2 => by omega
  | m + 1, n, h, h1, h2 => by
    unfold gcds at h
    rw [Bool.and_eq_true] at h
    by_cases e : n = m + 1
    · subst e; exact Nat.dvd_of_mod_eq_zero (by simpa using h.1)
    · exact gcds_at m n h.2 h1 (by omega)
/-- No word but 0 comes back within a thousand steps. -/
theorem long (x n : Nat) (h : x < W) (h0 : x ≠ 0) (h1 : 0 < n) (h2 : n ≤ 1000) : it st n x ≠ x := by
  intro he
  have hg := it_gcd x n 4294967295 he (it_full x h)
  obtain ⟨k, hk⟩ := gcds_at 1000 n gcds_ok h1 h2
  have := it_mul _ x hg k
  rw [Nat.mul_comm, ← hk] at this
  exact h0 (none_65535 x h this)
theorem st_ne_zero (x : Nat) (h : x < W) (h0 : x ≠ 0) : st x ≠ 0 := by
  intro e
  have : st x = st 0 := by rw [e, st_zero]
  exact h0 (st_inj h (by decide) this)
theorem nx_lt (x : Nat) (h : x < W) : nx x < W := by
  unfold nx; split
  · exact st_lt (by decide)
  · exact st_lt h
theorem nx_ne_zero (x : Nat) (h : x < W) : nx x ≠ 0 := by
  unfold nx; split
  · exact st_ne_zero 1 (by decide) (by decide)
  · exact st_ne_zero x h (by assumption)
theorem nx_inj (x y : Nat) (hx : x < W) (hy : y < W) : nx x = nx y ↔ (x = y ∨ x ≤ 1 ∧ y ≤ 1) := by
  unfold nx
  constructor
  · intro h
    have := st_inj (x := if x = 0 then 1 else x) (y := if y = 0 then 1 else y) (by split <;> first | decide | assumption) (by split <;> first | decide | assumption) h
    split at this <;> split at this <;> omega
  · intro h
    congr 1
    split <;> split <;> omega
end Go.Proofs.Ytameeejfkgoheaa.Xs
end
section
/- The next number, how long is waited, whom a number picks: plain. -/
namespace Go.Proofs.Ytameeejfkgoheaa.P
open Go.RowKit Go.Proofs.Ytameeejfkgoheaa Go.Proofs.YtameeejfkgoheaaW.PrintWords Go.Proofs.YtameeejfkgoheaaW.PrintLast
set_option linter.unusedVariables false
theorem xor32 (a b : Nat) (ha : a < 4294967296) (hb : b < 4294967296) : Go.bits .xor .u32 (a : Int) (b : Int) = ((a ^^^ b : Nat) : Int) := u32_xor_nat a b ha hb
theorem L_cast (n m y : Nat) (hm : m = 2 ^ n) (h : y < 4294967296) : Go.bits .xor .u32 (y : Int) (((y : Int) * (m : Int)) % 4294967296) = ((Xs.L n y : Nat) : Int) := by
  have e : ((y : Int) * (m : Int)) % 4294967296 = ((y * m % 4294967296 : Nat) : Int) := by
    rw [Int.natCast_emod, Int.natCast_mul]; rfl
  rw [e, xor32 _ _ h (Nat.mod_lt _ (by decide))]
  unfold Xs.L Xs.W
  rw [Nat.shiftLeft_eq, hm]
theorem R_cast (n m y : Nat) (hm : m = 2 ^ n) (h : y < 4294967296) : Go.bits .xor .u32 (y : Int) ((y : Int) / (m : Int)) = ((Xs.R n y : Nat) : Int) := by
  have e : (y : Int) / (m : Int) = ((y / m : Nat) : Int) := by rw [Int.natCast_ediv]
  rw [e, xor32 _ _ h (Nat.lt_of_le_of_lt (Nat.div_le_self _ _) h)]
  unfold Xs.R
  rw [Nat.shiftRight_eq_div_pow, hm]
theorem next_nat (x : Nat) (h : x < 4294967296) : peer_Next.f (x : Int) = some ((Xs.nx x : Nat) : Int) := by
  unfold peer_Next.f
  by_cases h0 : x = 0
  · subst h0
    rw [if_pos (show ((0 : Nat) : Int) = 0 from rfl)]
    have : Xs.nx 0 = 270369 := by decide +kernel
    rw [this]
    decide +kernel
  · rw [if_neg (by omega)]
    have e1 : Go.bits .xor .u32 (x : Int) (((x : Int) * 8192) % 4294967296) = ((Xs.L 13 x : Nat) : Int) := L_cast 13 8192 x (by decide) h
    have l1 : Xs.L 13 x < 4294967296 := Xs.L_lt h
    have e2 : Go.bits .xor .u32 ((Xs.L 13 x : Nat) : Int) (((Xs.L 13 x : Nat) : Int) / 131072) = ((Xs.R 17 (Xs.L 13 x) : Nat) : Int) := R_cast 17 131072 (Xs.L 13 x) (by decide) l1
    have l2 : Xs.R 17 (Xs.L 13 x) < 4294967296 := Xs.R_lt l1
    have e3 : Go.bits .xor .u32 ((Xs.R 17 (Xs.L 13 x) : Nat) : Int) ((((Xs.R 17 (Xs.L 13 x) : Nat) : Int) * 32) % 4294967296) = ((Xs.L 5 (Xs.R 17 (Xs.L 13 x)) : Nat) : Int) := L_cast 5 32 (Xs.R 17 (Xs.L 13 x)) (by decide) l2
    rw [e1, e2, e3]
    unfold Xs.nx Xs.st
    rw [if_neg h0]
theorem u32_nat {a : Int} (h : (Lit.int .u32 a).wf = true) : ∃ x : Nat, x < 4294967296 ∧ a = (x : Int) := by
  simp only [Lit.wf, Bool.and_eq_true, decide_eq_true_eq] at h
  have h1 : (0 : Int) ≤ a := by simpa [IntKind.min, IntKind.signed] using h.1
  have h2 : a ≤ 4294967295 := by simpa [IntKind.max, IntKind.signed, IntKind.bits] using h.2
  exact ⟨a.toNat, by omega, by omega⟩
theorem i64_range {a : Int} (h : (Lit.int .i64 a).wf = true) : -9223372036854775808 ≤ a ∧ a ≤ 9223372036854775807 := by
  simp only [Lit.wf, Bool.and_eq_true, decide_eq_true_eq] at h
  exact ⟨by have := h.1; simpa [IntKind.min, IntKind.signed, IntKind.bits] using this, by have := h.2; simpa [IntKind.max, IntKind.signed, IntKind.bits] using this⟩
end Go.Proofs.Ytameeejfkgoheaa.P
end
section
/- What is picked, is next, is waited: by the program and by ref19. Plain. -/
namespace Go.Proofs.Ytameeejfkgoheaa.P
open Go.RowKit Go.Proofs.YtameeejfkgoheaaW.PrintWords Go.Proofs.YtameeejfkgoheaaW.PrintLast Go.Proofs.YtameeejfkgoheaaW
set_option linter.unusedVariables false
theorem drawn_below {w w1 : World} (h : Drawn0 w w1) : Below w.heap.size w w1 := by
  obtain ⟨m, rfl⟩ := h.out
  exact pw_below_drewN (Below.refl _ _) m
theorem refNext_nat (x : Nat) (h : x < 4294967296) : anabranchref19_Next.f (x : Int) = some ((Xs.nx x : Nat) : Int) := by
  unfold anabranchref19_Next.f
  by_cases h0 : x = 0
  · subst h0
    rw [if_pos (show ((0 : Nat) : Int) = 0 from rfl)]
    have : Xs.nx 0 = 270369 := by decide +kernel
    rw [this]
    decide +kernel
  · rw [if_neg (by omega)]
    have e1 : Go.bits .xor .u32 (x : Int) ((8192 * (x : Int)) % 4294967296) = ((Xs.L 13 x : Nat) : Int) := by rw [Int.mul_comm]; exact L_cast 13 8192 x (by decide) h
    have l1 : Xs.L 13 x < 4294967296 := Xs.L_lt h
    have e2 : Go.bits .xor .u32 ((Xs.L 13 x : Nat) : Int) (Int.tdiv ((Xs.L 13 x : Nat) : Int) 131072 % 4294967296) = ((Xs.R 17 (Xs.L 13 x) : Nat) : Int) := by
      rw [show Int.tdiv ((Xs.L 13 x : Nat) : Int) 131072 % 4294967296 = ((Xs.L 13 x : Nat) : Int) / 131072 by rw [Int.tdiv_eq_ediv_of_nonneg (by omega)]; omega]
      exact R_cast 17 131072 (Xs.L 13 x) (by decide) l1
    have l2 : Xs.R 17 (Xs.L 13 x) < 4294967296 := Xs.R_lt l1
    have e3 : Go.bits .xor .u32 ((Xs.R 17 (Xs.L 13 x) : Nat) : Int) ((32 * ((Xs.R 17 (Xs.L 13 x) : Nat) : Int)) % 4294967296) = ((Xs.L 5 (Xs.R 17 (Xs.L 13 x)) : Nat) : Int) := by rw [Int.mul_comm]; exact L_cast 5 32 (Xs.R 17 (Xs.L 13 x)) (by decide) l2
    rw [e1, e2, e3]
    unfold Xs.nx Xs.st
    rw [if_neg h0]
theorem next_both (x : Int) (h0 : 0 ≤ x) (h1 : x < 4294967296) : ∃ r, peer_Next.f x = some r ∧ anabranchref19_Next.f x = some r := by
  obtain ⟨m, rfl⟩ : ∃ m : Nat, x = (m : Int) := ⟨x.toNat, by omega⟩
  exact ⟨_, next_nat m (by omega), refNext_nat m (by omega)⟩
theorem u64_small (a : Int) (h0 : 0 ≤ a) (h1 : a < 4294967296) : IntKind.u64.wrap a = a := by
  simp [IntKind.wrap, IntKind.signed, IntKind.bits]
  omega
theorem pick_both (l : List Int) (x : Int) (hl : l.length ≤ 20) (h0 : 0 ≤ x) (h1 : x < 4294967296) : ∃ a b, peer_Pick.f l x = some (a, b) ∧ anabranchref19_Pick.f l x = some (a, b) := by
  unfold peer_Pick.f anabranchref19_Pick.f
  by_cases hz : (l.length : Int) = 0
  · rw [if_pos hz, if_pos hz]; exact ⟨0, false, rfl, rfl⟩
  · rw [if_neg hz, if_neg hz, u64_small _ (by omega) (by omega), u64_small _ h0 h1, show (l.length : Int) % 4294967296 = (l.length : Int) by omega]
    have e1 : Int.tmod x (l.length : Int) = x % (l.length : Int) := Int.tmod_eq_emod_of_nonneg h0
    have e2 : 0 ≤ x % (l.length : Int) := Int.emod_nonneg _ hz
    have e3 : x % (l.length : Int) < (l.length : Int) := Int.emod_lt_of_pos _ (by omega)
    have e4 : wrap64 (x % (l.length : Int)) = x % (l.length : Int) := by unfold wrap64; omega
    rw [if_neg hz, e1, e4, if_pos e2, if_pos e3]
    exact ⟨_, _, rfl, rfl⟩
theorem wait_both (a : Int) : ∃ r, peer_Wait.f a = some r ∧ anabranchref19_Wait.f 9 a = some r := by
  rcases Int.lt_or_le a 1 with h | h
  · refine ⟨1, ?_, ?_⟩
    · unfold peer_Wait.f
      have : mn (mx a 0) 6 = 0 := by unfold mn mx; repeat' split <;> omega
      rw [this]; decide +kernel
    · unfold anabranchref19_Wait.f anabranchref19_Wait.l0
      rw [if_neg (by omega)]
  · rcases Int.lt_or_le a 6 with h6 | h6
    · have : a = 1 ∨ a = 2 ∨ a = 3 ∨ a = 4 ∨ a = 5 := by omega
      rcases this with rfl | rfl | rfl | rfl | rfl
      · exact ⟨2, by decide +kernel, by decide +kernel⟩
      · exact ⟨4, by decide +kernel, by decide +kernel⟩
      · exact ⟨8, by decide +kernel, by decide +kernel⟩
      · exact ⟨16, by decide +kernel, by decide +kernel⟩
      · exact ⟨32, by decide +kernel, by decide +kernel⟩
    · refine ⟨64, ?_, ?_⟩
      · unfold peer_Wait.f
        have : mn (mx a 0) 6 = 6 := by unfold mn mx; repeat' split <;> omega
        rw [this]; decide +kernel
      · unfold anabranchref19_Wait.f
        have st : ∀ (k : Nat) (x i : Int), i < 6 → anabranchref19_Wait.l0 (k + 1) a x i = anabranchref19_Wait.l0 k a (wrap64 (2 * x)) (wrap64 (i + 1)) := by
          intro k x i hi
          rw [anabranchref19_Wait.l0, if_pos (by omega), if_pos hi]
        rw [st 8 1 0 (by decide), st 7 _ _ (by decide +kernel), st 6 _ _ (by decide +kernel), st 5 _ _ (by decide +kernel), st 4 _ _ (by decide +kernel), st 3 _ _ (by decide +kernel), show wrap64 (wrap64 (wrap64 (wrap64 (wrap64 (wrap64 (0 + 1) + 1) + 1) + 1) + 1) + 1) = 6 by decide +kernel, show wrap64 (2 * wrap64 (2 * wrap64 (2 * wrap64 (2 * wrap64 (2 * wrap64 (2 * 1)))))) = 64 by decide +kernel, anabranchref19_Wait.l0]
        by_cases h7 : 6 < a
        · rw [if_pos h7, if_neg (by decide)]
        · rw [if_neg h7]
end Go.Proofs.Ytameeejfkgoheaa.P
end
