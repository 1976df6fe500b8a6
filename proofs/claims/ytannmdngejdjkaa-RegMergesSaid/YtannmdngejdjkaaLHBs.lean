/- slices.BinarySearchFunc over registers that rise, and reg.regs.find. By hand. -/
import Derived.Test.YtannmdngejdjkaaLx0
import Derived.Test.YtannmdngejdjkaaLx6
import Derived.Lib.SliceRun
namespace Go.Proofs.Ytannmdngejdjkaa.L
open Go.RowKit Go.Proofs.YtannmdngejdjkaaW.PrintWords Go.Proofs.YtannmdngejdjkaaW.PrintLast Go.Proofs.YtannmdngejdjkaaW.PrintMore Go.Proofs.YtannmdngejdjkaaW
set_option linter.unusedVariables false
set_option linter.unusedSimpArgs false

/-- what cmp.Compare says of two texts -/
def cmpS (a b : ByteArray) : Int := if Op.bytesLess a.toList b.toList then -1 else if Op.bytesLess b.toList a.toList then 1 else 0
theorem cmpS_f (a b : ByteArray) : cmp_Compare_string.f a b = some (cmpS a b) := by
  simp only [cmp_Compare_string.f, cmp_isNaN_string.f, Option.bind_some, bne_self_eq_false, Bool.false_eq_true, if_false, cmpS]
  split
  · rfl
  · split <;> rfl
/-- registers rise by their keys -/
def RegUp (l : List S26) : Prop := ∀ a b, a < b → b < l.length → Op.bytesLess (rd_T26 l a).f0.toList (rd_T26 l b).f0.toList = true
/-- where a key stands, or would -/
def regPos (key : ByteArray) : List S26 → Nat
  | [] => 0
  | x :: l => if Op.bytesLess x.f0.toList key.toList then regPos key l + 1 else 0
theorem regPos_le (key : ByteArray) : ∀ l, regPos key l ≤ l.length
  | [] => Nat.le_refl _
  | x :: l => by unfold regPos; have := regPos_le key l; split <;> simp; exact this
theorem rd_cons_succ (x : S26) (l : List S26) (k : Nat) : rd_T26 (x :: l) ((k + 1 : Nat) : Int) = rd_T26 l (k : Int) := by
  unfold rd_T26
  rw [Int.toNat_natCast, Int.toNat_natCast]
  rfl
theorem rd_cons_zero (x : S26) (l : List S26) : rd_T26 (x :: l) ((0 : Nat) : Int) = x := rfl
theorem regPos_of (key : ByteArray) : ∀ (l : List S26) (n : Nat), n ≤ l.length → (∀ k, k < n → Op.bytesLess (rd_T26 l (k : Nat)).f0.toList key.toList = true) → (n < l.length → Op.bytesLess (rd_T26 l (n : Nat)).f0.toList key.toList = false) → regPos key l = n
  | [], n, h, _, _ => by simp at h; subst h; rfl
  | x :: l, 0, _, _, h => by
    have := h (by simp)
    rw [rd_cons_zero] at this
    simp [regPos, this]
  | x :: l, n + 1, hn, h1, h2 => by
    have h0 := h1 0 (by omega)
    rw [rd_cons_zero] at h0
    simp only [regPos, h0, if_true]
    rw [regPos_of key l n (by simpa using hn) (fun k hk => by have := h1 (k + 1) (by omega); rwa [rd_cons_succ] at this) (fun h => by have := h2 (by simpa using h); rwa [rd_cons_succ] at this)]

theorem reg_cmp (x : S26) (key : ByteArray) (w : World) :
    Calls Try.prog 103 #[.agg #[.string x.f0, .string x.f1, .int .i64 x.f2, .int .i64 x.f3.f0, .int .i64 x.f3.f1], .string key] w fun e w' => e = .returned (.int .i64 (cmpS x.f0 key)) ∧ Below w.heap.size w w' := by
  have HB := Aside0.mk (below_alloc (Below.refl w.heap.size w) (.cells #[.string x.f0, .string x.f1, .int .i64 x.f2, .int .i64 x.f3.f0, .int .i64 x.f3.f1] 26))
  have HC := fun W => cmp_Compare_string.calls x.f0 key (cmpS x.f0 key) W (cmpS_f _ _)
  generalize cmpS x.f0 key = r at HC
  go_enter Try.func103, Try.ntmps103
  go_wp2_with (go_at_call 68; refine (HC _).mono ?_; rintro e w' ⟨rfl, ⟨m, rfl⟩⟩)
  go_ret
  exact ⟨rfl, pw_below_drewN HB.out m⟩

def regIs (key : ByteArray) (l : List S26) : Bool := decide (regPos key l < l.length) && decide (cmpS (rd_T26 l (regPos key l : Nat)).f0 key = 0)
theorem cmpS_neg {a b : ByteArray} : cmpS a b < 0 ↔ Op.bytesLess a.toList b.toList = true := by
  unfold cmpS; split
  · simp [*]
  · split <;> simp [*]
set_option maxHeartbeats 4000000 in
set_option maxRecDepth 100000 in
theorem reg_bs (key : ByteArray) (A0 : Option Addr) (c0 : Nat) (l0 : List S26) (w : World) (hr0 : Kd.C k26 w A0 l0.length l0) (hup : RegUp l0) (hlim : l0.length < 4611686018427387904) :
    Calls Try.prog 102 #[.slice A0 l0.length c0, .string key, .func (.func 103) #[] #[]] w fun e w' => e = .returned (.tuple #[.int .i64 (regPos key l0), .bool (regIs key l0)]) ∧ Below w.heap.size w w' := by
  have HR := Aside0.mk hr0
  have HU := Aside0.mk hup
  clear hr0 hup
  have HC := Aside0.mk (fun (W : World) (i : Nat) => reg_cmp (rd_T26 l0 i) key W)
  generalize hcnt : regPos key l0 = cnt
  have CN := Aside0.mk hcnt
  have FIN := Aside0.mk (show regIs key l0 = (decide (cnt < l0.length) && decide (cmpS (rd_T26 l0 (cnt : Nat)).f0 key = 0)) by unfold regIs; rw [hcnt])
  clear hcnt
  generalize regIs key l0 = fin at FIN
  go_enter Try.func102, Try.ntmps102
  go_wp2
  go_loopg [9, 10] l0.length (fun kx s9 s10 wr => ∃ lo hi : Nat, s9 = .int .i64 lo ∧ s10 = .int .i64 hi ∧ lo ≤ hi ∧ hi ≤ l0.length ∧ hi - lo ≤ kx ∧ Aside0 (Below w.heap.size w wr) ∧
    Aside0 ((∀ t, t < lo → Op.bytesLess (rd_T26 l0 (t : Nat)).f0.toList key.toList = true) ∧ (∀ t, hi ≤ t → t < l0.length → Op.bytesLess (rd_T26 l0 (t : Nat)).f0.toList key.toList = false)))
  case atStart => exact ⟨0, l0.length, rfl, rfl, Nat.zero_le _, Nat.le_refl _, by omega, ⟨Below.refl _ _⟩, ⟨⟨fun t ht => absurd ht (Nat.not_lt_zero _), fun t h1 h2 => by omega⟩⟩⟩
  case round =>
    obtain ⟨lo, hi, rfl, rfl, hlh, hin, hgx, HB, I⟩ := hrel
    by_cases hlt : lo < hi
    · obtain ⟨ad, e, hx0, hx1, hx2, hx3, hx4⟩ := at_T26 HR.out (((lo + hi) / 2 : Nat) : Int) (by omega) (by omega)
      cases e
      replace hx0 := (HB.out.cell (World.block_lt_of_cell? w _ hx0)).trans hx0
      replace hx1 := (HB.out.cell (World.block_lt_of_cell? w _ hx1)).trans hx1
      replace hx2 := (HB.out.cell (World.block_lt_of_cell? w _ hx2)).trans hx2
      replace hx3 := (HB.out.cell (World.block_lt_of_cell? w _ hx3)).trans hx3
      replace hx4 := (HB.out.cell (World.block_lt_of_cell? w _ hx4)).trans hx4
      rw [Int.toNat_natCast] at hx0 hx1 hx2 hx3 hx4
      have hc := HC.out wr ((lo + hi) / 2)
      have HY := Aside0.mk (show rd_T26 l0 (((lo + hi) / 2 : Nat) : Int) = rd_T26 l0 (((lo + hi) / 2 : Nat) : Int) from rfl)
      generalize hy : rd_T26 l0 (((lo + hi) / 2 : Nat) : Int) = y at hx0 hx1 hx2 hx3 hx4 hc HY
      have Y := Aside0.mk hy
      clear hy HY
      have HCC := Aside0.mk hc
      clear hc
      by_cases hyx : cmpS y.f0 key < 0
      · have HP := Aside0.mk (cmpS_neg.1 hyx)
        go_wp2_with (go_at_call 103; refine HCC.out.mono ?_; rintro e w' ⟨rfl, hb⟩)
        go_roundg (hi - ((lo + hi) / 2 + 1))
        case measure => omega
        case rel =>
          refine ⟨(lo + hi) / 2 + 1, hi, by rw [show ((lo : Int) + (hi : Int)) / 2 + 1 = (((lo + hi) / 2 + 1 : Nat) : Int) by omega], rfl, by omega, hin, Nat.le_refl _, ⟨below_step HB.out hb⟩, ⟨⟨fun t ht => ?_, I.out.2⟩⟩⟩
          have hp := HP.out
          rw [← Y.out] at hp
          rcases Nat.lt_or_ge t ((lo + hi) / 2) with q | q
          · exact less_trans (HU.out t ((lo + hi) / 2) q (by omega)) hp
          · obtain rfl : t = (lo + hi) / 2 := by omega
            exact hp
      · have HP := Aside0.mk (show Op.bytesLess y.f0.toList key.toList = false by
          cases q : Op.bytesLess y.f0.toList key.toList with
          | false => rfl
          | true => exact absurd (cmpS_neg.2 q) hyx)
        go_wp2_with (go_at_call 103; refine HCC.out.mono ?_; rintro e w' ⟨rfl, hb⟩)
        go_roundg ((lo + hi) / 2 - lo)
        case measure => omega
        case rel =>
          refine ⟨lo, (lo + hi) / 2, rfl, by rw [show ((lo : Int) + (hi : Int)) / 2 = (((lo + hi) / 2 : Nat) : Int) by omega], by omega, by omega, Nat.le_refl _, ⟨below_step HB.out hb⟩, ⟨⟨I.out.1, fun t ht htn => ?_⟩⟩⟩
          have hp := HP.out
          rw [← Y.out] at hp
          rcases Nat.lt_or_ge ((lo + hi) / 2) t with q | q
          · cases q2 : Op.bytesLess (rd_T26 l0 (t : Nat)).f0.toList key.toList with
            | false => rfl
            | true => have := less_trans (HU.out ((lo + hi) / 2) t q htn) q2; rw [hp] at this; cases this
          · obtain rfl : t = (lo + hi) / 2 := by omega
            exact hp
    · obtain rfl : hi = lo := by omega
      have ecnt : hi = cnt := by
        rw [← CN.out]
        exact (regPos_of key l0 hi hin I.out.1 (fun h => I.out.2 hi (Nat.le_refl _) h)).symm
      subst ecnt
      by_cases hn : hi < l0.length
      · obtain ⟨ad, e, hx0, hx1, hx2, hx3, hx4⟩ := at_T26 HR.out (hi : Int) (by omega) (by omega)
        cases e
        replace hx0 := (HB.out.cell (World.block_lt_of_cell? w _ hx0)).trans hx0
        replace hx1 := (HB.out.cell (World.block_lt_of_cell? w _ hx1)).trans hx1
        replace hx2 := (HB.out.cell (World.block_lt_of_cell? w _ hx2)).trans hx2
        replace hx3 := (HB.out.cell (World.block_lt_of_cell? w _ hx3)).trans hx3
        replace hx4 := (HB.out.cell (World.block_lt_of_cell? w _ hx4)).trans hx4
        rw [Int.toNat_natCast] at hx0 hx1 hx2 hx3 hx4
        have hc := HC.out wr hi
        have FIN2 := Aside0.mk FIN.out
        generalize hy : rd_T26 l0 (hi : Int) = y at hx0 hx1 hx2 hx3 hx4 hc
        have Y := Aside0.mk hy
        clear hy
        have HCC := Aside0.mk hc
        clear hc
        by_cases hyx : cmpS y.f0 key = 0
        · go_wp2_with (go_at_call 103; refine HCC.out.mono ?_; rintro e w' ⟨rfl, hb⟩)
          go_ret2
          exact ⟨by rw [FIN2.out, Y.out]; simp [hn, hyx], below_step HB.out hb⟩
        · go_wp2_with (go_at_call 103; refine HCC.out.mono ?_; rintro e w' ⟨rfl, hb⟩)
          go_ret2
          exact ⟨by rw [FIN2.out, Y.out]; simp [hn, hyx], below_step HB.out hb⟩
      · go_wp2
        go_ret2
        exact ⟨by rw [FIN.out]; simp [hn], HB.out⟩
theorem reg_find (key : ByteArray) (A0 : Option Addr) (c0 : Nat) (l0 : List S26) (w : World) (hr0 : Kd.C k26 w A0 l0.length l0) (hup : RegUp l0) (hlim : l0.length < 4611686018427387904) :
    Calls Try.prog 96 #[.slice A0 l0.length c0, .string key] w fun e w' => e = .returned (.tuple #[.int .i64 (regPos key l0), .bool (regIs key l0)]) ∧ Below w.heap.size w w' := by
  have HC := reg_bs key A0 c0 l0 w hr0 hup hlim
  have H := Aside0.mk HC
  clear HC hr0 hup
  generalize regIs key l0 = fin at H
  generalize regPos key l0 = cnt at H
  go_enter Try.func96, Try.ntmps96
  go_wp2_with (go_at_call 102; refine H.out.mono ?_; rintro e w' ⟨rfl, hb⟩)
  go_ret2
  exact ⟨rfl, hb⟩
end Go.Proofs.Ytannmdngejdjkaa.L
