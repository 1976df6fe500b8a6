/- Several of the walk's texts in one: SHCtrGet, Sx15, SPC, Sx11, Sx16. -/
import Derived.Test.YtmcddoolniaehaaGreatMD04
import Derived.Test.YtmcddoolniaehaaGreatMD11
import Derived.Test.YtmcddoolniaehaaGreatMD12
import Derived.Test.YtmcddoolniaehaaGreatMD15
section
namespace Go.Proofs.YtmcddoolniaehaaGreat.S
open Go.RowKit Go.Proofs.YtmcddoolniaehaaGreatW.PrintWords Go.Proofs.YtmcddoolniaehaaGreatW.PrintLast Go.Proofs.YtmcddoolniaehaaGreatW.PrintMore
set_option linter.unusedVariables false
set_option linter.unusedSimpArgs false
def ctrKey (key : ByteArray) (x : S73) : Bool := x.f0.toList == key.toList

theorem ctr_clo (key : ByteArray) (B : Nat) (w : World) (hB : B < w.heap.size) (hcell : w.cell? ⟨B, 0, none⟩ = some (.string key)) (x : S73) :
    Calls Tryz.prog 74 #[.agg #[.string x.f0, .int .i64 x.f1], .pointer (some ⟨B, 0, none⟩)] w fun e w' => e = .returned (.bool (ctrKey key x)) ∧ Below w.heap.size w w' := by
  have hne : B ≠ w.heap.size := by omega
  have H := Aside0.mk (show ctrKey key x = (x.f0.toList == key.toList) from rfl)
  go_enter Tryz.func74, Tryz.ntmps74
  go_wp2
  go_ret
  exact ⟨rfl, below_alloc (Below.refl _ _) _⟩

theorem ctr_idx (key : ByteArray) (B : Nat) (w : World) (hB : B < w.heap.size) (hcell : w.cell? ⟨B, 0, none⟩ = some (.string key)) (A0 : Option Addr) (c0 : Nat) (l0 : List S73) (hr0 : Kd.C k73 w A0 l0.length l0) :
    Calls Tryz.prog 73 #[.slice A0 l0.length c0, .func (.func 74) #[] #[.pointer (some ⟨B, 0, none⟩)]] w fun e w' => e = .returned (.int .i64 (firstAt (ctrKey key) 0 l0)) ∧ Below w.heap.size w w' := by
  have HR := Aside0.mk hr0
  have HC := Aside0.mk hcell
  have HL := Aside0.mk hr0.2.1
  clear hr0 hcell
  go_enter Tryz.func73, Tryz.ntmps73
  go_wp2
  go_loopw [8] (fun i wr => ∃ k : Nat, k ≤ l0.length ∧ i = .int .i64 k ∧ Aside0 (∀ j, j < k → ∀ h : j < l0.length, ctrKey key l0[j] = false) ∧ Aside0 (Below w.heap.size w wr)) (fun i _ => l0.length - (intOf i).toNat)
  case atStart => exact ⟨0, Nat.zero_le _, rfl, ⟨fun j hj => by omega⟩, ⟨Below.refl _ _⟩⟩
  case round =>
    obtain ⟨k, hk, rfl, ha, HB⟩ := hrel
    by_cases hlt : k < l0.length
    · obtain ⟨ad, e, hx0, hx1⟩ := at_T73 HR.out k (by omega) (by omega)
      cases e
      replace hx0 := (HB.out.cell (World.block_lt_of_cell? w _ hx0)).trans hx0
      replace hx1 := (HB.out.cell (World.block_lt_of_cell? w _ hx1)).trans hx1
      simp only [Int.toNat_natCast] at hx0 hx1
      have HX := Aside0.mk (show rd_T73 l0 k = l0[k] by simp [rd_T73, List.getD_eq_getElem?_getD, List.getElem?_eq_getElem hlt])
      have h63 := HL.out
      have hBr : B < wr.heap.size := Nat.lt_of_lt_of_le hB HB.out.size
      have hcl := ctr_clo key B wr hBr ((HB.out.cell (p := ⟨B, 0, none⟩) hB).trans HC.out) (rd_T73 l0 k)
      have HCL := Aside0.mk hcl
      clear hcl
      cases hq : ctrKey key (rd_T73 l0 k) with
      | true =>
        have HF := Aside0.mk (show firstAt (ctrKey key) 0 l0 = (k : Int) by
          rw [← firstAt_drop (ctrKey key) l0 k hk ha.out, List.drop_eq_getElem_cons hlt]
          rw [HX.out] at hq
          simp [firstAt, hq])
        go_wp2_with fail
        refine HCL.out.mono ?_
        rintro e w' ⟨rfl, hb⟩
        have HB' := Aside0.mk (below_step HB.out hb)
        clear hx0 hx1 HB hb HCL hBr
        go_wp2
        go_ret
        exact ⟨by rw [HF.out]; rfl, HB'.out⟩
      | false =>
        have HF := Aside0.mk (show ∀ j, j < k + 1 → ∀ h : j < l0.length, ctrKey key l0[j] = false by
          intro j hj h
          rcases Nat.lt_or_ge j k with q | q
          · exact ha.out j q h
          · obtain rfl : j = k := by omega
            rw [← HX.out]; exact hq)
        go_wp2_with fail
        refine HCL.out.mono ?_
        rintro e w' ⟨rfl, hb⟩
        have HB' := Aside0.mk (below_step HB.out hb)
        clear hx0 hx1 HB hb HCL hBr ha
        go_wp2
        go_roundw
        case rel => exact ⟨k + 1, by omega, by go_num, HF, HB'⟩
        case measure => simp [intOf]; omega
    · have HF := Aside0.mk (show firstAt (ctrKey key) 0 l0 = -1 by
        obtain rfl : k = l0.length := by omega
        rw [← firstAt_drop (ctrKey key) l0 _ (Nat.le_refl _) ha.out, List.drop_length]; rfl)
      go_wp2
      go_ret
      exact ⟨by rw [HF.out]; rfl, HB.out⟩

def ctr_Get.f (l0 : List (S73)) (a1 : ByteArray) : Option (Int) :=
  match l0.find? (ctrKey a1) with
  | some x => some x.f1
  | none => some 0
set_option maxRecDepth 100000 in
theorem ctr_Get.calls (A0 : Option Addr) (c0 : Nat) (l0 : List (S73)) (a1 : ByteArray) (r : Int) (w : World) (hr0 : Kd.C k73 w A0 l0.length l0) (hc0 : l0.length ≤ c0) (h : ctr_Get.f l0 a1 = some r) :
    Calls Tryz.prog 23 #[.slice A0 l0.length c0, .string a1] w fun e w' => e = .returned (.int .i64 r) ∧ Below w.heap.size w w' := by
  have hu := Tryz.underlying73
  have HW := Aside0.mk (Below.refl w.heap.size w)
  have HR := Aside0.mk hr0
  have HL := Aside0.mk hr0.2.1
  have HI := fun W => ctr_idx a1 w.heap.size W
  rcases firstAt_find (ctrKey a1) l0 0 with ⟨h1, h2⟩ | ⟨j, hj, h1, h2⟩
  · obtain rfl : 0 = r := by simpa [ctr_Get.f, h2] using h
    have H1 := Aside0.mk h1
    clear h h1 h2 hr0 hc0
    go_enter Tryz.func23, Tryz.ntmps23
    go_wp2_with fail
    refine (HI _ ?h1 ?h2 A0 c0 l0 (Kd.C_below HR.out (below_alloc HW.out _))).mono ?_
    case h1 => simp
    case h2 => simp
    rintro e w' ⟨rfl, hb⟩
    have HB := Aside0.mk (below_step (below_alloc HW.out _) hb)
    clear hb HI HW
    rw [H1.out]
    go_wp2
    go_ret
    exact ⟨rfl, HB.out⟩
  · have HX := Aside0.mk (show rd_T73 l0 j = l0[j] by simp [rd_T73, List.getD_eq_getElem?_getD, List.getElem?_eq_getElem hj])
    obtain rfl : l0[j].f1 = r := by simpa [ctr_Get.f, h2] using h
    rw [← HX.out]
    have H1 := Aside0.mk (show firstAt (ctrKey a1) 0 l0 = (j : Int) by rw [h1]; simp)
    clear h h1 h2 hr0 hc0 HX
    obtain ⟨ad, e, hx0, hx1⟩ := at_T73 HR.out j (by omega) (by omega)
    cases e
    simp only [Int.toNat_natCast, add_plain] at hx0 hx1
    have HX1 := Aside0.mk hx1
    clear hx0 hx1
    go_enter Tryz.func23, Tryz.ntmps23
    go_wp2_with fail
    refine (HI _ ?h1 ?h2 (some ad) c0 l0 (Kd.C_below HR.out (below_alloc HW.out _))).mono ?_
    case h1 => simp
    case h2 => simp
    rintro e w' ⟨rfl, hb⟩
    have HB := Aside0.mk (below_step (below_alloc HW.out _) hb)
    clear hb HI HW
    rw [H1.out]
    have hx1 := (HB.out.cell (World.block_lt_of_cell? w _ HX1.out)).trans HX1.out
    have hl := HL.out
    clear HX1
    go_wp2
    go_ret
    exact ⟨rfl, HB.out⟩
end Go.Proofs.YtmcddoolniaehaaGreat.S
end
section
namespace Go.Proofs.YtmcddoolniaehaaGreat.S
open Go.RowKit Go.Proofs.YtmcddoolniaehaaGreatW.PrintWords Go.Proofs.YtmcddoolniaehaaGreatW.PrintLast Go.Proofs.YtmcddoolniaehaaGreatW.PrintMore
attribute [local go_sem] max2_int min2_int max_two min_two max_three min_three max_four min_four   -- for this text's walks alone
set_option linter.unusedVariables false
set_option linter.unusedSimpArgs false

def law06_Few.l0 : Nat → List (S73) → Int → Option (Bool)
 | 0, _, _ => none
 | k + 1, x0, x3 => if x3 < (x0.length : Int) then (if 0 ≤ x3 then (if (((rd_T73 x0 x3).f0).size : Int) > 100 then (some false) else (law06_Few.l0 k x0 (wrap64 (x3 + 1)))) else (none)) else (some true)
def law06_Few.f (k : Nat) (l0 : List (S73)) : Option (Bool) := if (l0.length : Int) > 30 then (some false) else (law06_Few.l0 k l0 0)
theorem law06_Few.mono_l : ∀ k, (∀ y0 y1, LeO (law06_Few.l0 k y0 y1) (law06_Few.l0 (k + 1) y0 y1))
 | 0 => fun _ _ r h => by simp [law06_Few.l0] at h
 | k + 1 => by
  have ih0 := law06_Few.mono_l k
  ·intro y0 y1
   unfold law06_Few.l0
   repeat' first
   | (with_reducible exact ih0 _ _)
   | (with_reducible exact LeO.refl _)
   | (with_reducible exact LeO.none _)
   | (with_reducible refine LeO.ite ?_ ?_)
   | (with_reducible refine LeO.bind ?_ (fun _ => ?_))
   | exact ih0 _ _
   | exact LeO.none _
   | refine LeO.ite ?_ ?_
   | refine LeO.bind ?_ (fun _ => ?_)
theorem law06_Few.mono : ∀ a0 k, LeO (law06_Few.f k a0) (law06_Few.f (k + 1) a0) := by
 intro a0 k
 have ih0 := law06_Few.mono_l k
 unfold law06_Few.f
 repeat' first
   | (with_reducible exact ih0 _ _)
   | (with_reducible exact LeO.refl _)
   | (with_reducible exact LeO.none _)
   | (with_reducible refine LeO.ite ?_ ?_)
   | (with_reducible refine LeO.bind ?_ (fun _ => ?_))
   | exact ih0 _ _
   | exact LeO.none _
   | refine LeO.ite ?_ ?_
   | refine LeO.bind ?_ (fun _ => ?_)
set_option maxHeartbeats 8000000 in
set_option maxRecDepth 100000 in
theorem law06_Few.calls (k : Nat) (A0 : Option Addr) (c0 : Nat) (l0 : List (S73)) (r : Bool) (w : World) (hr0 : Kd.C k73 w A0 l0.length l0) (hc0 : l0.length ≤ c0) (h : law06_Few.f k l0 = some r) :
  Calls Tryz.prog 24 #[.slice A0 l0.length c0] w fun e w' => e = .returned (.bool r) ∧ Drawn0 w w' := by
 have HR0 := Aside0.mk hr0
 have HC0 := Aside0.mk hc0
 clear hr0 hc0
 have H : (if (l0.length : Int) > 30 then (some false) else (law06_Few.l0 k l0 0)) = some r := h
 clear h
 by_cases c2 : (l0.length : Int) > 30
 ·rw [if_pos c2] at H
  have c2b0 : decide (30 < (l0.length : Int)) = true := decide_eq_true c2
  have c2b1 : decide (30 < l0.length) = true := decide_eq_true (by omega)
  clear c2
  obtain rfl := Option.some.inj H
  go_enter Tryz.func24, Tryz.ntmps24
  go_wp2
  go_ret
  exact ⟨by first | rfl | (simp; done) | (simp [*]; done), by repeat (first | exact Drawn0.refl _ | apply Drawn0.step)⟩
 ·rw [if_neg c2] at H
  have c2b0 : decide (30 < (l0.length : Int)) = false := decide_eq_false c2
  have c2b1 : decide (30 < l0.length) = false := decide_eq_false (by omega)
  clear c2
  have H' := Aside0.mk H
  clear H
  go_enter Tryz.func24, Tryz.ntmps24
  go_wp2
  go_loopg [3] k (fun kq v3 w' => ∃ (x3_1 : Int), v3 = .int .i64 x3_1 ∧ Aside0 (law06_Few.l0 kq l0 x3_1 = some r) ∧ Aside0 (kq ≤ k) ∧ Drawn0 w w')
  case atStart => exact ⟨(0), (by first | rfl | (simp; done) | (simp [*]; done)), H', ⟨Nat.le_refl _⟩, by repeat (first | exact Drawn0.refl _ | apply Drawn0.step)⟩
  case round =>
   clear H'
   try clear c2
   try clear c2b0
   try clear c2b1
   try clear p2
   obtain ⟨x3_1, rfl, HA, HK1, ⟨m1, rfl⟩⟩ := hrel
   cases gk with
   | zero => exact absurd HA.out (by simp [law06_Few.l0])
   | succ k1 =>
    have H := HA.out
    clear HA
    simp only [law06_Few.l0] at H
    by_cases c3 : x3_1 < (l0.length : Int)
    ·rw [if_pos c3] at H
     have c3b0 : decide (x3_1 < (l0.length : Int)) = true := decide_eq_true c3
     clear c3
     by_cases c4 : 0 ≤ x3_1
     ·rw [if_pos c4] at H
      have c4b0 : decide (0 ≤ x3_1) = true := decide_eq_true c4
      clear c4
      by_cases c5 : (((rd_T73 l0 x3_1).f0).size : Int) > 100
      ·rw [if_pos c5] at H
       have c5b0 : decide (100 < (((rd_T73 l0 x3_1).f0).size : Int)) = true := decide_eq_true c5
       have c5b1 : decide (100 < ((rd_T73 l0 x3_1).f0).size) = true := decide_eq_true (by omega)
       clear c5
       obtain rfl := Option.some.inj H
       have p197 : 0 ≤ (x3_1 : Int) := of_decide_eq_true (by first | (with_reducible assumption) | assumption)
       have q197 : x3_1 < (l0.length : Int) := of_decide_eq_true (by first | (with_reducible assumption) | assumption)
       obtain ⟨ad197, e197, hx197_0, hx197_1⟩ := at_T73 HR0.out x3_1 p197 q197
       cases e197
       replace p197 := eq_true p197
       replace q197 := eq_true q197
       go_wp2
       go_ret
       exact ⟨by first | rfl | (simp; done) | (simp [*]; done), by repeat (first | exact Drawn0.refl _ | apply Drawn0.step)⟩
      ·rw [if_neg c5] at H
       have c5b0 : decide (100 < (((rd_T73 l0 x3_1).f0).size : Int)) = false := decide_eq_false c5
       have c5b1 : decide (100 < ((rd_T73 l0 x3_1).f0).size) = false := decide_eq_false (by omega)
       clear c5
       have H' := Aside0.mk H
       clear H
       have p197 : 0 ≤ (x3_1 : Int) := of_decide_eq_true (by first | (with_reducible assumption) | assumption)
       have q197 : x3_1 < (l0.length : Int) := of_decide_eq_true (by first | (with_reducible assumption) | assumption)
       obtain ⟨ad197, e197, hx197_0, hx197_1⟩ := at_T73 HR0.out x3_1 p197 q197
       cases e197
       replace p197 := eq_true p197
       replace q197 := eq_true q197
       go_wp2
       go_roundg k1
       case measure => have := HK1.out; omega
       case rel => exact ⟨(wrap64 (x3_1 + 1)), (by first | rfl | (simp; done) | (simp [*]; done)), H', ⟨by have := HK1.out; omega⟩, by repeat (first | exact Drawn0.refl _ | apply Drawn0.step)⟩
     ·rw [if_neg c4] at H
      exact absurd H (by simp)
    ·rw [if_neg c3] at H
     have c3b0 : decide (x3_1 < (l0.length : Int)) = false := decide_eq_false c3
     clear c3
     obtain rfl := Option.some.inj H
     go_wp2
     go_ret
     exact ⟨by first | rfl | (simp; done) | (simp [*]; done), by repeat (first | exact Drawn0.refl _ | apply Drawn0.step)⟩

end Go.Proofs.YtmcddoolniaehaaGreat.S
end
section
namespace Go.Proofs.YtmcddoolniaehaaGreat.S
open Go.RowKit Go.Proofs.YtmcddoolniaehaaGreatW.PrintWords Go.Proofs.YtmcddoolniaehaaGreatW.PrintLast Go.Proofs.YtmcddoolniaehaaGreatW.PrintMore Go.Proofs.YtmcddoolniaehaaGreatW
set_option linter.unusedVariables false
set_option linter.unusedSimpArgs false
theorem key_size {a : ByteArray} (h : keyB a.data.toList = true) : a.size ≤ 8 := by
  unfold keyB at h
  simp at h
  exact h.2.2
def getC : List Ct → ByteArray → Int
  | [], _ => 0
  | x :: l, k => if x.f0 = k then x.f1 else getC l k
theorem getC_cons (x : Ct) (l : List Ct) (k : ByteArray) : getC (x :: l) k = if x.f0 = k then x.f1 else getC l k := rfl
theorem ctrKey_iff {key : ByteArray} {x : Ct} : ctrKey key x = true ↔ x.f0 = key := by
  unfold ctrKey; rw [beq_iff_eq]
  exact ⟨toList_inj, fun h => by rw [h]⟩
theorem getC_f : ∀ (l : List Ct) (key : ByteArray), ctr_Get.f l key = some (getC l key)
  | [], key => rfl
  | x :: l, key => by
    have ih := getC_f l key
    unfold ctr_Get.f at ih ⊢
    rw [List.find?_cons]
    unfold getC
    by_cases h : x.f0 = key
    · rw [if_pos h, ctrKey_iff.2 h]
    · rw [if_neg h, show ctrKey key x = false from Bool.eq_false_iff.2 fun e => h (ctrKey_iff.1 e)]
      exact ih
def inR (n : Int) : Prop := -9223372036854775808 ≤ n ∧ n ≤ 9223372036854775807
theorem wrap_in (n : Int) : inR (wrap64 n) := by unfold inR wrap64; omega
theorem wrap_id {n : Int} (h : inR n) : wrap64 n = n := by unfold inR at h; unfold wrap64; omega
theorem wrap_l (a b : Int) : wrap64 (wrap64 a + b) = wrap64 (a + b) := by unfold wrap64; omega
theorem wrap_r (a b : Int) : wrap64 (a + wrap64 b) = wrap64 (a + b) := by unfold wrap64; omega
theorem wrap_sl (a b : Int) : wrap64 (wrap64 a - b) = wrap64 (a - b) := by unfold wrap64; omega
theorem wrap_n (a : Int) : wrap64 (-wrap64 a) = wrap64 (-a) := by unfold wrap64; omega
theorem cLt_ne {x y : Ct} (h : cLt x y) : x.f0 ≠ y.f0 := by
  intro e
  unfold cLt at h
  rw [e, less_irrefl] at h; cases h
theorem getC_none {l : List Ct} {k : ByteArray} (h : ∀ x ∈ l, x.f0 ≠ k) : getC l k = 0 := by
  induction l with
  | nil => rfl
  | cons x l ih =>
    unfold getC
    rw [if_neg (h x List.mem_cons_self)]
    exact ih fun y hy => h y (List.mem_cons_of_mem _ hy)
theorem getC_mem {l : List Ct} {k : ByteArray} (h : getC l k ≠ 0) : ∃ x ∈ l, x.f0 = k ∧ x.f1 = getC l k := by
  induction l with
  | nil => exact absurd rfl h
  | cons x l ih =>
    unfold getC at h ⊢
    by_cases e : x.f0 = k
    · rw [if_pos e]; exact ⟨x, List.mem_cons_self, e, rfl⟩
    · rw [if_neg e] at h ⊢
      obtain ⟨y, hy, h1, h2⟩ := ih h
      exact ⟨y, List.mem_cons_of_mem _ hy, h1, h2⟩
theorem getC_head (x : Ct) (l : List Ct) : getC (x :: l) x.f0 = x.f1 := by unfold getC; rw [if_pos rfl]
theorem ctr_same : ∀ (l m : List Ct), l.Pairwise cLt → m.Pairwise cLt → (∀ x ∈ l, x.f1 ≠ 0) → (∀ x ∈ m, x.f1 ≠ 0) → (∀ k, getC l k = getC m k) → l = m
  | [], [], _, _, _, _, _ => rfl
  | [], y :: m, _, _, _, hz, h => by have := h y.f0; rw [getC_head] at this; exact absurd this.symm (hz y List.mem_cons_self)
  | x :: l, [], _, _, hz, _, h => by have := h x.f0; rw [getC_head] at this; exact absurd this (hz x List.mem_cons_self)
  | x :: l, y :: m, hl, hm, zl, zm, h => by
    rw [List.pairwise_cons] at hl hm
    have hxy : x = y := by
      have h1 := h x.f0
      rw [getC_head] at h1
      have z1 := zl x List.mem_cons_self
      obtain ⟨a, ha, a1, a2⟩ := getC_mem (l := y :: m) (k := x.f0) (by rw [← h1]; exact z1)
      have h2 := h y.f0
      rw [getC_head] at h2
      have z2 := zm y List.mem_cons_self
      obtain ⟨b, hb, b1, b2⟩ := getC_mem (l := x :: l) (k := y.f0) (by rw [h2]; exact z2)
      have hk : x.f0 = y.f0 := by
        rcases List.mem_cons.1 ha with rfl | ha
        · exact a1.symm
        · rcases List.mem_cons.1 hb with rfl | hb
          · exact b1
          · have c1 := hm.1 a ha
            have c2 := hl.1 b hb
            unfold cLt at c1 c2
            rw [a1] at c1; rw [b1] at c2
            rw [less_asymm c1] at c2; cases c2
      have hv : x.f1 = y.f1 := by rw [h1, hk, getC_head]
      cases x; cases y; simp_all
    subst hxy
    congr 1
    refine ctr_same l m hl.2 hm.2 (fun z hz => zl z (List.mem_cons_of_mem _ hz)) (fun z hz => zm z (List.mem_cons_of_mem _ hz)) fun k => ?_
    by_cases hk : x.f0 = k
    · rw [getC_none fun y hy e => cLt_ne (hl.1 y hy) (hk.trans e.symm), getC_none fun y hy e => cLt_ne (hm.1 y hy) (hk.trans e.symm)]
    · have := h k
      unfold getC at this
      rwa [if_neg hk, if_neg hk] at this
theorem getM_none {es : MapL} {k : ByteArray} (h : ∀ p ∈ es, p.1 ≠ k) : getM es k = 0 := by
  induction es with
  | nil => rfl
  | cons p l ih =>
    unfold getM
    rw [if_neg (h p List.mem_cons_self)]
    exact ih fun y hy => h y (List.mem_cons_of_mem _ hy)
theorem out_mem {es : MapL} {x : Ct} (h : x ∈ outM es) : (x.f0, x.f1) ∈ es ∧ x.f1 ≠ 0 := by
  unfold outM at h
  obtain ⟨p, hp, e⟩ := List.mem_filterMap.1 h
  by_cases hz : p.2 = 0
  · rw [if_pos hz] at e; cases e
  · rw [if_neg hz] at e
    cases e
    exact ⟨hp, hz⟩
theorem out_up : ∀ {es : MapL}, es.Pairwise mLt → (outM es).Pairwise cLt
  | [], _ => List.Pairwise.nil
  | p :: l, h => by
    rw [List.pairwise_cons] at h
    have ih := out_up h.2
    unfold outM at ih ⊢
    rw [List.filterMap_cons]
    by_cases hz : p.2 = 0
    · rw [if_pos hz]; exact ih
    · rw [if_neg hz]
      simp only [List.pairwise_cons]
      refine ⟨fun x hx => ?_, ih⟩
      have := (out_mem (es := l) hx).1
      exact h.1 _ this
theorem getC_out : ∀ (es : MapL) (k : ByteArray), es.Pairwise mLt → getC (outM es) k = getM es k
  | [], k, _ => rfl
  | p :: l, k, h => by
    rw [List.pairwise_cons] at h
    have ih := getC_out l k h.2
    have e : outM (p :: l) = if p.2 = 0 then outM l else ⟨p.1, p.2⟩ :: outM l := by
      unfold outM
      rw [List.filterMap_cons]
      by_cases hz : p.2 = 0 <;> simp [hz]
    rw [e]
    unfold getM
    by_cases hz : p.2 = 0
    · rw [if_pos hz, ih]
      by_cases hk : p.1 = k
      · rw [if_pos hk, hz, getM_none]
        intro q hq e2
        have := h.1 q hq
        unfold mLt at this
        rw [e2, ← hk, less_irrefl] at this; cases this
      · rw [if_neg hk]
    · rw [if_neg hz]
      unfold getC
      by_cases hk : p.1 = k
      · rw [if_pos hk, if_pos hk]
      · rw [if_neg hk, if_neg hk, ih]
theorem getM_inc (es : MapL) (k j : ByteArray) (n : Int) : getM (incM es k n) j = if j = k then wrap64 (getM es k + n) else getM es j := getM_set es k j _
theorem getM_in_inc {es : MapL} (h : ∀ k, inR (getM es k)) (k : ByteArray) (n : Int) : ∀ j, inR (getM (incM es k n) j) := fun j => by
  rw [getM_inc]
  split
  · exact wrap_in _
  · exact h j
theorem getM_in_add (t : Int) : ∀ (l : List Ct) (es : MapL), (∀ k, inR (getM es k)) → ∀ k, inR (getM (addM t es l) k)
  | [], es, h, k => h k
  | c :: l, es, h, k => getM_in_add t l _ (getM_in_inc h _ _) k
theorem getM_add (t : Int) : ∀ (l : List Ct) (es : MapL) (k : ByteArray), l.Pairwise cLt → (∀ k, inR (getM es k)) → getM (addM t es l) k = wrap64 (getM es k + t * getC l k)
  | [], es, k, _, h => by
    show getM es k = _
    unfold getC
    rw [Int.mul_zero, Int.add_zero, wrap_id (h k)]
  | c :: l, es, k, hp, h => by
    rw [List.pairwise_cons] at hp
    show getM (addM t (incM es c.f0 (wrap64 (t * c.f1))) l) k = _
    rw [getM_add t l _ k hp.2 (getM_in_inc h _ _), getM_inc, getC_cons]
    by_cases hk : k = c.f0
    · rw [if_pos hk, if_pos hk.symm, getC_none fun y hy e => cLt_ne (hp.1 y hy) (hk.symm.trans e.symm), hk]
      rw [Int.mul_zero, Int.add_zero, wrap_id (wrap_in _), wrap_r]
    · rw [if_neg hk, if_neg fun e => hk e.symm]
def KeysM (es : MapL) : Prop := ∀ p ∈ es, keyB p.1.data.toList = true
theorem keys_inc {es : MapL} (h : KeysM es) {k : ByteArray} (hk : keyB k.data.toList = true) (n : Int) : KeysM (incM es k n) := fun p hp => by
  rcases setM_mem hp with rfl | hp
  · exact hk
  · exact h p hp
theorem keys_add (t : Int) : ∀ (l : List Ct) {es : MapL}, KeysM es → (∀ x ∈ l, keyB x.f0.data.toList = true) → KeysM (addM t es l)
  | [], es, h, _ => h
  | c :: l, es, h, hl => keys_add t l (keys_inc h (hl c List.mem_cons_self) _) fun x hx => hl x (List.mem_cons_of_mem _ hx)
theorem may_out {es : MapL} (hu : es.Pairwise mLt) (hk : KeysM es) : mayC (outM es) = true := by
  rw [mayC_iff]
  refine ⟨fun x hx => ?_, out_up hu⟩
  obtain ⟨h1, h2⟩ := out_mem hx
  unfold oneC
  rw [hk _ h1]
  simp [h2]
theorem one_key {c : Ct} (h : oneC c = true) : keyB c.f0.data.toList = true := by unfold oneC at h; simp at h; exact h.1
theorem one_nz {c : Ct} (h : oneC c = true) : c.f1 ≠ 0 := by unfold oneC at h; simp at h; exact h.2
theorem may_keys {l : List Ct} (h : mayC l = true) : ∀ x ∈ l, keyB x.f0.data.toList = true := fun x hx => one_key (((mayC_iff l).1 h).1 x hx)
theorem may_nz {l : List Ct} (h : mayC l = true) : ∀ x ∈ l, x.f1 ≠ 0 := fun x hx => one_nz (((mayC_iff l).1 h).1 x hx)
theorem may_up {l : List Ct} (h : mayC l = true) : l.Pairwise cLt := ((mayC_iff l).1 h).2
theorem same_may {l m : List Ct} (h : mayC l = true) (g : mayC m = true) (e : ∀ k, getC l k = getC m k) : l = m := ctr_same l m (may_up h) (may_up g) (may_nz h) (may_nz g) e
theorem nil_in : ∀ k, inR (getM [] k) := fun k => by unfold getM inR; omega
theorem may_inc {l : List Ct} {k : ByteArray} {n : Int} (h : mayC l = true) (hk : keyB k.data.toList = true) : mayC (incO l k n) = true := by
  unfold incO
  rw [h, hk]
  exact may_out (incM_up _ _ (addM_up 1 l [] List.Pairwise.nil)) (keys_inc (keys_add 1 l (fun p hp => by cases hp) (may_keys h)) hk n)
theorem get_inc {l : List Ct} {k : ByteArray} {n : Int} (h : mayC l = true) (hk : keyB k.data.toList = true) (j : ByteArray) : getC (incO l k n) j = if j = k then wrap64 (getC l k + n) else wrap64 (getC l j) := by
  unfold incO
  rw [h, hk]
  simp only [Bool.and_self, if_true]
  rw [getC_out _ _ (incM_up _ _ (addM_up 1 l [] List.Pairwise.nil)), getM_inc]
  have e : ∀ i, getM (addM 1 [] l) i = wrap64 (getC l i) := fun i => by
    rw [getM_add 1 l [] i (may_up h) nil_in]
    unfold getM
    rw [Int.one_mul, Int.zero_add]
  rw [e, e, wrap_l]
theorem may_merge {base a b : List Ct} (h0 : mayC base = true) (h1 : mayC a = true) (h2 : mayC b = true) : mayC (mergeC base a b) = true := by
  unfold mergeC
  rw [h0, h1, h2]
  exact may_out (addM_up _ _ _ (addM_up _ _ _ (addM_up _ _ _ List.Pairwise.nil))) (keys_add _ _ (keys_add _ _ (keys_add _ _ (fun p hp => by cases hp) (may_keys h1)) (may_keys h2)) (may_keys h0))
theorem get_merge {base a b : List Ct} (h0 : mayC base = true) (h1 : mayC a = true) (h2 : mayC b = true) (k : ByteArray) : getC (mergeC base a b) k = wrap64 (getC a k + getC b k - getC base k) := by
  unfold mergeC
  rw [h0, h1, h2]
  simp only [Bool.and_self, if_true]
  have i1 := getM_in_add 1 a [] nil_in
  have i2 := getM_in_add 1 b _ i1
  rw [getC_out _ _ (addM_up _ _ _ (addM_up _ _ _ (addM_up _ _ _ List.Pairwise.nil))), getM_add (-1) base _ k (may_up h0) i2, getM_add 1 b _ k (may_up h2) i1, getM_add 1 a [] k (may_up h1) nil_in]
  unfold getM
  generalize getC a k = x
  generalize getC b k = y
  generalize getC base k = z
  unfold wrap64; omega
theorem monoC_up {α : Type} {f : Nat → Option α} (hm : ∀ k, LeO (f k) (f (k + 1))) {n : Nat} {r : α} (h : f n = some r) : ∀ k, n ≤ k → f k = some r := by
  intro k hk
  obtain ⟨d, rfl⟩ := Nat.exists_eq_add_of_le hk
  clear hk
  induction d with
  | zero => exact h
  | succ d ih => exact hm _ _ ih
def fewC (l : List Ct) : Bool := decide (l.length ≤ 30) && l.all (fun x => decide (x.f0.size ≤ 100))
theorem fewC_loop : ∀ (suf pre : List Ct) (k : Nat), suf.length < k → (pre ++ suf).length < 4611686018427387904 →
    law06_Few.l0 k (pre ++ suf) ((pre.length : Nat) : Int) = some (suf.all (fun x => decide (x.f0.size ≤ 100)))
  | suf, pre, 0, hk, _ => by omega
  | [], pre, k + 1, _, _ => by
    simp only [law06_Few.l0]
    rw [if_neg (by simp)]
    rfl
  | x :: suf, pre, k + 1, hk, hl => by
    have hlt : ((pre.length : Nat) : Int) < (((pre ++ x :: suf).length : Nat) : Int) := by simp; omega
    have hpl : pre.length < 4611686018427387904 := by simp at hl; omega
    have ih := fewC_loop suf (pre ++ [x]) k (by simp at hk; omega) (by simpa using hl)
    rw [appS, lenS] at ih
    simp only [law06_Few.l0]
    rw [if_pos hlt, if_pos (by omega), rdC_mid, wrapS hpl, ih, List.all_cons]
    by_cases h1 : x.f0.size ≤ 100
    · rw [if_neg (by omega)]; simp [h1]
    · rw [if_pos (by omega)]; simp [h1]
theorem fewC_f (k : Nat) (l : List Ct) (hk : 31 < k) : law06_Few.f k l = some (fewC l) := by
  unfold law06_Few.f fewC
  by_cases h : l.length ≤ 30
  · rw [if_neg (by omega)]
    have := fewC_loop l [] k (by omega) (by simp; omega)
    simp only [List.nil_append, List.length_nil] at this
    rw [show ((0 : Nat) : Int) = 0 from rfl] at this
    rw [this]; simp [h]
  · rw [if_pos (by omega)]; simp [h]
theorem fewC_len {l : List Ct} (h : fewC l = true) : l.length ≤ 30 := by
  unfold fewC at h; simp at h; exact h.1
def kS (l : List Ct) : Prop := ∀ x ∈ l, x.f0.size ≤ 100
theorem fewC_size {l : List Ct} (h : fewC l = true) : kS l := by
  unfold fewC at h; simp at h
  intro x hx
  exact h.2 x hx
theorem kS_small {l : List Ct} (h : kS l) : ∀ x ∈ l, kSmall x.f0 = true := fun x hx => by
  have := h x hx
  unfold kSmall; simp; omega
theorem smallC_of {l : List Ct} (h : kS l) (hl : l.length ≤ 1000) : smallC l = true := by
  unfold smallC
  simp only [Bool.and_eq_true, decide_eq_true_eq, List.all_eq_true]
  exact ⟨by omega, kS_small h⟩
theorem may_kS {l : List Ct} (h : mayC l = true) : kS l := fun x hx => by have := key_size (may_keys h x hx); omega
theorem inc_f {l : List Ct} {k : ByteArray} (n : Int) (h : kS l) (hl : l.length ≤ 1000) (hk : k.size ≤ 140737488351232) : ctr_Inc.f l k n = some (incO l k n) := by
  unfold ctr_Inc.f
  rw [if_pos ⟨smallC_of h hl, by unfold kSmall; simpa using hk⟩]
theorem mergeC_f {a b c : List Ct} (ha : kS a) (hb : kS b) (hc : kS c) (la : a.length ≤ 1000) (lb : b.length ≤ 1000) (lc : c.length ≤ 1000) : ctr_Merge.f a b c = some (mergeC a b c) := by
  unfold ctr_Merge.f
  rw [if_pos ⟨smallC_of ha la, smallC_of hb lb, smallC_of hc lc⟩]
theorem incO_len (l : List Ct) (k : ByteArray) (n : Int) : (incO l k n).length ≤ l.length + 1 := by
  unfold incO
  split
  · have h1 : (outM (incM (addM 1 [] l) k n)).length ≤ (incM (addM 1 [] l) k n).length := List.length_filterMap_le _ _
    have h2 := setM_len (addM 1 [] l) k (wrap64 (getM (addM 1 [] l) k + n))
    have h3 := addM_len 1 l []
    unfold incM at h1 ⊢
    simp only [List.length_nil] at h3
    omega
  · simp
theorem mergeC_len (a b c : List Ct) : (mergeC a b c).length ≤ a.length + b.length + c.length := by
  unfold mergeC
  split
  · have h0 : (outM (addM (-1) (addM 1 (addM 1 [] b) c) a)).length ≤ (addM (-1) (addM 1 (addM 1 [] b) c) a).length := List.length_filterMap_le _ _
    have h1 := addM_len 1 b []
    have h2 := addM_len 1 c (addM 1 [] b)
    have h3 := addM_len (-1) a (addM 1 (addM 1 [] b) c)
    simp only [List.length_nil] at h1
    omega
  · simp
theorem incO_kS (l : List Ct) (k : ByteArray) (n : Int) : kS (incO l k n) := by
  cases h : mayC l && keyB k.data.toList with
  | false =>
    have : incO l k n = [] := by unfold incO; rw [h]; rfl
    rw [this]; intro x hx; cases hx
  | true =>
    simp only [Bool.and_eq_true] at h
    exact may_kS (may_inc h.1 h.2)
theorem mergeC_kS (a b c : List Ct) : kS (mergeC a b c) := by
  cases h : mayC a && (mayC b && mayC c) with
  | false =>
    have : mergeC a b c = [] := by unfold mergeC; rw [h]; rfl
    rw [this]; intro x hx; cases hx
  | true =>
    simp only [Bool.and_eq_true] at h
    exact may_kS (may_merge h.1 h.2.1 h.2.2)
theorem mayCk (k : Nat) (l : List Ct) (hk : l.length < k) (hl : l.length ≤ 1000) (h : kS l) : ctr_May.f k l = some (mayC l) := mayC_f k l hk (by omega) (kS_small h)
def inL (l : List Ct) : Prop := ∀ x ∈ l, inR x.f1
theorem getC_in {l : List Ct} (h : inL l) (k : ByteArray) : inR (getC l k) := by
  induction l with
  | nil => unfold getC inR; omega
  | cons x l ih =>
    rw [getC_cons]
    split
    · exact h x List.mem_cons_self
    · exact ih fun y hy => h y (List.mem_cons_of_mem _ hy)
end Go.Proofs.YtmcddoolniaehaaGreat.S
end
section
namespace Go.Proofs.YtmcddoolniaehaaGreat.S
open Go.RowKit Go.Proofs.YtmcddoolniaehaaGreatW.PrintWords Go.Proofs.YtmcddoolniaehaaGreatW.PrintLast Go.Proofs.YtmcddoolniaehaaGreatW.PrintMore
attribute [local go_sem] max2_int min2_int max_two min_two max_three min_three max_four min_four   -- for this text's walks alone
set_option linter.unusedVariables false
set_option linter.unusedSimpArgs false

def reg_Merge.f (k : Nat) (l0 : List (S47)) (l1 : List (S47)) : Option ((List (S47))) := (reg_May.f k l0).bind fun t142 => (if t142 = true then ((reg_May.f k l1).bind fun t143 => (if t143 = true then ((reg_with.f l0 l1).bind fun t144 => (some t144)) else (some ([] : List (S47))))) else (some ([] : List (S47))))
theorem reg_Merge.mono : ∀ a0 a1 k, LeO (reg_Merge.f k a0 a1) (reg_Merge.f (k + 1) a0 a1) := by
 intro a0 a1 k
 unfold reg_Merge.f
 repeat' first
   | (with_reducible exact reg_May.mono _ _)
   | (with_reducible exact LeO.refl _)
   | (with_reducible exact LeO.none _)
   | (with_reducible refine LeO.ite ?_ ?_)
   | (with_reducible refine LeO.bind ?_ (fun _ => ?_))
   | exact reg_May.mono _ _
   | exact LeO.none _
   | refine LeO.ite ?_ ?_
   | refine LeO.bind ?_ (fun _ => ?_)
set_option maxHeartbeats 8000000 in
set_option maxRecDepth 100000 in
theorem reg_Merge.calls (k : Nat) (A0 : Option Addr) (c0 : Nat) (l0 : List (S47)) (A1 : Option Addr) (c1 : Nat) (l1 : List (S47)) (r : List (S47)) (w : World) (hr0 : Kd.C k47 w A0 l0.length l0) (hc0 : l0.length ≤ c0) (hr1 : Kd.C k47 w A1 l1.length l1) (hc1 : l1.length ≤ c1) (h : reg_Merge.f k l0 l1 = some r) :
  Calls Tryz.prog 62 #[.slice A0 l0.length c0, .slice A1 l1.length c1] w fun e w' => ∃ v0_ : Value, e = .returned (v0_) ∧ Kd.R k47 47 w' w.heap.size (fun _ => True) v0_ r ∧ Below w.heap.size w w' := by
 have HR0 := Aside0.mk hr0
 have HC0 := Aside0.mk hc0
 clear hr0 hc0
 have HR1 := Aside0.mk hr1
 have HC1 := Aside0.mk hc1
 clear hr1 hc1
 have HB := Aside0.mk (Below.refl w.heap.size w)
 have H : ((reg_May.f k l0).bind fun t142 => (if t142 = true then ((reg_May.f k l1).bind fun t143 => (if t143 = true then ((reg_with.f l0 l1).bind fun t144 => (some t144)) else (some ([] : List (S47))))) else (some ([] : List (S47))))) = some r := h
 clear h
 replace H := Option.bind_eq_some_iff.mp H
 obtain ⟨t142, A30, H⟩ := H
 replace H : (if t142 = true then ((reg_May.f k l1).bind fun t143 => (if t143 = true then ((reg_with.f l0 l1).bind fun t144 => (some t144)) else (some ([] : List (S47))))) else (some ([] : List (S47)))) = some r := H
 have A3 := Aside0.mk A30
 clear A30
 by_cases c4 : t142 = true
 ·subst c4
  have H1 : ((reg_May.f k l1).bind fun t143 => (if t143 = true then ((reg_with.f l0 l1).bind fun t144 => (some t144)) else (some ([] : List (S47))))) = some r := by rw [if_pos rfl] at H; exact H
  clear H
  have H := H1
  clear H1
  replace H := Option.bind_eq_some_iff.mp H
  obtain ⟨t143, A50, H⟩ := H
  replace H : (if t143 = true then ((reg_with.f l0 l1).bind fun t144 => (some t144)) else (some ([] : List (S47)))) = some r := H
  have A5 := Aside0.mk A50
  clear A50
  by_cases c6 : t143 = true
  ·subst c6
   have H1 : ((reg_with.f l0 l1).bind fun t144 => (some t144)) = some r := by rw [if_pos rfl] at H; exact H
   clear H
   have H := H1
   clear H1
   replace H := Option.bind_eq_some_iff.mp H
   obtain ⟨t144, A70, H⟩ := H
   replace H : (some t144) = some r := H
   have A7 := Aside0.mk A70
   clear A70
   obtain rfl := Option.some.inj H
   go_enter Tryz.func62, Tryz.ntmps62
   go_wp2_with (first | ((with_reducible refine gate_callee (f := 51) rfl ?_); refine goesL_ (some 6) rfl rfl Tryz.func51 (by kernel_rfl) rfl #[.slice A0 l0.length c0] rfl (by (try simp only [List.map_toArray, List.map_cons, List.map_nil]); first | done | rfl | (simp only [List.length_drop, List.length_take]; rfl)) ?_; (with_reducible refine (reg_May.calls k _ _ l0 true _ ?side1 ?side2 A3.out).mono ?_); (case side1 => repeat (first | exact HR0.out | (with_reducible refine Kd.C_alloc ?_ _) | (with_reducible refine Kd.C_drewN ?_ _) | (with_reducible refine Kd.C_drew ?_))); (case side2 => exact HC0.out); rintro e w8 ⟨rfl, hb⟩; refine ⟨_, rfl, ?_⟩; have n0_ := Aside0.mk (below_step (by repeat (first | (with_reducible first | exact HB.out | apply below_alloc | apply pw_below_drewN | apply below_drew1) | exact HB.out)) hb); clear HB; have HB := n0_; clear n0_; (try clear hb); (try clear hb2); (try clear hk); (try clear hi)) | (go_at_call 51; (with_reducible refine (reg_May.calls k _ _ l1 true _ ?side1 ?side2 A5.out).mono ?_); (case side1 => repeat (first | exact (Kd.C_below HR1.out HB.out) | (with_reducible refine Kd.C_alloc ?_ _) | (with_reducible refine Kd.C_drewN ?_ _) | (with_reducible refine Kd.C_drew ?_))); (case side2 => exact HC1.out); rintro e w9 ⟨rfl, hb⟩; have n0_ := Aside0.mk (below_step (by repeat (first | (with_reducible first | exact HB.out | apply below_alloc | apply pw_below_drewN | apply below_drew1) | exact HB.out)) hb); clear HB; have HB := n0_; clear n0_; (try clear hb); (try clear hb2); (try clear hk); (try clear hi)) | ((with_reducible refine gate_callee (f := 83) rfl ?_); refine goesL_ (some 15) rfl rfl Tryz.func83 (by kernel_rfl) rfl #[.slice A0 l0.length c0, .slice A1 l1.length c1] rfl (by (try simp only [List.map_toArray, List.map_cons, List.map_nil]); first | done | rfl | (simp only [List.length_drop, List.length_take]; rfl)) ?_; (with_reducible refine (reg_with.calls _ _ l0 _ _ l1 t144 _ ?side1 ?side2 ?side3 ?side4 A7.out).mono ?_); (case side1 => repeat (first | exact (Kd.C_below HR0.out HB.out) | (with_reducible refine Kd.C_alloc ?_ _) | (with_reducible refine Kd.C_drewN ?_ _) | (with_reducible refine Kd.C_drew ?_))); (case side2 => exact HC0.out); (case side3 => repeat (first | exact (Kd.C_below HR1.out HB.out) | (with_reducible refine Kd.C_alloc ?_ _) | (with_reducible refine Kd.C_drewN ?_ _) | (with_reducible refine Kd.C_drew ?_))); (case side4 => exact HC1.out); rintro e w10 ⟨v145, rfl, ho0, hb⟩; refine ⟨_, rfl, ?_⟩; have n0_ := Aside0.mk (Kd.R_lower ho0 (below_size (by repeat (first | (with_reducible first | exact HB.out | apply below_alloc | apply pw_below_drewN | apply below_drew1) | exact HB.out)))); have n1_ := Aside0.mk (below_step (by repeat (first | (with_reducible first | exact HB.out | apply below_alloc | apply pw_below_drewN | apply below_drew1) | exact HB.out)) hb); clear HB; have HO146 := n0_; have HB := n1_; clear n0_ n1_; (try clear hb); (try clear hb2); (try clear hk); (try clear hi); (try clear ho0)))
   go_ret
   exact ⟨_, by first | rfl | (simp [errW_none, errW_some] <;> rfl) | (simp [*, errW_none, errW_some] <;> rfl), by (with_reducible repeat (first | apply Kd.R_alloc | apply Kd.R_drewN | apply Kd.R_drew)); exact HO146.out, by repeat (first | (with_reducible first | exact HB.out | apply below_alloc | apply pw_below_drewN | apply below_drew1) | exact HB.out)⟩
  ·replace c6 := Bool.eq_false_iff.mpr c6
   subst c6
   have H1 : (some ([] : List (S47))) = some r := by rw [if_neg (show ¬ (false = true) by decide)] at H; exact H
   clear H
   have H := H1
   clear H1
   obtain rfl := Option.some.inj H
   go_enter Tryz.func62, Tryz.ntmps62
   go_wp2_with (first | ((with_reducible refine gate_callee (f := 51) rfl ?_); refine goesL_ (some 6) rfl rfl Tryz.func51 (by kernel_rfl) rfl #[.slice A0 l0.length c0] rfl (by (try simp only [List.map_toArray, List.map_cons, List.map_nil]); first | done | rfl | (simp only [List.length_drop, List.length_take]; rfl)) ?_; (with_reducible refine (reg_May.calls k _ _ l0 true _ ?side1 ?side2 A3.out).mono ?_); (case side1 => repeat (first | exact HR0.out | (with_reducible refine Kd.C_alloc ?_ _) | (with_reducible refine Kd.C_drewN ?_ _) | (with_reducible refine Kd.C_drew ?_))); (case side2 => exact HC0.out); rintro e w11 ⟨rfl, hb⟩; refine ⟨_, rfl, ?_⟩; have n0_ := Aside0.mk (below_step (by repeat (first | (with_reducible first | exact HB.out | apply below_alloc | apply pw_below_drewN | apply below_drew1) | exact HB.out)) hb); clear HB; have HB := n0_; clear n0_; (try clear hb); (try clear hb2); (try clear hk); (try clear hi)) | (go_at_call 51; (with_reducible refine (reg_May.calls k _ _ l1 false _ ?side1 ?side2 A5.out).mono ?_); (case side1 => repeat (first | exact (Kd.C_below HR1.out HB.out) | (with_reducible refine Kd.C_alloc ?_ _) | (with_reducible refine Kd.C_drewN ?_ _) | (with_reducible refine Kd.C_drew ?_))); (case side2 => exact HC1.out); rintro e w12 ⟨rfl, hb⟩; have n0_ := Aside0.mk (below_step (by repeat (first | (with_reducible first | exact HB.out | apply below_alloc | apply pw_below_drewN | apply below_drew1) | exact HB.out)) hb); clear HB; have HB := n0_; clear n0_; (try clear hb); (try clear hb2); (try clear hk); (try clear hi)))
   go_ret
   exact ⟨_, by first | rfl | (simp [errW_none, errW_some] <;> rfl) | (simp [*, errW_none, errW_some] <;> rfl), by first | exact Kd.R_nil _ _ _ _ _ | exact Kd.N_nil _ _ _ _ _ | exact Kd.V_nil _ _ _ _ _ | exact Kd.Q_nil _ _ _ _ _ | exact Kd.S_nil _ _ _ _ _, by repeat (first | (with_reducible first | exact HB.out | apply below_alloc | apply pw_below_drewN | apply below_drew1) | exact HB.out)⟩
 ·replace c4 := Bool.eq_false_iff.mpr c4
  subst c4
  have H1 : (some ([] : List (S47))) = some r := by rw [if_neg (show ¬ (false = true) by decide)] at H; exact H
  clear H
  have H := H1
  clear H1
  obtain rfl := Option.some.inj H
  go_enter Tryz.func62, Tryz.ntmps62
  go_wp2_with (first | ((with_reducible refine gate_callee (f := 51) rfl ?_); refine goesL_ (some 6) rfl rfl Tryz.func51 (by kernel_rfl) rfl #[.slice A0 l0.length c0] rfl (by (try simp only [List.map_toArray, List.map_cons, List.map_nil]); first | done | rfl | (simp only [List.length_drop, List.length_take]; rfl)) ?_; (with_reducible refine (reg_May.calls k _ _ l0 false _ ?side1 ?side2 A3.out).mono ?_); (case side1 => repeat (first | exact HR0.out | (with_reducible refine Kd.C_alloc ?_ _) | (with_reducible refine Kd.C_drewN ?_ _) | (with_reducible refine Kd.C_drew ?_))); (case side2 => exact HC0.out); rintro e w13 ⟨rfl, hb⟩; refine ⟨_, rfl, ?_⟩; have n0_ := Aside0.mk (below_step (by repeat (first | (with_reducible first | exact HB.out | apply below_alloc | apply pw_below_drewN | apply below_drew1) | exact HB.out)) hb); clear HB; have HB := n0_; clear n0_; (try clear hb); (try clear hb2); (try clear hk); (try clear hi)))
  go_ret
  exact ⟨_, by first | rfl | (simp [errW_none, errW_some] <;> rfl) | (simp [*, errW_none, errW_some] <;> rfl), by first | exact Kd.R_nil _ _ _ _ _ | exact Kd.N_nil _ _ _ _ _ | exact Kd.V_nil _ _ _ _ _ | exact Kd.Q_nil _ _ _ _ _ | exact Kd.S_nil _ _ _ _ _, by repeat (first | (with_reducible first | exact HB.out | apply below_alloc | apply pw_below_drewN | apply below_drew1) | exact HB.out)⟩

end Go.Proofs.YtmcddoolniaehaaGreat.S
end
section
namespace Go.Proofs.YtmcddoolniaehaaGreat.S
open Go.RowKit Go.Proofs.YtmcddoolniaehaaGreatW.PrintWords Go.Proofs.YtmcddoolniaehaaGreatW.PrintLast Go.Proofs.YtmcddoolniaehaaGreatW.PrintMore
attribute [local go_sem] max2_int min2_int max_two min_two max_three min_three max_four min_four   -- for this text's walks alone
set_option linter.unusedVariables false
set_option linter.unusedSimpArgs false

def law07_Few.l0 : Nat → List (S47) → Int → Option (Bool)
 | 0, _, _ => none
 | k + 1, x0, x3 => if x3 < (x0.length : Int) then (if 0 ≤ x3 then (if (((rd_T47 x0 x3).f0).size : Int) > 100 then (some false) else (if (((rd_T47 x0 x3).f1).size : Int) > 100 then (some false) else (law07_Few.l0 k x0 (wrap64 (x3 + 1))))) else (none)) else (some true)
def law07_Few.f (k : Nat) (l0 : List (S47)) : Option (Bool) := if (l0.length : Int) > 30 then (some false) else (law07_Few.l0 k l0 0)
theorem law07_Few.mono_l : ∀ k, (∀ y0 y1, LeO (law07_Few.l0 k y0 y1) (law07_Few.l0 (k + 1) y0 y1))
 | 0 => fun _ _ r h => by simp [law07_Few.l0] at h
 | k + 1 => by
  have ih0 := law07_Few.mono_l k
  ·intro y0 y1
   unfold law07_Few.l0
   repeat' first
   | (with_reducible exact ih0 _ _)
   | (with_reducible exact LeO.refl _)
   | (with_reducible exact LeO.none _)
   | (with_reducible refine LeO.ite ?_ ?_)
   | (with_reducible refine LeO.bind ?_ (fun _ => ?_))
   | exact ih0 _ _
   | exact LeO.none _
   | refine LeO.ite ?_ ?_
   | refine LeO.bind ?_ (fun _ => ?_)
theorem law07_Few.mono : ∀ a0 k, LeO (law07_Few.f k a0) (law07_Few.f (k + 1) a0) := by
 intro a0 k
 have ih0 := law07_Few.mono_l k
 unfold law07_Few.f
 repeat' first
   | (with_reducible exact ih0 _ _)
   | (with_reducible exact LeO.refl _)
   | (with_reducible exact LeO.none _)
   | (with_reducible refine LeO.ite ?_ ?_)
   | (with_reducible refine LeO.bind ?_ (fun _ => ?_))
   | exact ih0 _ _
   | exact LeO.none _
   | refine LeO.ite ?_ ?_
   | refine LeO.bind ?_ (fun _ => ?_)
set_option maxHeartbeats 8000000 in
set_option maxRecDepth 100000 in
theorem law07_Few.calls (k : Nat) (A0 : Option Addr) (c0 : Nat) (l0 : List (S47)) (r : Bool) (w : World) (hr0 : Kd.C k47 w A0 l0.length l0) (hc0 : l0.length ≤ c0) (h : law07_Few.f k l0 = some r) :
  Calls Tryz.prog 25 #[.slice A0 l0.length c0] w fun e w' => e = .returned (.bool r) ∧ Drawn0 w w' := by
 have HR0 := Aside0.mk hr0
 have HC0 := Aside0.mk hc0
 clear hr0 hc0
 have H : (if (l0.length : Int) > 30 then (some false) else (law07_Few.l0 k l0 0)) = some r := h
 clear h
 by_cases c2 : (l0.length : Int) > 30
 ·rw [if_pos c2] at H
  have c2b0 : decide (30 < (l0.length : Int)) = true := decide_eq_true c2
  have c2b1 : decide (30 < l0.length) = true := decide_eq_true (by omega)
  clear c2
  obtain rfl := Option.some.inj H
  go_enter Tryz.func25, Tryz.ntmps25
  go_wp2
  go_ret
  exact ⟨by first | rfl | (simp; done) | (simp [*]; done), by repeat (first | exact Drawn0.refl _ | apply Drawn0.step)⟩
 ·rw [if_neg c2] at H
  have c2b0 : decide (30 < (l0.length : Int)) = false := decide_eq_false c2
  have c2b1 : decide (30 < l0.length) = false := decide_eq_false (by omega)
  clear c2
  have H' := Aside0.mk H
  clear H
  go_enter Tryz.func25, Tryz.ntmps25
  go_wp2
  go_loopg [3] k (fun kq v3 w' => ∃ (x3_1 : Int), v3 = .int .i64 x3_1 ∧ Aside0 (law07_Few.l0 kq l0 x3_1 = some r) ∧ Aside0 (kq ≤ k) ∧ Drawn0 w w')
  case atStart => exact ⟨(0), (by first | rfl | (simp; done) | (simp [*]; done)), H', ⟨Nat.le_refl _⟩, by repeat (first | exact Drawn0.refl _ | apply Drawn0.step)⟩
  case round =>
   clear H'
   try clear c2
   try clear c2b0
   try clear c2b1
   try clear p2
   obtain ⟨x3_1, rfl, HA, HK1, ⟨m1, rfl⟩⟩ := hrel
   cases gk with
   | zero => exact absurd HA.out (by simp [law07_Few.l0])
   | succ k1 =>
    have H := HA.out
    clear HA
    simp only [law07_Few.l0] at H
    by_cases c3 : x3_1 < (l0.length : Int)
    ·rw [if_pos c3] at H
     have c3b0 : decide (x3_1 < (l0.length : Int)) = true := decide_eq_true c3
     clear c3
     by_cases c4 : 0 ≤ x3_1
     ·rw [if_pos c4] at H
      have c4b0 : decide (0 ≤ x3_1) = true := decide_eq_true c4
      clear c4
      by_cases c5 : (((rd_T47 l0 x3_1).f0).size : Int) > 100
      ·rw [if_pos c5] at H
       have c5b0 : decide (100 < (((rd_T47 l0 x3_1).f0).size : Int)) = true := decide_eq_true c5
       have c5b1 : decide (100 < ((rd_T47 l0 x3_1).f0).size) = true := decide_eq_true (by omega)
       clear c5
       obtain rfl := Option.some.inj H
       have p198 : 0 ≤ (x3_1 : Int) := of_decide_eq_true (by first | (with_reducible assumption) | assumption)
       have q198 : x3_1 < (l0.length : Int) := of_decide_eq_true (by first | (with_reducible assumption) | assumption)
       obtain ⟨ad198, e198, hx198_0, hx198_1, hx198_2, hx198_3, hx198_4⟩ := at_T47 HR0.out x3_1 p198 q198
       cases e198
       replace p198 := eq_true p198
       replace q198 := eq_true q198
       go_wp2
       go_ret
       exact ⟨by first | rfl | (simp; done) | (simp [*]; done), by repeat (first | exact Drawn0.refl _ | apply Drawn0.step)⟩
      ·rw [if_neg c5] at H
       have c5b0 : decide (100 < (((rd_T47 l0 x3_1).f0).size : Int)) = false := decide_eq_false c5
       have c5b1 : decide (100 < ((rd_T47 l0 x3_1).f0).size) = false := decide_eq_false (by omega)
       clear c5
       by_cases c6 : (((rd_T47 l0 x3_1).f1).size : Int) > 100
       ·rw [if_pos c6] at H
        have c6b0 : decide (100 < (((rd_T47 l0 x3_1).f1).size : Int)) = true := decide_eq_true c6
        have c6b1 : decide (100 < ((rd_T47 l0 x3_1).f1).size) = true := decide_eq_true (by omega)
        clear c6
        obtain rfl := Option.some.inj H
        have p198 : 0 ≤ (x3_1 : Int) := of_decide_eq_true (by first | (with_reducible assumption) | assumption)
        have q198 : x3_1 < (l0.length : Int) := of_decide_eq_true (by first | (with_reducible assumption) | assumption)
        obtain ⟨ad198, e198, hx198_0, hx198_1, hx198_2, hx198_3, hx198_4⟩ := at_T47 HR0.out x3_1 p198 q198
        cases e198
        replace p198 := eq_true p198
        replace q198 := eq_true q198
        have p199 : 0 ≤ (x3_1 : Int) := of_decide_eq_true (by first | (with_reducible assumption) | assumption)
        have q199 : x3_1 < (l0.length : Int) := of_decide_eq_true (by first | (with_reducible assumption) | assumption)
        obtain ⟨ad199, e199, hx199_0, hx199_1, hx199_2, hx199_3, hx199_4⟩ := at_T47 HR0.out x3_1 p199 q199
        obtain rfl : ad198 = ad199 := (by injection e199)
        replace p199 := eq_true p199
        replace q199 := eq_true q199
        go_wp2
        go_ret
        exact ⟨by first | rfl | (simp; done) | (simp [*]; done), by repeat (first | exact Drawn0.refl _ | apply Drawn0.step)⟩
       ·rw [if_neg c6] at H
        have c6b0 : decide (100 < (((rd_T47 l0 x3_1).f1).size : Int)) = false := decide_eq_false c6
        have c6b1 : decide (100 < ((rd_T47 l0 x3_1).f1).size) = false := decide_eq_false (by omega)
        clear c6
        have H' := Aside0.mk H
        clear H
        have p198 : 0 ≤ (x3_1 : Int) := of_decide_eq_true (by first | (with_reducible assumption) | assumption)
        have q198 : x3_1 < (l0.length : Int) := of_decide_eq_true (by first | (with_reducible assumption) | assumption)
        obtain ⟨ad198, e198, hx198_0, hx198_1, hx198_2, hx198_3, hx198_4⟩ := at_T47 HR0.out x3_1 p198 q198
        cases e198
        replace p198 := eq_true p198
        replace q198 := eq_true q198
        have p199 : 0 ≤ (x3_1 : Int) := of_decide_eq_true (by first | (with_reducible assumption) | assumption)
        have q199 : x3_1 < (l0.length : Int) := of_decide_eq_true (by first | (with_reducible assumption) | assumption)
        obtain ⟨ad199, e199, hx199_0, hx199_1, hx199_2, hx199_3, hx199_4⟩ := at_T47 HR0.out x3_1 p199 q199
        obtain rfl : ad198 = ad199 := (by injection e199)
        replace p199 := eq_true p199
        replace q199 := eq_true q199
        go_wp2
        go_roundg k1
        case measure => have := HK1.out; omega
        case rel => exact ⟨(wrap64 (x3_1 + 1)), (by first | rfl | (simp; done) | (simp [*]; done)), H', ⟨by have := HK1.out; omega⟩, by repeat (first | exact Drawn0.refl _ | apply Drawn0.step)⟩
     ·rw [if_neg c4] at H
      exact absurd H (by simp)
    ·rw [if_neg c3] at H
     have c3b0 : decide (x3_1 < (l0.length : Int)) = false := decide_eq_false c3
     clear c3
     obtain rfl := Option.some.inj H
     go_wp2
     go_ret
     exact ⟨by first | rfl | (simp; done) | (simp [*]; done), by repeat (first | exact Drawn0.refl _ | apply Drawn0.step)⟩

end Go.Proofs.YtmcddoolniaehaaGreat.S
end
