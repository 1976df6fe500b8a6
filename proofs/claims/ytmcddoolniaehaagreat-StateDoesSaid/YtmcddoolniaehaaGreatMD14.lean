/- Several of the walk's texts in one: SHDo, Sx1, Sx2, Sx3. -/
import Derived.Test.YtmcddoolniaehaaGreatMD04
import Derived.Test.YtmcddoolniaehaaGreatMD12
import Derived.Test.YtmcddoolniaehaaGreatMD13
section
namespace Go.Proofs.YtmcddoolniaehaaGreat.S
open Go.RowKit Go.Proofs.YtmcddoolniaehaaGreatW.PrintWords Go.Proofs.YtmcddoolniaehaaGreatW.PrintLast Go.Proofs.YtmcddoolniaehaaGreatW.PrintMore Go.Proofs.YtmcddoolniaehaaGreatW
set_option linter.unusedVariables false
set_option linter.unusedSimpArgs false
def doFuel (l0 : List (S73)) (l1 : List (S47)) (l2 : List (S43)) : Nat := l0.length + l1.length + l2.length + 100
def state_Do.f (l0_0 : List (S73)) (l0_1 : List (S47)) (l0_2 : List (S43)) (a1_0 : Int) (a1_1 : ByteArray) (a1_2 : ByteArray) (a1_3 : Int) (a2_0 : Int) (a2_1 : Int) (a3 : Int) : Option ((List (S73)) × (List (S47)) × (List (S43)) × Int) :=
  (state_May.f (doFuel l0_0 l0_1 l0_2) l0_0 l0_1 l0_2).bind fun m => (ops_May.f a1_0 a1_1 a1_2 a1_3).bind fun o => (state_event.f a2_0 a2_1).bind fun e => (state_own.f l0_0 l0_1 l0_2).bind fun _ =>
    if m = true ∧ o = true ∧ e = true ∧ 1 ≤ a3 then
      if a1_0 = 0 then (ctr_Inc.f l0_0 a1_1 a1_3).bind fun c => some (c, l0_1, l0_2, 0)
      else if a1_0 = 1 then (reg_Put.f (doFuel l0_0 l0_1 l0_2) l0_1 a1_1 a1_2 a3 a2_0 a2_1).bind fun c => some (l0_0, c, l0_2, 0)
      else if a1_0 = 2 then (pair_Add.f l0_2 a1_1 a1_2 a2_0 a2_1).bind fun c => some (l0_0, l0_1, c, 0)
      else (pair_Del.f l0_2 a1_1 a1_2).bind fun c => some (l0_0, l0_1, c, 0)
    else some ([], [], [], 1)
theorem boxes5 (w : World) (o0 o1 o2 o3 o4 : Obj) : ((((((w.alloc o0).alloc o1).alloc o2).alloc o3).alloc o4).heap[w.heap.size]? = some o0 ∧ (((((w.alloc o0).alloc o1).alloc o2).alloc o3).alloc o4).heap[w.heap.size + 1]? = some o1 ∧ (((((w.alloc o0).alloc o1).alloc o2).alloc o3).alloc o4).heap[w.heap.size + 2]? = some o2 ∧ (((((w.alloc o0).alloc o1).alloc o2).alloc o3).alloc o4).heap[w.heap.size + 3]? = some o3 ∧ (((((w.alloc o0).alloc o1).alloc o2).alloc o3).alloc o4).heap[w.heap.size + 4]? = some o4) ∧ Below w.heap.size w (((((w.alloc o0).alloc o1).alloc o2).alloc o3).alloc o4) := by
  have h1 := blk_new (w.alloc o0) o1
  have h2 := blk_new ((w.alloc o0).alloc o1) o2
  have h3 := blk_new (((w.alloc o0).alloc o1).alloc o2) o3
  have h4 := blk_new ((((w.alloc o0).alloc o1).alloc o2).alloc o3) o4
  simp only [World.size_alloc, Nat.add_assoc, Nat.reduceAdd] at h1 h2 h3 h4
  exact ⟨⟨blk_alloc (blk_alloc (blk_alloc (blk_alloc (blk_new w o0) _) _) _) _, blk_alloc (blk_alloc (blk_alloc h1 _) _) _, blk_alloc (blk_alloc h2 _) _, blk_alloc h3 _, h4⟩, below_alloc (below_alloc (below_alloc (below_alloc (below_alloc (Below.refl _ w) _) _) _) _) _⟩
theorem cells4 {w : World} {g t : Nat} {v0 v1 v2 v3 : Value} (h : w.heap[g]? = some (.cells #[v0, v1, v2, v3] t (0, 0))) : w.cell? ⟨g, 0, none⟩ = some v0 ∧ w.cell? ⟨g, 1, none⟩ = some v1 ∧ w.cell? ⟨g, 2, none⟩ = some v2 ∧ w.cell? ⟨g, 3, none⟩ = some v3 := ⟨blk_cell h 0, blk_cell h 1, blk_cell h 2, blk_cell h 3⟩
theorem op_known {k : Int} {key elem : ByteArray} {n : Int} (h : opB k key elem n = true) : k = 0 ∨ k = 1 ∨ k = 2 ∨ k = 3 := by
  unfold opB at h
  by_cases h0 : k = 0
  · exact .inl h0
  · rw [if_neg h0] at h
    split at h
    · rename_i q; exact .inr q
    · cases h
theorem opB_of {k : Int} {key elem : ByteArray} {n : Int} (h : ops_May.f k key elem n = some true) : opB k key elem n = true := by
  unfold ops_May.f at h
  split at h
  · exact Option.some.inj h
  · cases h
theorem info_state : (Tryz.prog.info? 26).map (·.size) = some 3 := by kernel_rfl
theorem info_do : (Tryz.prog.info? 64).map (·.size) = some 4 := by kernel_rfl
theorem R_set1 {α : Type} {d : Kd α} {e base : Nat} {ok : Nat → Prop} {W : World} {v : Value} {xs : List α} (h : d.R e W base ok v xs) {b t : Nat} {cs : Array Value} (hb : W.heap[b]? = some (.cells cs t (0, 0))) (hne : ∀ q, q ∈ e :: d.E → q ≠ t) (j : Nat) (u : Value) : d.R e (W.setCell ⟨b, j, none⟩ u) base ok v xs :=
  R_far h hb hne (fun k hk => Below.heap_setCell W ⟨b, j, none⟩ u k hk)
theorem R_set3 {α : Type} {d : Kd α} {e base : Nat} {ok : Nat → Prop} {W : World} {v : Value} {xs : List α} (h : d.R e W base ok v xs) {b t : Nat} {cs : Array Value} (hb : W.heap[b]? = some (.cells cs t (0, 0))) (hne : ∀ q, q ∈ e :: d.E → q ≠ t) (u0 u1 u2 : Value) : d.R e (((W.setCell ⟨b, 0, none⟩ u0).setCell ⟨b, 1, none⟩ u1).setCell ⟨b, 2, none⟩ u2) base ok v xs :=
  R_far h hb hne (fun k hk => ((Below.heap_setCell _ ⟨b, 2, none⟩ u2 k hk).trans (Below.heap_setCell _ ⟨b, 1, none⟩ u1 k hk)).trans (Below.heap_setCell _ ⟨b, 0, none⟩ u0 k hk))
set_option maxHeartbeats 4000000 in
set_option maxRecDepth 100000 in
theorem state_Do.calls (A0_0 : Option Addr) (c0_0 : Nat) (l0_0 : List (S73)) (A0_1 : Option Addr) (c0_1 : Nat) (l0_1 : List (S47)) (A0_2 : Option Addr) (c0_2 : Nat) (l0_2 : List (S43)) (a1_0 : Int) (a1_1 : ByteArray) (a1_2 : ByteArray) (a1_3 : Int) (a2_0 : Int) (a2_1 : Int) (a3 : Int) (r1 : List (S73)) (r2 : List (S47)) (r3 : List (S43)) (r4 : Int) (w : World) (hr0_0 : Kd.C k73 w A0_0 l0_0.length l0_0) (hc0_0 : l0_0.length ≤ c0_0) (hr0_1 : Kd.C k47 w A0_1 l0_1.length l0_1) (hc0_1 : l0_1.length ≤ c0_1) (hr0_2 : Kd.C k43 w A0_2 l0_2.length l0_2) (hc0_2 : l0_2.length ≤ c0_2) (h : state_Do.f l0_0 l0_1 l0_2 a1_0 a1_1 a1_2 a1_3 a2_0 a2_1 a3 = some (r1, r2, r3, r4)) :
    Calls Tryz.prog 11 #[.agg #[.slice A0_0 l0_0.length c0_0, .slice A0_1 l0_1.length c0_1, .slice A0_2 l0_2.length c0_2], .agg #[.int .i64 a1_0, .string a1_1, .string a1_2, .int .i64 a1_3], .agg #[.int .i64 a2_0, .int .i64 a2_1], .int .i64 a3] w fun e w' => ∃ v0_ v1_ v2_ : Value, e = .returned (.tuple #[.agg #[v0_, v1_, v2_], .int .i64 r4]) ∧ Kd.R k73 73 w' w.heap.size (fun _ => True) v0_ r1 ∧ Kd.R k47 47 w' w.heap.size (fun _ => True) v1_ r2 ∧ Kd.R k43 43 w' w.heap.size (fun _ => True) v2_ r3 ∧ Below w.heap.size w w' := by
  unfold state_Do.f at h
  rw [Option.bind_eq_some_iff] at h; obtain ⟨m, hm, h⟩ := h
  rw [Option.bind_eq_some_iff] at h; obtain ⟨o, ho, h⟩ := h
  rw [Option.bind_eq_some_iff] at h; obtain ⟨ev, hev, h⟩ := h
  rw [Option.bind_eq_some_iff] at h; obtain ⟨p, hp, h⟩ := h
  have hp2 : p = (l0_0, l0_1, l0_2) := by
    unfold state_own.f at hp
    split at hp
    · cases hp; rfl
    · cases hp
  rw [hp2] at hp
  clear hp2 p
  have HM := Aside0.mk (fun (W : World) (hb : Below w.heap.size w W) => state_May.calls (doFuel l0_0 l0_1 l0_2) A0_0 c0_0 l0_0 A0_1 c0_1 l0_1 A0_2 c0_2 l0_2 m W (Kd.C_below hr0_0 hb) hc0_0 (Kd.C_below hr0_1 hb) hc0_1 (Kd.C_below hr0_2 hb) hc0_2 hm)
  have HO := Aside0.mk (fun (W : World) => ops_May.calls a1_0 a1_1 a1_2 a1_3 o W ho)
  have HE := Aside0.mk (fun (W : World) => state_event.calls a2_0 a2_1 ev W hev)
  have HW := Aside0.mk (fun (W : World) (hb : Below w.heap.size w W) => state_own.calls A0_0 c0_0 l0_0 A0_1 c0_1 l0_1 A0_2 c0_2 l0_2 l0_0 l0_1 l0_2 W (Kd.C_below hr0_0 hb) hc0_0 (Kd.C_below hr0_1 hb) hc0_1 (Kd.C_below hr0_2 hb) hc0_2 hp)
  have HOV := Aside0.mk ho
  have h := Aside0.mk h
  clear hm ho hev hp hr0_0 hr0_1 hr0_2
  go_enter Tryz.func11, Tryz.ntmps11
  go_wp2_with fail
  obtain ⟨⟨b0, b1, b2, b3, b4⟩, hB⟩ := boxes5 w (.cells #[.slice A0_0 l0_0.length c0_0, .slice A0_1 l0_1.length c0_1, .slice A0_2 l0_2.length c0_2] 26) (.cells #[.int .i64 a1_0, .string a1_1, .string a1_2, .int .i64 a1_3] 28) (.cells #[.int .i64 a2_0, .int .i64 a2_1] 30) (.cells #[.int .i64 a3] 3) (.cells #[.slice none 0 0, .slice none 0 0, .slice none 0 0] 26)
  revert b0 b1 b2 b3 b4 hB
  generalize (((((w.alloc (.cells #[.slice A0_0 l0_0.length c0_0, .slice A0_1 l0_1.length c0_1, .slice A0_2 l0_2.length c0_2] 26)).alloc (.cells #[.int .i64 a1_0, .string a1_1, .string a1_2, .int .i64 a1_3] 28)).alloc (.cells #[.int .i64 a2_0, .int .i64 a2_1] 30)).alloc (.cells #[.int .i64 a3] 3)).alloc (.cells #[.slice none 0 0, .slice none 0 0, .slice none 0 0] 26)) = W
  intro hB b0 b1 b2 b3 b4
  refine (HM.out W hB).mono ?_
  rintro e w1 ⟨rfl, hb1⟩
  replace b0 := blk_below b0 hb1
  replace b1 := blk_below b1 hb1
  replace b2 := blk_below b2 hb1
  replace b3 := blk_below b3 hb1
  replace b4 := blk_below b4 hb1
  replace hB := below_step hB hb1
  clear hb1 HM W
  cases m with
  | false =>
    replace h := h.out
    simp only [Bool.false_eq_true, false_and, if_false, Option.some.injEq, Prod.mk.injEq] at h
    obtain ⟨rfl, rfl, rfl, rfl⟩ := h
    obtain ⟨x0, x1, x2⟩ := cells3 b4
    obtain ⟨y0, y1, y2⟩ := frozen3 b4
    have hz := set3 (.slice none 0 0) (.slice none 0 0) (.slice none 0 0) b4
    have hB5 := below3 (b := w.heap.size + 4) (.slice none 0 0) (.slice none 0 0) (.slice none 0 0) hB (by omega)
    go_wp2
    obtain ⟨z0, z1, z2⟩ := cells3 hz
    have HB5 := Aside0.mk hB5
    clear hz hB5 x0 x1 x2 y0 y1 y2
    revert z0 z1 z2 HB5
    generalize (((w1.setCell ⟨w.heap.size + 4, 0, none⟩ (.slice none 0 0)).setCell ⟨w.heap.size + 4, 1, none⟩ (.slice none 0 0)).setCell ⟨w.heap.size + 4, 2, none⟩ (.slice none 0 0)) = U
    intro z0 z1 z2 HB5
    exact bodyPost_ret (v := .tuple #[.agg #[.slice none 0 0, .slice none 0 0, .slice none 0 0], .int .i64 1]) (by simp [results, Tryz.results11, go_sem, z0, z1, z2]) rfl ⟨_, _, _, rfl, Kd.R_nil _ _ _ _ _, Kd.R_nil _ _ _ _ _, Kd.R_nil _ _ _ _ _, HB5.out⟩
  | true =>
  obtain ⟨o0, o1, o2, o3⟩ := cells4 b1
  go_wp2_with fail
  clear o0 o1 o2 o3
  refine (HO.out w1).mono ?_
  rintro e w2 ⟨rfl, hb2⟩
  replace b0 := blk_below b0 hb2
  replace b1 := blk_below b1 hb2
  replace b2 := blk_below b2 hb2
  replace b3 := blk_below b3 hb2
  replace b4 := blk_below b4 hb2
  replace hB := below_step hB hb2
  clear hb2 HO w1
  cases o with
  | false =>
    replace h := h.out
    simp only [Bool.false_eq_true, false_and, and_false, if_false, Option.some.injEq, Prod.mk.injEq] at h
    obtain ⟨rfl, rfl, rfl, rfl⟩ := h
    obtain ⟨x0, x1, x2⟩ := cells3 b4
    obtain ⟨y0, y1, y2⟩ := frozen3 b4
    have hz := set3 (.slice none 0 0) (.slice none 0 0) (.slice none 0 0) b4
    have hB5 := below3 (b := w.heap.size + 4) (.slice none 0 0) (.slice none 0 0) (.slice none 0 0) hB (by omega)
    go_wp2
    obtain ⟨z0, z1, z2⟩ := cells3 hz
    have HB5 := Aside0.mk hB5
    clear hz hB5 x0 x1 x2 y0 y1 y2
    revert z0 z1 z2 HB5
    generalize (((w2.setCell ⟨w.heap.size + 4, 0, none⟩ (.slice none 0 0)).setCell ⟨w.heap.size + 4, 1, none⟩ (.slice none 0 0)).setCell ⟨w.heap.size + 4, 2, none⟩ (.slice none 0 0)) = U
    intro z0 z1 z2 HB5
    exact bodyPost_ret (v := .tuple #[.agg #[.slice none 0 0, .slice none 0 0, .slice none 0 0], .int .i64 1]) (by simp [results, Tryz.results11, go_sem, z0, z1, z2]) rfl ⟨_, _, _, rfl, Kd.R_nil _ _ _ _ _, Kd.R_nil _ _ _ _ _, Kd.R_nil _ _ _ _ _, HB5.out⟩
  | true =>
  have e0 : w2.cell? ⟨w.heap.size + 2, 0, none⟩ = some (.int .i64 a2_0) := blk_cell b2 0
  have e1 : w2.cell? ⟨w.heap.size + 2, 1, none⟩ = some (.int .i64 a2_1) := blk_cell b2 1
  go_wp2_with fail
  clear e0 e1
  refine (HE.out w2).mono ?_
  rintro e w3 ⟨rfl, hb3⟩
  replace b0 := blk_below b0 hb3
  replace b1 := blk_below b1 hb3
  replace b2 := blk_below b2 hb3
  replace b3 := blk_below b3 hb3
  replace b4 := blk_below b4 hb3
  replace hB := below_step hB hb3
  clear hb3 HE w2
  cases ev with
  | false =>
    replace h := h.out
    simp only [Bool.false_eq_true, false_and, and_false, if_false, Option.some.injEq, Prod.mk.injEq] at h
    obtain ⟨rfl, rfl, rfl, rfl⟩ := h
    obtain ⟨x0, x1, x2⟩ := cells3 b4
    obtain ⟨y0, y1, y2⟩ := frozen3 b4
    have hz := set3 (.slice none 0 0) (.slice none 0 0) (.slice none 0 0) b4
    have hB5 := below3 (b := w.heap.size + 4) (.slice none 0 0) (.slice none 0 0) (.slice none 0 0) hB (by omega)
    go_wp2
    obtain ⟨z0, z1, z2⟩ := cells3 hz
    have HB5 := Aside0.mk hB5
    clear hz hB5 x0 x1 x2 y0 y1 y2
    revert z0 z1 z2 HB5
    generalize (((w3.setCell ⟨w.heap.size + 4, 0, none⟩ (.slice none 0 0)).setCell ⟨w.heap.size + 4, 1, none⟩ (.slice none 0 0)).setCell ⟨w.heap.size + 4, 2, none⟩ (.slice none 0 0)) = U
    intro z0 z1 z2 HB5
    exact bodyPost_ret (v := .tuple #[.agg #[.slice none 0 0, .slice none 0 0, .slice none 0 0], .int .i64 1]) (by simp [results, Tryz.results11, go_sem, z0, z1, z2]) rfl ⟨_, _, _, rfl, Kd.R_nil _ _ _ _ _, Kd.R_nil _ _ _ _ _, Kd.R_nil _ _ _ _ _, HB5.out⟩
  | true =>
  have g0 : w3.cell? ⟨w.heap.size + 3, 0, none⟩ = some (.int .i64 a3) := blk_cell b3 0
  by_cases hgen : 1 ≤ a3
  rotate_left
  · have hlt : a3 < 1 := by omega
    replace h := h.out
    simp only [true_and, if_neg hgen, Option.some.injEq, Prod.mk.injEq] at h
    obtain ⟨rfl, rfl, rfl, rfl⟩ := h
    obtain ⟨x0, x1, x2⟩ := cells3 b4
    obtain ⟨y0, y1, y2⟩ := frozen3 b4
    have hz := set3 (.slice none 0 0) (.slice none 0 0) (.slice none 0 0) b4
    have hB5 := below3 (b := w.heap.size + 4) (.slice none 0 0) (.slice none 0 0) (.slice none 0 0) hB (by omega)
    go_wp2
    obtain ⟨z0, z1, z2⟩ := cells3 hz
    have HB5 := Aside0.mk hB5
    clear hz hB5 x0 x1 x2 y0 y1 y2
    revert z0 z1 z2 HB5
    generalize (((w3.setCell ⟨w.heap.size + 4, 0, none⟩ (.slice none 0 0)).setCell ⟨w.heap.size + 4, 1, none⟩ (.slice none 0 0)).setCell ⟨w.heap.size + 4, 2, none⟩ (.slice none 0 0)) = U
    intro z0 z1 z2 HB5
    exact bodyPost_ret (v := .tuple #[.agg #[.slice none 0 0, .slice none 0 0, .slice none 0 0], .int .i64 1]) (by simp [results, Tryz.results11, go_sem, z0, z1, z2]) rfl ⟨_, _, _, rfl, Kd.R_nil _ _ _ _ _, Kd.R_nil _ _ _ _ _, Kd.R_nil _ _ _ _ _, HB5.out⟩
  have hnl : ¬ (a3 < 1) := by omega
  have h1 := h.out
  simp only [true_and, if_pos hgen] at h1
  have HH := Aside0.mk h1
  clear h h1
  obtain ⟨s0, s1, s2⟩ := cells3 b0
  go_wp2_with fail
  clear g0 s0 s1 s2
  refine (HW.out w3 hB).mono ?_
  rintro e w4 ⟨v0, v1, v2, rfl, hc, hr, hp, hb4⟩
  replace b1 := blk_below b1 hb4
  replace b2 := blk_below b2 hb4
  replace b3 := blk_below b3 hb4
  replace b4 := blk_below b4 hb4
  have hle := below_size hB
  replace hc := Kd.R_lower hc hle
  replace hr := Kd.R_lower hr hle
  replace hp := Kd.R_lower hp hle
  replace hB := below_step hB hb4
  clear hb4 HW b0 w3 hle
  obtain ⟨Ac, cc, rfl, hcc, _⟩ := Kd.R_reads hc
  obtain ⟨Ar, cr, rfl, hcr, _⟩ := Kd.R_reads hr
  obtain ⟨Ap, cp, rfl, hcp, _⟩ := Kd.R_reads hp
  have HC := Aside0.mk hc
  have HR := Aside0.mk hr
  have HP := Aside0.mk hp
  have B1 := Aside0.mk b1
  have B2 := Aside0.mk b2
  have B3 := Aside0.mk b3
  have B4 := Aside0.mk b4
  have HB := Aside0.mk hB
  have HL0 := Aside0.mk (blk_lt b4)
  clear hc hr hp b1 b2 b3 b4 hB
  have hko := Aside0.mk (op_known (opB_of HOV.out))
  clear HOV
  rcases hko.out with rfl | rfl | rfl | rfl
  · have h := HH.out
    simp only [if_pos, if_true, if_false] at h
    rw [Option.bind_eq_some_iff] at h
    obtain ⟨q, hq, h⟩ := h
    simp only [Option.some.injEq, Prod.mk.injEq] at h
    obtain ⟨rfl, rfl, rfl, rfl⟩ := h
    have HQ := Aside0.mk hq
    clear hq
    go_wp2_with (first
      | (refine wpl_store_newA 26 w4 _ [.slice Ac l0_0.length cc, .slice Ar l0_1.length cr, .slice Ap l0_2.length cp] (by simp [Value.oneCell']) info_state (by rfl) (by rfl) (by rfl) _ _ (by rfl) (by rfl) (by rfl) ?_; intro w5 hb5 hB5 hs5; have T5 := Aside0.mk hb5; have HC5 := Aside0.mk (Kd.R_below HC.out hB5); have HR5 := Aside0.mk (Kd.R_below HR.out hB5); have HP5 := Aside0.mk (Kd.R_below HP.out hB5); have B15 := Aside0.mk (blk_below B1.out hB5); have B25 := Aside0.mk (blk_below B2.out hB5); have B35 := Aside0.mk (blk_below B3.out hB5); have B45 := Aside0.mk (blk_below B4.out hB5); have HB5 := Aside0.mk (below_step HB.out hB5); have HL5 := Aside0.mk hs5; clear hb5 hB5 hs5 HC HR HP B1 B2 B3 B4; go_frame)
      | (refine wpl_store_newA 64 w5 _ [.func (.func 30) #[] #[.pointer (some ⟨w4.heap.size, 0, none⟩), .pointer (some ⟨w.heap.size + 1, 0, none⟩)], .func (.func 32) #[] #[.pointer (some ⟨w4.heap.size, 0, none⟩), .pointer (some ⟨w.heap.size + 1, 0, none⟩), .pointer (some ⟨w.heap.size + 3, 0, none⟩), .pointer (some ⟨w.heap.size + 2, 0, none⟩)], .func (.func 34) #[] #[.pointer (some ⟨w4.heap.size, 0, none⟩), .pointer (some ⟨w.heap.size + 1, 0, none⟩), .pointer (some ⟨w.heap.size + 2, 0, none⟩)], .func (.func 36) #[] #[.pointer (some ⟨w4.heap.size, 0, none⟩), .pointer (some ⟨w.heap.size + 1, 0, none⟩)]] (by simp [Value.oneCell']) info_do (by rfl) (by rfl) (by rfl) _ _ (by rfl) (by rfl) (by rfl) ?_; intro w6 hb6 hB6 hs6; have T6 := Aside0.mk (blk_below T5.out hB6); have F6 := Aside0.mk hb6; have HC6 := Aside0.mk (Kd.R_below HC5.out hB6); have HR6 := Aside0.mk (Kd.R_below HR5.out hB6); have HP6 := Aside0.mk (Kd.R_below HP5.out hB6); have B16 := Aside0.mk (blk_below B15.out hB6); have B26 := Aside0.mk (blk_below B25.out hB6); have B36 := Aside0.mk (blk_below B35.out hB6); have B46 := Aside0.mk (blk_below B45.out hB6); have HB6 := Aside0.mk (below_step HB5.out hB6); have k6 : w6.cell? ⟨w.heap.size + 1, 0, none⟩ = some (.int .i64 0) := blk_cell B16.out 0; have f6 := blk_cell F6.out 0; simp only [List.getElem?_toArray, List.getElem?_cons_zero, List.getElem?_cons_succ] at f6; clear hb6 hB6 hs6 T5 HC5 HR5 HP5 B15 B25 B35 B45 HB5; go_frame)
      | (go_at_call 30; refine (do1_calls (doFuel l0_0 l0_1 l0_2) w4.heap.size (w.heap.size + 1) (w.heap.size + 3) (w.heap.size + 2) Ac cc l0_0 q (.slice Ar l0_1.length cr) (.slice Ap l0_2.length cp) 0 a1_1 a1_2 a1_3 a3 a2_0 a2_1 w6 T6.out B16.out (by obtain ⟨A', c', e, _, hC⟩ := Kd.R_reads HC6.out; cases e; exact hC) hcc HQ.out).mono ?_; rintro e w8 ⟨rfl, v0, w7, hr7, hb7, rfl⟩; obtain ⟨An, cn, rfl, hcn, _⟩ := Kd.R_reads hr7; have hle := below_size HB6.out; have T7 := blk_below T6.out hb7; have B47 := Aside0.mk (blk_far (blk_below B46.out hb7) (p := ⟨w4.heap.size, 0, none⟩) (show w.heap.size + 4 ≠ w4.heap.size by have := HL0.out; omega) (.slice An q.length cn)); have HN8 := Aside0.mk (R_set1 (Kd.R_lower hr7 hle) T7 neC 0 (.slice An q.length cn)); have HR8 := Aside0.mk (R_set1 (Kd.R_below HR6.out hb7) T7 neR 0 (.slice An q.length cn)); have HP8 := Aside0.mk (R_set1 (Kd.R_below HP6.out hb7) T7 neP 0 (.slice An q.length cn)); have T8 := blk_set T7 0 (.slice An q.length cn); simp only [List.setIfInBounds_toArray, List.set_cons_zero, List.set_cons_succ] at T8; have HB8 := Aside0.mk (below_set (j := 0) (v := .slice An q.length cn) (below_step HB6.out hb7) (show w.heap.size ≤ w4.heap.size by have := HL0.out; omega)); clear hr7 hb7 T7 k6 f6 hle T6 F6 HC6 HR6 HP6 B16 B26 B36 B46 HB6; revert B47 HN8 HR8 HP8 T8 HB8; generalize w7.setCell ⟨w4.heap.size, 0, none⟩ (.slice An q.length cn) = V; intro B47 HN8 HR8 HP8 T8 HB8; obtain ⟨t0, t1, t2⟩ := cells3 T8; obtain ⟨x0, x1, x2⟩ := cells3 B47.out; obtain ⟨y0, y1, y2⟩ := frozen3 B47.out; clear T8))
    have hz := set3 (.slice An q.length cn) (.slice Ar l0_1.length cr) (.slice Ap l0_2.length cp) B47.out
    have HB9 := Aside0.mk (below3 (b := w.heap.size + 4) (.slice An q.length cn) (.slice Ar l0_1.length cr) (.slice Ap l0_2.length cp) HB8.out (by omega))
    have HN9 := Aside0.mk (R_set3 HN8.out B47.out neC (.slice An q.length cn) (.slice Ar l0_1.length cr) (.slice Ap l0_2.length cp))
    have HR9 := Aside0.mk (R_set3 HR8.out B47.out neR (.slice An q.length cn) (.slice Ar l0_1.length cr) (.slice Ap l0_2.length cp))
    have HP9 := Aside0.mk (R_set3 HP8.out B47.out neP (.slice An q.length cn) (.slice Ar l0_1.length cr) (.slice Ap l0_2.length cp))
    obtain ⟨z0, z1, z2⟩ := cells3 hz
    clear hz x0 x1 x2 y0 y1 y2 t0 t1 t2 B47 HN8 HR8 HP8 HB8
    revert z0 z1 z2 HB9 HN9 HR9 HP9
    generalize (((V.setCell ⟨w.heap.size + 4, 0, none⟩ (.slice An q.length cn)).setCell ⟨w.heap.size + 4, 1, none⟩ (.slice Ar l0_1.length cr)).setCell ⟨w.heap.size + 4, 2, none⟩ (.slice Ap l0_2.length cp)) = U
    intro HB9 HN9 HR9 HP9 z0 z1 z2
    exact bodyPost_ret (v := .tuple #[.agg #[.slice An q.length cn, .slice Ar l0_1.length cr, .slice Ap l0_2.length cp], .int .i64 0]) (by simp [results, Tryz.results11, go_sem, z0, z1, z2]) rfl ⟨_, _, _, rfl, HN9.out, HR9.out, HP9.out, HB9.out⟩
  · have h := HH.out
    simp only [show ¬ ((1 : Int) = 0) from by decide, if_true, if_false] at h
    rw [Option.bind_eq_some_iff] at h
    obtain ⟨q, hq, h⟩ := h
    simp only [Option.some.injEq, Prod.mk.injEq] at h
    obtain ⟨rfl, rfl, rfl, rfl⟩ := h
    have HQ := Aside0.mk hq
    clear hq
    go_wp2_with (first
      | (refine wpl_store_newA 26 w4 _ [.slice Ac l0_0.length cc, .slice Ar l0_1.length cr, .slice Ap l0_2.length cp] (by simp [Value.oneCell']) info_state (by rfl) (by rfl) (by rfl) _ _ (by rfl) (by rfl) (by rfl) ?_; intro w5 hb5 hB5 hs5; have T5 := Aside0.mk hb5; have HC5 := Aside0.mk (Kd.R_below HC.out hB5); have HR5 := Aside0.mk (Kd.R_below HR.out hB5); have HP5 := Aside0.mk (Kd.R_below HP.out hB5); have B15 := Aside0.mk (blk_below B1.out hB5); have B25 := Aside0.mk (blk_below B2.out hB5); have B35 := Aside0.mk (blk_below B3.out hB5); have B45 := Aside0.mk (blk_below B4.out hB5); have HB5 := Aside0.mk (below_step HB.out hB5); have HL5 := Aside0.mk hs5; clear hb5 hB5 hs5 HC HR HP B1 B2 B3 B4; go_frame)
      | (refine wpl_store_newA 64 w5 _ [.func (.func 30) #[] #[.pointer (some ⟨w4.heap.size, 0, none⟩), .pointer (some ⟨w.heap.size + 1, 0, none⟩)], .func (.func 32) #[] #[.pointer (some ⟨w4.heap.size, 0, none⟩), .pointer (some ⟨w.heap.size + 1, 0, none⟩), .pointer (some ⟨w.heap.size + 3, 0, none⟩), .pointer (some ⟨w.heap.size + 2, 0, none⟩)], .func (.func 34) #[] #[.pointer (some ⟨w4.heap.size, 0, none⟩), .pointer (some ⟨w.heap.size + 1, 0, none⟩), .pointer (some ⟨w.heap.size + 2, 0, none⟩)], .func (.func 36) #[] #[.pointer (some ⟨w4.heap.size, 0, none⟩), .pointer (some ⟨w.heap.size + 1, 0, none⟩)]] (by simp [Value.oneCell']) info_do (by rfl) (by rfl) (by rfl) _ _ (by rfl) (by rfl) (by rfl) ?_; intro w6 hb6 hB6 hs6; have T6 := Aside0.mk (blk_below T5.out hB6); have F6 := Aside0.mk hb6; have HC6 := Aside0.mk (Kd.R_below HC5.out hB6); have HR6 := Aside0.mk (Kd.R_below HR5.out hB6); have HP6 := Aside0.mk (Kd.R_below HP5.out hB6); have B16 := Aside0.mk (blk_below B15.out hB6); have B26 := Aside0.mk (blk_below B25.out hB6); have B36 := Aside0.mk (blk_below B35.out hB6); have B46 := Aside0.mk (blk_below B45.out hB6); have HB6 := Aside0.mk (below_step HB5.out hB6); have k6 : w6.cell? ⟨w.heap.size + 1, 0, none⟩ = some (.int .i64 1) := blk_cell B16.out 0; have f6 := blk_cell F6.out 1; simp only [List.getElem?_toArray, List.getElem?_cons_zero, List.getElem?_cons_succ] at f6; clear hb6 hB6 hs6 T5 HC5 HR5 HP5 B15 B25 B35 B45 HB5; go_frame)
      | (go_at_call 32; refine (do2_calls (doFuel l0_0 l0_1 l0_2) w4.heap.size (w.heap.size + 1) (w.heap.size + 3) (w.heap.size + 2) Ar cr l0_1 q (.slice Ac l0_0.length cc) (.slice Ap l0_2.length cp) 1 a1_1 a1_2 a1_3 a3 a2_0 a2_1 w6 T6.out B16.out B26.out B36.out (by obtain ⟨A', c', e, _, hC⟩ := Kd.R_reads HR6.out; cases e; exact hC) hcr HQ.out).mono ?_; rintro e w8 ⟨rfl, v0, w7, hr7, hb7, rfl⟩; obtain ⟨An, cn, rfl, hcn, _⟩ := Kd.R_reads hr7; have hle := below_size HB6.out; have T7 := blk_below T6.out hb7; have B47 := Aside0.mk (blk_far (blk_below B46.out hb7) (p := ⟨w4.heap.size, 1, none⟩) (show w.heap.size + 4 ≠ w4.heap.size by have := HL0.out; omega) (.slice An q.length cn)); have HN8 := Aside0.mk (R_set1 (Kd.R_lower hr7 hle) T7 neR 1 (.slice An q.length cn)); have HC8 := Aside0.mk (R_set1 (Kd.R_below HC6.out hb7) T7 neC 1 (.slice An q.length cn)); have HP8 := Aside0.mk (R_set1 (Kd.R_below HP6.out hb7) T7 neP 1 (.slice An q.length cn)); have T8 := blk_set T7 1 (.slice An q.length cn); simp only [List.setIfInBounds_toArray, List.set_cons_zero, List.set_cons_succ] at T8; have HB8 := Aside0.mk (below_set (j := 1) (v := .slice An q.length cn) (below_step HB6.out hb7) (show w.heap.size ≤ w4.heap.size by have := HL0.out; omega)); clear hr7 hb7 T7 k6 f6 hle T6 F6 HC6 HR6 HP6 B16 B26 B36 B46 HB6; revert B47 HN8 HC8 HP8 T8 HB8; generalize w7.setCell ⟨w4.heap.size, 1, none⟩ (.slice An q.length cn) = V; intro B47 HN8 HC8 HP8 T8 HB8; obtain ⟨t0, t1, t2⟩ := cells3 T8; obtain ⟨x0, x1, x2⟩ := cells3 B47.out; obtain ⟨y0, y1, y2⟩ := frozen3 B47.out; clear T8))
    have hz := set3 (.slice Ac l0_0.length cc) (.slice An q.length cn) (.slice Ap l0_2.length cp) B47.out
    have HB9 := Aside0.mk (below3 (b := w.heap.size + 4) (.slice Ac l0_0.length cc) (.slice An q.length cn) (.slice Ap l0_2.length cp) HB8.out (by omega))
    have HN9 := Aside0.mk (R_set3 HN8.out B47.out neR (.slice Ac l0_0.length cc) (.slice An q.length cn) (.slice Ap l0_2.length cp))
    have HC9 := Aside0.mk (R_set3 HC8.out B47.out neC (.slice Ac l0_0.length cc) (.slice An q.length cn) (.slice Ap l0_2.length cp))
    have HP9 := Aside0.mk (R_set3 HP8.out B47.out neP (.slice Ac l0_0.length cc) (.slice An q.length cn) (.slice Ap l0_2.length cp))
    obtain ⟨z0, z1, z2⟩ := cells3 hz
    clear hz x0 x1 x2 y0 y1 y2 t0 t1 t2 B47 HN8 HC8 HP8 HB8
    revert z0 z1 z2 HB9 HN9 HC9 HP9
    generalize (((V.setCell ⟨w.heap.size + 4, 0, none⟩ (.slice Ac l0_0.length cc)).setCell ⟨w.heap.size + 4, 1, none⟩ (.slice An q.length cn)).setCell ⟨w.heap.size + 4, 2, none⟩ (.slice Ap l0_2.length cp)) = U
    intro HB9 HN9 HC9 HP9 z0 z1 z2
    exact bodyPost_ret (v := .tuple #[.agg #[.slice Ac l0_0.length cc, .slice An q.length cn, .slice Ap l0_2.length cp], .int .i64 0]) (by simp [results, Tryz.results11, go_sem, z0, z1, z2]) rfl ⟨_, _, _, rfl, HC9.out, HN9.out, HP9.out, HB9.out⟩
  · have h := HH.out
    simp only [show ¬ ((2 : Int) = 0) from by decide, show ¬ ((2 : Int) = 1) from by decide, if_true, if_false] at h
    rw [Option.bind_eq_some_iff] at h
    obtain ⟨q, hq, h⟩ := h
    simp only [Option.some.injEq, Prod.mk.injEq] at h
    obtain ⟨rfl, rfl, rfl, rfl⟩ := h
    have HQ := Aside0.mk hq
    clear hq
    go_wp2_with (first
      | (refine wpl_store_newA 26 w4 _ [.slice Ac l0_0.length cc, .slice Ar l0_1.length cr, .slice Ap l0_2.length cp] (by simp [Value.oneCell']) info_state (by rfl) (by rfl) (by rfl) _ _ (by rfl) (by rfl) (by rfl) ?_; intro w5 hb5 hB5 hs5; have T5 := Aside0.mk hb5; have HC5 := Aside0.mk (Kd.R_below HC.out hB5); have HR5 := Aside0.mk (Kd.R_below HR.out hB5); have HP5 := Aside0.mk (Kd.R_below HP.out hB5); have B15 := Aside0.mk (blk_below B1.out hB5); have B25 := Aside0.mk (blk_below B2.out hB5); have B35 := Aside0.mk (blk_below B3.out hB5); have B45 := Aside0.mk (blk_below B4.out hB5); have HB5 := Aside0.mk (below_step HB.out hB5); have HL5 := Aside0.mk hs5; clear hb5 hB5 hs5 HC HR HP B1 B2 B3 B4; go_frame)
      | (refine wpl_store_newA 64 w5 _ [.func (.func 30) #[] #[.pointer (some ⟨w4.heap.size, 0, none⟩), .pointer (some ⟨w.heap.size + 1, 0, none⟩)], .func (.func 32) #[] #[.pointer (some ⟨w4.heap.size, 0, none⟩), .pointer (some ⟨w.heap.size + 1, 0, none⟩), .pointer (some ⟨w.heap.size + 3, 0, none⟩), .pointer (some ⟨w.heap.size + 2, 0, none⟩)], .func (.func 34) #[] #[.pointer (some ⟨w4.heap.size, 0, none⟩), .pointer (some ⟨w.heap.size + 1, 0, none⟩), .pointer (some ⟨w.heap.size + 2, 0, none⟩)], .func (.func 36) #[] #[.pointer (some ⟨w4.heap.size, 0, none⟩), .pointer (some ⟨w.heap.size + 1, 0, none⟩)]] (by simp [Value.oneCell']) info_do (by rfl) (by rfl) (by rfl) _ _ (by rfl) (by rfl) (by rfl) ?_; intro w6 hb6 hB6 hs6; have T6 := Aside0.mk (blk_below T5.out hB6); have F6 := Aside0.mk hb6; have HC6 := Aside0.mk (Kd.R_below HC5.out hB6); have HR6 := Aside0.mk (Kd.R_below HR5.out hB6); have HP6 := Aside0.mk (Kd.R_below HP5.out hB6); have B16 := Aside0.mk (blk_below B15.out hB6); have B26 := Aside0.mk (blk_below B25.out hB6); have B36 := Aside0.mk (blk_below B35.out hB6); have B46 := Aside0.mk (blk_below B45.out hB6); have HB6 := Aside0.mk (below_step HB5.out hB6); have k6 : w6.cell? ⟨w.heap.size + 1, 0, none⟩ = some (.int .i64 2) := blk_cell B16.out 0; have f6 := blk_cell F6.out 2; simp only [List.getElem?_toArray, List.getElem?_cons_zero, List.getElem?_cons_succ] at f6; clear hb6 hB6 hs6 T5 HC5 HR5 HP5 B15 B25 B35 B45 HB5; go_frame)
      | (go_at_call 34; refine (do3_calls (doFuel l0_0 l0_1 l0_2) w4.heap.size (w.heap.size + 1) (w.heap.size + 3) (w.heap.size + 2) Ap cp l0_2 q (.slice Ac l0_0.length cc) (.slice Ar l0_1.length cr) 2 a1_1 a1_2 a1_3 a3 a2_0 a2_1 w6 T6.out B16.out B26.out (by obtain ⟨A', c', e, _, hC⟩ := Kd.R_reads HP6.out; cases e; exact hC) hcp HQ.out).mono ?_; rintro e w8 ⟨rfl, v0, w7, hr7, hb7, rfl⟩; obtain ⟨An, cn, rfl, hcn, _⟩ := Kd.R_reads hr7; have hle := below_size HB6.out; have T7 := blk_below T6.out hb7; have B47 := Aside0.mk (blk_far (blk_below B46.out hb7) (p := ⟨w4.heap.size, 2, none⟩) (show w.heap.size + 4 ≠ w4.heap.size by have := HL0.out; omega) (.slice An q.length cn)); have HN8 := Aside0.mk (R_set1 (Kd.R_lower hr7 hle) T7 neP 2 (.slice An q.length cn)); have HC8 := Aside0.mk (R_set1 (Kd.R_below HC6.out hb7) T7 neC 2 (.slice An q.length cn)); have HR8 := Aside0.mk (R_set1 (Kd.R_below HR6.out hb7) T7 neR 2 (.slice An q.length cn)); have T8 := blk_set T7 2 (.slice An q.length cn); simp only [List.setIfInBounds_toArray, List.set_cons_zero, List.set_cons_succ] at T8; have HB8 := Aside0.mk (below_set (j := 2) (v := .slice An q.length cn) (below_step HB6.out hb7) (show w.heap.size ≤ w4.heap.size by have := HL0.out; omega)); clear hr7 hb7 T7 k6 f6 hle T6 F6 HC6 HR6 HP6 B16 B26 B36 B46 HB6; revert B47 HN8 HC8 HR8 T8 HB8; generalize w7.setCell ⟨w4.heap.size, 2, none⟩ (.slice An q.length cn) = V; intro B47 HN8 HC8 HR8 T8 HB8; obtain ⟨t0, t1, t2⟩ := cells3 T8; obtain ⟨x0, x1, x2⟩ := cells3 B47.out; obtain ⟨y0, y1, y2⟩ := frozen3 B47.out; clear T8))
    have hz := set3 (.slice Ac l0_0.length cc) (.slice Ar l0_1.length cr) (.slice An q.length cn) B47.out
    have HB9 := Aside0.mk (below3 (b := w.heap.size + 4) (.slice Ac l0_0.length cc) (.slice Ar l0_1.length cr) (.slice An q.length cn) HB8.out (by omega))
    have HN9 := Aside0.mk (R_set3 HN8.out B47.out neP (.slice Ac l0_0.length cc) (.slice Ar l0_1.length cr) (.slice An q.length cn))
    have HC9 := Aside0.mk (R_set3 HC8.out B47.out neC (.slice Ac l0_0.length cc) (.slice Ar l0_1.length cr) (.slice An q.length cn))
    have HR9 := Aside0.mk (R_set3 HR8.out B47.out neR (.slice Ac l0_0.length cc) (.slice Ar l0_1.length cr) (.slice An q.length cn))
    obtain ⟨z0, z1, z2⟩ := cells3 hz
    clear hz x0 x1 x2 y0 y1 y2 t0 t1 t2 B47 HN8 HC8 HR8 HB8
    revert z0 z1 z2 HB9 HN9 HC9 HR9
    generalize (((V.setCell ⟨w.heap.size + 4, 0, none⟩ (.slice Ac l0_0.length cc)).setCell ⟨w.heap.size + 4, 1, none⟩ (.slice Ar l0_1.length cr)).setCell ⟨w.heap.size + 4, 2, none⟩ (.slice An q.length cn)) = U
    intro HB9 HN9 HC9 HR9 z0 z1 z2
    exact bodyPost_ret (v := .tuple #[.agg #[.slice Ac l0_0.length cc, .slice Ar l0_1.length cr, .slice An q.length cn], .int .i64 0]) (by simp [results, Tryz.results11, go_sem, z0, z1, z2]) rfl ⟨_, _, _, rfl, HC9.out, HR9.out, HN9.out, HB9.out⟩
  · have h := HH.out
    simp only [show ¬ ((3 : Int) = 0) from by decide, show ¬ ((3 : Int) = 1) from by decide, show ¬ ((3 : Int) = 2) from by decide, if_true, if_false] at h
    rw [Option.bind_eq_some_iff] at h
    obtain ⟨q, hq, h⟩ := h
    simp only [Option.some.injEq, Prod.mk.injEq] at h
    obtain ⟨rfl, rfl, rfl, rfl⟩ := h
    have HQ := Aside0.mk hq
    clear hq
    go_wp2_with (first
      | (refine wpl_store_newA 26 w4 _ [.slice Ac l0_0.length cc, .slice Ar l0_1.length cr, .slice Ap l0_2.length cp] (by simp [Value.oneCell']) info_state (by rfl) (by rfl) (by rfl) _ _ (by rfl) (by rfl) (by rfl) ?_; intro w5 hb5 hB5 hs5; have T5 := Aside0.mk hb5; have HC5 := Aside0.mk (Kd.R_below HC.out hB5); have HR5 := Aside0.mk (Kd.R_below HR.out hB5); have HP5 := Aside0.mk (Kd.R_below HP.out hB5); have B15 := Aside0.mk (blk_below B1.out hB5); have B25 := Aside0.mk (blk_below B2.out hB5); have B35 := Aside0.mk (blk_below B3.out hB5); have B45 := Aside0.mk (blk_below B4.out hB5); have HB5 := Aside0.mk (below_step HB.out hB5); have HL5 := Aside0.mk hs5; clear hb5 hB5 hs5 HC HR HP B1 B2 B3 B4; go_frame)
      | (refine wpl_store_newA 64 w5 _ [.func (.func 30) #[] #[.pointer (some ⟨w4.heap.size, 0, none⟩), .pointer (some ⟨w.heap.size + 1, 0, none⟩)], .func (.func 32) #[] #[.pointer (some ⟨w4.heap.size, 0, none⟩), .pointer (some ⟨w.heap.size + 1, 0, none⟩), .pointer (some ⟨w.heap.size + 3, 0, none⟩), .pointer (some ⟨w.heap.size + 2, 0, none⟩)], .func (.func 34) #[] #[.pointer (some ⟨w4.heap.size, 0, none⟩), .pointer (some ⟨w.heap.size + 1, 0, none⟩), .pointer (some ⟨w.heap.size + 2, 0, none⟩)], .func (.func 36) #[] #[.pointer (some ⟨w4.heap.size, 0, none⟩), .pointer (some ⟨w.heap.size + 1, 0, none⟩)]] (by simp [Value.oneCell']) info_do (by rfl) (by rfl) (by rfl) _ _ (by rfl) (by rfl) (by rfl) ?_; intro w6 hb6 hB6 hs6; have T6 := Aside0.mk (blk_below T5.out hB6); have F6 := Aside0.mk hb6; have HC6 := Aside0.mk (Kd.R_below HC5.out hB6); have HR6 := Aside0.mk (Kd.R_below HR5.out hB6); have HP6 := Aside0.mk (Kd.R_below HP5.out hB6); have B16 := Aside0.mk (blk_below B15.out hB6); have B26 := Aside0.mk (blk_below B25.out hB6); have B36 := Aside0.mk (blk_below B35.out hB6); have B46 := Aside0.mk (blk_below B45.out hB6); have HB6 := Aside0.mk (below_step HB5.out hB6); have k6 : w6.cell? ⟨w.heap.size + 1, 0, none⟩ = some (.int .i64 3) := blk_cell B16.out 0; have f6 := blk_cell F6.out 3; simp only [List.getElem?_toArray, List.getElem?_cons_zero, List.getElem?_cons_succ] at f6; clear hb6 hB6 hs6 T5 HC5 HR5 HP5 B15 B25 B35 B45 HB5; go_frame)
      | (go_at_call 36; refine (do4_calls (doFuel l0_0 l0_1 l0_2) w4.heap.size (w.heap.size + 1) (w.heap.size + 3) (w.heap.size + 2) Ap cp l0_2 q (.slice Ac l0_0.length cc) (.slice Ar l0_1.length cr) 3 a1_1 a1_2 a1_3 a3 a2_0 a2_1 w6 T6.out B16.out (by obtain ⟨A', c', e, _, hC⟩ := Kd.R_reads HP6.out; cases e; exact hC) hcp HQ.out).mono ?_; rintro e w8 ⟨rfl, v0, w7, hr7, hb7, rfl⟩; obtain ⟨An, cn, rfl, hcn, _⟩ := Kd.R_reads hr7; have hle := below_size HB6.out; have T7 := blk_below T6.out hb7; have B47 := Aside0.mk (blk_far (blk_below B46.out hb7) (p := ⟨w4.heap.size, 2, none⟩) (show w.heap.size + 4 ≠ w4.heap.size by have := HL0.out; omega) (.slice An q.length cn)); have HN8 := Aside0.mk (R_set1 (Kd.R_lower hr7 hle) T7 neP 2 (.slice An q.length cn)); have HC8 := Aside0.mk (R_set1 (Kd.R_below HC6.out hb7) T7 neC 2 (.slice An q.length cn)); have HR8 := Aside0.mk (R_set1 (Kd.R_below HR6.out hb7) T7 neR 2 (.slice An q.length cn)); have T8 := blk_set T7 2 (.slice An q.length cn); simp only [List.setIfInBounds_toArray, List.set_cons_zero, List.set_cons_succ] at T8; have HB8 := Aside0.mk (below_set (j := 2) (v := .slice An q.length cn) (below_step HB6.out hb7) (show w.heap.size ≤ w4.heap.size by have := HL0.out; omega)); clear hr7 hb7 T7 k6 f6 hle T6 F6 HC6 HR6 HP6 B16 B26 B36 B46 HB6; revert B47 HN8 HC8 HR8 T8 HB8; generalize w7.setCell ⟨w4.heap.size, 2, none⟩ (.slice An q.length cn) = V; intro B47 HN8 HC8 HR8 T8 HB8; obtain ⟨t0, t1, t2⟩ := cells3 T8; obtain ⟨x0, x1, x2⟩ := cells3 B47.out; obtain ⟨y0, y1, y2⟩ := frozen3 B47.out; clear T8))
    have hz := set3 (.slice Ac l0_0.length cc) (.slice Ar l0_1.length cr) (.slice An q.length cn) B47.out
    have HB9 := Aside0.mk (below3 (b := w.heap.size + 4) (.slice Ac l0_0.length cc) (.slice Ar l0_1.length cr) (.slice An q.length cn) HB8.out (by omega))
    have HN9 := Aside0.mk (R_set3 HN8.out B47.out neP (.slice Ac l0_0.length cc) (.slice Ar l0_1.length cr) (.slice An q.length cn))
    have HC9 := Aside0.mk (R_set3 HC8.out B47.out neC (.slice Ac l0_0.length cc) (.slice Ar l0_1.length cr) (.slice An q.length cn))
    have HR9 := Aside0.mk (R_set3 HR8.out B47.out neR (.slice Ac l0_0.length cc) (.slice Ar l0_1.length cr) (.slice An q.length cn))
    obtain ⟨z0, z1, z2⟩ := cells3 hz
    clear hz x0 x1 x2 y0 y1 y2 t0 t1 t2 B47 HN8 HC8 HR8 HB8
    revert z0 z1 z2 HB9 HN9 HC9 HR9
    generalize (((V.setCell ⟨w.heap.size + 4, 0, none⟩ (.slice Ac l0_0.length cc)).setCell ⟨w.heap.size + 4, 1, none⟩ (.slice Ar l0_1.length cr)).setCell ⟨w.heap.size + 4, 2, none⟩ (.slice An q.length cn)) = U
    intro HB9 HN9 HC9 HR9 z0 z1 z2
    exact bodyPost_ret (v := .tuple #[.agg #[.slice Ac l0_0.length cc, .slice Ar l0_1.length cr, .slice An q.length cn], .int .i64 0]) (by simp [results, Tryz.results11, go_sem, z0, z1, z2]) rfl ⟨_, _, _, rfl, HC9.out, HR9.out, HN9.out, HB9.out⟩
end Go.Proofs.YtmcddoolniaehaaGreat.S
end
section
namespace Go.Proofs.YtmcddoolniaehaaGreat.S
open Go.RowKit Go.Proofs.YtmcddoolniaehaaGreatW.PrintWords Go.Proofs.YtmcddoolniaehaaGreatW.PrintLast Go.Proofs.YtmcddoolniaehaaGreatW.PrintMore
attribute [local go_sem] max2_int min2_int max_two min_two max_three min_three max_four min_four   -- for this text's walks alone
set_option linter.unusedVariables false
set_option linter.unusedSimpArgs false

theorem eqA30 (d : Nat) (w : World) (x0 y0 : Int) (x1 y1 : Int) :
  (Op.equalIn (d + 2) 30 (.agg #[.int .i64 x0, .int .i64 x1]) (.agg #[.int .i64 y0, .int .i64 y1])).run Tryz.prog w = .ok (x0 == y0 && (x1 == y1)) w := by
 refine eqA_of Tryz.underlying30 (by kernel_rfl) ?_
 refine eqf_cons (by rfl) (by go_simp; rfl) (by go_simp; rfl) (by go_simp) ?_
 exact eqf_last (by rfl) (by go_simp; rfl) (by go_simp; rfl) (by go_simp)
theorem eqA43 (d : Nat) (w : World) (x0 y0 : ByteArray) (x1 y1 : ByteArray) (x2 y2 : Int) (x3 y3 : Int) :
  (Op.equalIn (d + 3) 43 (.agg #[.string x0, .string x1, .int .i64 x2, .int .i64 x3]) (.agg #[.string y0, .string y1, .int .i64 y2, .int .i64 y3])).run Tryz.prog w = .ok (x0.toList == y0.toList && (x1.toList == y1.toList && ((x2 == y2 && (x3 == y3))))) w := by
 refine eqA_of Tryz.underlying43 (by kernel_rfl) ?_
 refine eqf_cons (by rfl) (by go_simp; rfl) (by go_simp; rfl) (by go_simp) ?_
 refine eqf_cons (by rfl) (by go_simp; rfl) (by go_simp; rfl) (by go_simp) ?_
 exact eqf_last (by rfl) (by go_simp) (by go_simp) (eqA30 (d + 0) w _ _ _ _)
end Go.Proofs.YtmcddoolniaehaaGreat.S
end
section
namespace Go.Proofs.YtmcddoolniaehaaGreat.S
open Go.RowKit Go.Proofs.YtmcddoolniaehaaGreatW.PrintWords Go.Proofs.YtmcddoolniaehaaGreatW.PrintLast Go.Proofs.YtmcddoolniaehaaGreatW.PrintMore
attribute [local go_sem] max2_int min2_int max_two min_two max_three min_three max_four min_four   -- for this text's walks alone
set_option linter.unusedVariables false
set_option linter.unusedSimpArgs false

theorem eqA47 (d : Nat) (w : World) (x0 y0 : ByteArray) (x1 y1 : ByteArray) (x2 y2 : Int) (x3 y3 : Int) (x4 y4 : Int) :
  (Op.equalIn (d + 3) 47 (.agg #[.string x0, .string x1, .int .i64 x2, .int .i64 x3, .int .i64 x4]) (.agg #[.string y0, .string y1, .int .i64 y2, .int .i64 y3, .int .i64 y4])).run Tryz.prog w = .ok (x0.toList == y0.toList && (x1.toList == y1.toList && (x2 == y2 && ((x3 == y3 && (x4 == y4)))))) w := by
 refine eqA_of Tryz.underlying47 (by kernel_rfl) ?_
 refine eqf_cons (by rfl) (by go_simp; rfl) (by go_simp; rfl) (by go_simp) ?_
 refine eqf_cons (by rfl) (by go_simp; rfl) (by go_simp; rfl) (by go_simp) ?_
 refine eqf_cons (by rfl) (by go_simp; rfl) (by go_simp; rfl) (by go_simp) ?_
 exact eqf_last (by rfl) (by go_simp) (by go_simp) (eqA30 (d + 0) w _ _ _ _)
end Go.Proofs.YtmcddoolniaehaaGreat.S
end
section
namespace Go.Proofs.YtmcddoolniaehaaGreat.S
open Go.RowKit Go.Proofs.YtmcddoolniaehaaGreatW.PrintWords Go.Proofs.YtmcddoolniaehaaGreatW.PrintLast Go.Proofs.YtmcddoolniaehaaGreatW.PrintMore
attribute [local go_sem] max2_int min2_int max_two min_two max_three min_three max_four min_four   -- for this text's walks alone
set_option linter.unusedVariables false
set_option linter.unusedSimpArgs false

theorem eqA73 (d : Nat) (w : World) (x0 y0 : ByteArray) (x1 y1 : Int) :
  (Op.equalIn (d + 2) 73 (.agg #[.string x0, .int .i64 x1]) (.agg #[.string y0, .int .i64 y1])).run Tryz.prog w = .ok (x0.toList == y0.toList && (x1 == y1)) w := by
 refine eqA_of Tryz.underlying73 (by kernel_rfl) ?_
 refine eqf_cons (by rfl) (by go_simp; rfl) (by go_simp; rfl) (by go_simp) ?_
 exact eqf_last (by rfl) (by go_simp; rfl) (by go_simp; rfl) (by go_simp)
end Go.Proofs.YtmcddoolniaehaaGreat.S
end
