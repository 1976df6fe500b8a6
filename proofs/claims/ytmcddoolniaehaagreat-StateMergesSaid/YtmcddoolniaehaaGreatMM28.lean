/- Several of the walk's texts in one: SRS, SRMerge, SLawMerges. -/
import Derived.Test.YtmcddoolniaehaaGreatMM05
import Derived.Test.YtmcddoolniaehaaGreatMM19
import Derived.Test.YtmcddoolniaehaaGreatMM20
import Derived.Test.YtmcddoolniaehaaGreatMM21
import Derived.Test.YtmcddoolniaehaaGreatMM24
import Derived.Test.YtmcddoolniaehaaGreatMM25
import Derived.Test.YtmcddoolniaehaaGreatMM27
section
namespace Go.Proofs.YtmcddoolniaehaaGreat.S
open Go.RowKit Go.Proofs.YtmcddoolniaehaaGreatW.PrintWords Go.Proofs.YtmcddoolniaehaaGreatW.PrintLast Go.Proofs.YtmcddoolniaehaaGreatW.PrintMore Go.Proofs.YtmcddoolniaehaaGreatW
set_option linter.unusedVariables false
set_option linter.unusedSimpArgs false
theorem smC (l m : List S73) : ∀ k x, ref06_Same.l0 k l m x = api_Ctr.l0 k l m (l.length : Int) x
  | 0, x => rfl
  | k + 1, x => by
    simp only [ref06_Same.l0, api_Ctr.l0, smC l m k]
    by_cases h : x < (l.length : Int)
    · simp only [if_pos h]
    · simp only [if_neg h]
theorem smC_f (k : Nat) (l m : List S73) (hk : l.length < k) (hl : l.length < 1000000) : ref06_Same.f k l m = some (eqB l m) := by
  rw [← eqC_f k l m hk hl]
  unfold ref06_Same.f api_Ctr.f
  rw [smC]
theorem smR (l m : List S47) : ∀ k x, ref07_Same.l0 k l m x = api_Reg.l0 k l m (l.length : Int) x
  | 0, x => rfl
  | k + 1, x => by
    simp only [ref07_Same.l0, api_Reg.l0, smR l m k]
    by_cases h : x < (l.length : Int)
    · simp only [if_pos h]
    · simp only [if_neg h]
theorem smR_f (k : Nat) (l m : List S47) (hk : l.length < k) (hl : l.length < 1000000) : ref07_Same.f k l m = some (eqB l m) := by
  rw [← eqR_f k l m hk hl]
  unfold ref07_Same.f api_Reg.f
  rw [smR]
theorem smP (l m : List S43) : ∀ k x, ref08_Same.l0 k l m x = api_Pair.l0 k l m (l.length : Int) x
  | 0, x => rfl
  | k + 1, x => by
    simp only [ref08_Same.l0, api_Pair.l0, smP l m k]
    by_cases h : x < (l.length : Int)
    · simp only [if_pos h]
    · simp only [if_neg h]
theorem smP_f (k : Nat) (l m : List S43) (hk : l.length < k) (hl : l.length < 1000000) : ref08_Same.f k l m = some (eqB l m) := by
  rw [← eqP_f k l m hk hl]
  unfold ref08_Same.f api_Pair.f
  rw [smP]
def FitR (s : St) : Prop := FitS 30 s ∧ smL s.p
theorem few_fitR {s : St} (h : fewS s = true) (ho : okL s.p) : FitR s := ⟨few_fit h ho, by
  unfold fewS at h
  simp only [Bool.and_eq_true] at h
  exact fewP_sm h.2.2⟩
set_option maxRecDepth 100000 in
theorem rmay_calls {W : World} {cs : List Value} {s : St} (hv : StV W cs s) (h : FitR s) : Calls Tryz.prog 14 #[.agg cs.toArray] W fun e w' => e = .returned (.bool (mayS s)) ∧ Below W.heap.size W w' := by
  obtain ⟨A0, a0, A1, a1, A2, a2, rfl, h1, h2, h3, h4, h5, h6⟩ := hv
  obtain ⟨⟨⟨l0, l1, l2⟩, q0, q1, _⟩, q2⟩ := h
  have K0 := Aside0.mk (fun (W1 : World) (hb : Below W.heap.size W W1) => ref06_May.calls 400 A0 a0 s.c (mayC s.c) W1 (Kd.C_below h1 hb) h2 (mayD_f 400 s.c (by omega) (by omega) q0))
  have K1 := Aside0.mk (fun (W1 : World) (hb : Below W.heap.size W W1) => ref07_May.calls 400 A1 a1 s.r (mayB s.r) W1 (Kd.C_below h3 hb) h4 (mayRef_f 400 s.r (by omega) (by omega) q1))
  have K2 := Aside0.mk (fun (W1 : World) (hb : Below W.heap.size W W1) => ref08_May.calls 400 A2 a2 s.p (mayP s.p) W1 (Kd.C_below h5 hb) h6 (rmay_f 400 s.p (by omega) (by omega) q2))
  rw [show mayS s = (mayC s.c && (mayB s.r && mayP s.p)) from rfl]
  generalize mayC s.c = b0 at *
  generalize mayB s.r = b1 at *
  generalize mayP s.p = b2 at *
  clear h1 h2 h3 h4 h5 h6 l0 l1 l2 q0 q1 q2
  have hBX := Bx.new (Below.refl W.heap.size W) (.cells #[.slice A0 s.c.length a0, .slice A1 s.r.length a1, .slice A2 s.p.length a2] 26)
  go_enter Tryz.func14, Tryz.ntmps14
  go_wp2_with fail
  revert hBX
  generalize W.alloc (.cells #[.slice A0 s.c.length a0, .slice A1 s.r.length a1, .slice A2 s.p.length a2] 26) = W1
  intro hBX
  obtain ⟨c0, c1, c2⟩ := cells3 hBX.x
  go_wp2_with fail
  refine (K0.out _ hBX.b).mono ?_
  rintro e V0 ⟨rfl, hb⟩
  replace hBX := hBX.go hb
  clear hb c0 c1 c2 K0
  obtain ⟨c0, c1, c2⟩ := cells3 hBX.x
  go_wp2_with fail
  refine (K1.out _ hBX.b).mono ?_
  rintro e V1 ⟨rfl, hb⟩
  replace hBX := hBX.go hb
  clear hb c0 c1 c2 K1
  obtain ⟨c0, c1, c2⟩ := cells3 hBX.x
  go_wp2_with fail
  refine (K2.out _ hBX.b).mono ?_
  rintro e V2 ⟨rfl, hb⟩
  replace hBX := hBX.go hb
  clear hb c0 c1 c2 K2
  cases b0 <;> cases b1 <;> cases b2
  all_goals
    go_wp2
    go_ret
    exact ⟨rfl, hBX.b⟩
set_option maxRecDepth 100000 in
theorem rsame_calls {W : World} {cs ds : List Value} {s t : St} (hv : StV W cs s) (hw : StV W ds t) (h : FitS 900 s) : Calls Tryz.prog 13 #[.agg cs.toArray, .agg ds.toArray] W fun e w' => e = .returned (.bool (sameS s t)) ∧ Below W.heap.size W w' := by
  obtain ⟨A0, a0, A1, a1, A2, a2, rfl, h1, h2, h3, h4, h5, h6⟩ := hv
  obtain ⟨B0, b0, B1, b1, B2, b2, rfl, g1, g2, g3, g4, g5, g6⟩ := hw
  obtain ⟨l0, l1, l2⟩ := h.1
  have K0 := Aside0.mk (fun (W1 : World) (hb : Below W.heap.size W W1) => ref06_Same.calls 1000 A0 a0 s.c B0 b0 t.c (eqB s.c t.c) W1 (Kd.C_below h1 hb) h2 (Kd.C_below g1 hb) g2 (smC_f 1000 s.c t.c (by omega) (by omega)))
  have K1 := Aside0.mk (fun (W1 : World) (hb : Below W.heap.size W W1) => ref07_Same.calls 1000 A1 a1 s.r B1 b1 t.r (eqB s.r t.r) W1 (Kd.C_below h3 hb) h4 (Kd.C_below g3 hb) g4 (smR_f 1000 s.r t.r (by omega) (by omega)))
  have K2 := Aside0.mk (fun (W1 : World) (hb : Below W.heap.size W W1) => ref08_Same.calls 1000 A2 a2 s.p B2 b2 t.p (eqB s.p t.p) W1 (Kd.C_below h5 hb) h6 (Kd.C_below g5 hb) g6 (smP_f 1000 s.p t.p (by omega) (by omega)))
  rw [show sameS s t = (eqB s.c t.c && (eqB s.r t.r && eqB s.p t.p)) from rfl]
  generalize eqB s.c t.c = e0 at *
  generalize eqB s.r t.r = e1 at *
  generalize eqB s.p t.p = e2 at *
  clear h1 h2 h3 h4 h5 h6 g1 g2 g3 g4 g5 g6 l0 l1 l2 h
  have hBX := Bx.new (Below.refl W.heap.size W) (.cells #[.slice A0 s.c.length a0, .slice A1 s.r.length a1, .slice A2 s.p.length a2] 26)
  have hBY := Bx.new hBX.b (.cells #[.slice B0 t.c.length b0, .slice B1 t.r.length b1, .slice B2 t.p.length b2] 26)
  replace hBX := hBX.go (below_alloc (Below.refl _ _) (.cells #[.slice B0 t.c.length b0, .slice B1 t.r.length b1, .slice B2 t.p.length b2] 26))
  rw [World.size_alloc] at hBY
  go_enter Tryz.func13, Tryz.ntmps13
  go_wp2_with fail
  revert hBX hBY
  generalize (W.alloc (.cells #[.slice A0 s.c.length a0, .slice A1 s.r.length a1, .slice A2 s.p.length a2] 26)).alloc (.cells #[.slice B0 t.c.length b0, .slice B1 t.r.length b1, .slice B2 t.p.length b2] 26) = W1
  intro hBX hBY
  obtain ⟨c0, c1, c2⟩ := cells3 hBX.x
  obtain ⟨d0, d1, d2⟩ := cells3 hBY.x
  go_wp2_with fail
  refine (K0.out _ hBX.b).mono ?_
  rintro e V0 ⟨rfl, hb⟩
  replace hb := drawn_b hb
  replace hBX := hBX.go hb
  replace hBY := hBY.go hb
  clear hb c0 c1 c2 d0 d1 d2 K0
  obtain ⟨c0, c1, c2⟩ := cells3 hBX.x
  obtain ⟨d0, d1, d2⟩ := cells3 hBY.x
  go_wp2_with fail
  refine (K1.out _ hBX.b).mono ?_
  rintro e V1 ⟨rfl, hb⟩
  replace hb := drawn_b hb
  replace hBX := hBX.go hb
  replace hBY := hBY.go hb
  clear hb c0 c1 c2 d0 d1 d2 K1
  obtain ⟨c0, c1, c2⟩ := cells3 hBX.x
  obtain ⟨d0, d1, d2⟩ := cells3 hBY.x
  go_wp2_with fail
  refine (K2.out _ hBX.b).mono ?_
  rintro e V2 ⟨rfl, hb⟩
  replace hb := drawn_b hb
  replace hBX := hBX.go hb
  replace hBY := hBY.go hb
  clear hb c0 c1 c2 d0 d1 d2 K2
  cases e0 <;> cases e1 <;> cases e2
  all_goals
    go_wp2
    go_ret
    exact ⟨rfl, hBX.b⟩
end Go.Proofs.YtmcddoolniaehaaGreat.S
end
section
namespace Go.Proofs.YtmcddoolniaehaaGreat.S
open Go.RowKit Go.Proofs.YtmcddoolniaehaaGreatW.PrintWords Go.Proofs.YtmcddoolniaehaaGreatW.PrintLast Go.Proofs.YtmcddoolniaehaaGreatW.PrintMore Go.Proofs.YtmcddoolniaehaaGreatW
set_option linter.unusedVariables false
set_option linter.unusedSimpArgs false
set_option maxHeartbeats 4000000 in
set_option maxRecDepth 100000 in
theorem rmerge_calls {w : World} {cs ds es : List Value} {l a b : St} (hu : StV w cs l) (hv : StV w ds a) (hw : StV w es b) (fl : FitR l) (fa : FitR a) (fb : FitR b) :
    Calls Tryz.prog 19 #[.agg cs.toArray, .agg ds.toArray, .agg es.toArray] w fun e w' => ∃ rs : List Value, e = .returned (.tuple #[.agg rs.toArray, .int .i64 (mergeS l a b).2]) ∧ StV w' rs (mergeS l a b).1 ∧ Below w.heap.size w w' := by
  have HMl := Aside0.mk (fun (W : World) (hb : Below w.heap.size w W) => rmay_calls (hu.below hb) fl)
  have HMa := Aside0.mk (fun (W : World) (hb : Below w.heap.size w W) => rmay_calls (hv.below hb) fa)
  have HMb := Aside0.mk (fun (W : World) (hb : Below w.heap.size w W) => rmay_calls (hw.below hb) fb)
  obtain ⟨A0, a0, A1, a1, A2, a2, rfl, h1, h2, h3, h4, h5, h6⟩ := hu
  obtain ⟨B0, b0, B1, b1, B2, b2, rfl, g1, g2, g3, g4, g5, g6⟩ := hv
  obtain ⟨E0, e0, E1, e1, E2, e2, rfl, i1, i2, i3, i4, i5, i6⟩ := hw
  obtain ⟨⟨⟨l0, l1, l2⟩, lc, lr, lo⟩, lp⟩ := fl
  obtain ⟨⟨⟨m0, m1, m2⟩, mc, mr, mo⟩, mp⟩ := fa
  obtain ⟨⟨⟨n0, n1, n2⟩, nc, nr, no⟩, np⟩ := fb
  have HCM := Aside0.mk (fun (W : World) (hb : Below w.heap.size w W) => ref06_Merge.calls 1000 A0 a0 l.c B0 b0 a.c E0 e0 b.c _ W (Kd.C_below h1 hb) h2 (Kd.C_below g1 hb) g2 (Kd.C_below i1 hb) i2 (mergeD_f 1000 l.c a.c b.c (by omega) l0 m0 n0 lc mc nc))
  have HRM := Aside0.mk (fun (W : World) (hb : Below w.heap.size w W) => ref07_Merge.calls 1000 B1 b1 a.r E1 e1 b.r _ W (Kd.C_below g3 hb) g4 (Kd.C_below i3 hb) i4 (mergeRef_f 1000 a.r b.r (by omega) (by omega) mr nr))
  have HPM := Aside0.mk (fun (W : World) (hb : Below w.heap.size w W) => ref08_Merge.calls 1000 A2 a2 l.p B2 b2 a.p E2 e2 b.p _ W (Kd.C_below h5 hb) h6 (Kd.C_below g5 hb) g6 (Kd.C_below i5 hb) i6 (rmerge_f 1000 l.p a.p b.p (by omega) l2 m2 n2 lo mo no lp mp np))
  clear h1 h2 h3 h4 h5 h6 g1 g2 g3 g4 g5 g6 i1 i2 i3 i4 i5 i6 l0 l1 l2 lc lr lo lp m0 m1 m2 mc mr mo mp n0 n1 n2 nc nr no np
  obtain ⟨ml, hml⟩ : ∃ q, q = mayS l := ⟨_, rfl⟩
  rw [← hml] at HMl
  have Ml := Aside0.mk hml.symm
  clear hml
  obtain ⟨ma, hma⟩ : ∃ q, q = mayS a := ⟨_, rfl⟩
  rw [← hma] at HMa
  have Ma := Aside0.mk hma.symm
  clear hma
  obtain ⟨mb, hmb⟩ : ∃ q, q = mayS b := ⟨_, rfl⟩
  rw [← hmb] at HMb
  have Mb := Aside0.mk hmb.symm
  clear hmb
  obtain ⟨hB, p, q, s, t⟩ := boxes4 w (.cells #[.slice A0 l.c.length a0, .slice A1 l.r.length a1, .slice A2 l.p.length a2] 26) (.cells #[.slice B0 a.c.length b0, .slice B1 a.r.length b1, .slice B2 a.p.length b2] 26) (.cells #[.slice E0 b.c.length e0, .slice E1 b.r.length e1, .slice E2 b.p.length e2] 26) (.cells #[.slice none 0 0, .slice none 0 0, .slice none 0 0] 26)
  have HB0 := Aside0.mk hB
  have P0 := Aside0.mk p
  have Q0 := Aside0.mk q
  have S0 := Aside0.mk s
  have T0 := Aside0.mk t
  clear hB p q s t
  go_enter Tryz.func19, Tryz.ntmps19
  go_wp2_with fail
  revert HB0 P0 Q0 S0 T0
  generalize ((((w.alloc (.cells #[.slice A0 l.c.length a0, .slice A1 l.r.length a1, .slice A2 l.p.length a2] 26)).alloc (.cells #[.slice B0 a.c.length b0, .slice B1 a.r.length b1, .slice B2 a.p.length b2] 26)).alloc (.cells #[.slice E0 b.c.length e0, .slice E1 b.r.length e1, .slice E2 b.p.length e2] 26)).alloc (.cells #[.slice none 0 0, .slice none 0 0, .slice none 0 0] 26)) = W0
  intro HB0 P0 Q0 S0 T0
  refine (HMl.out _ (HB0.out)).mono ?_
  rintro e W1 ⟨rfl, hb⟩
  have P1 := Aside0.mk (blk_below (P0.out) hb); have Q1 := Aside0.mk (blk_below (Q0.out) hb); have S1 := Aside0.mk (blk_below (S0.out) hb); have T1 := Aside0.mk (blk_below (T0.out) hb); have HB1 := Aside0.mk (below_step (HB0.out) hb)
  clear hb HMl
  obtain ⟨q0, q1, q2⟩ := cells3 Q1.out
  go_wp2_with fail
  clear q0 q1 q2
  refine (HMa.out _ (HB1.out)).mono ?_
  rintro e W2 ⟨rfl, hb⟩
  have P2 := Aside0.mk (blk_below (P1.out) hb); have Q2 := Aside0.mk (blk_below (Q1.out) hb); have S2 := Aside0.mk (blk_below (S1.out) hb); have T2 := Aside0.mk (blk_below (T1.out) hb); have HB2 := Aside0.mk (below_step (HB1.out) hb)
  clear hb HMa
  obtain ⟨s0, s1, s2⟩ := cells3 S2.out
  go_wp2_with fail
  clear s0 s1 s2
  refine (HMb.out _ (HB2.out)).mono ?_
  rintro e W3 ⟨rfl, hb⟩
  have P3 := Aside0.mk (blk_below (P2.out) hb); have Q3 := Aside0.mk (blk_below (Q2.out) hb); have S3 := Aside0.mk (blk_below (S2.out) hb); have T3 := Aside0.mk (blk_below (T2.out) hb); have HB3 := Aside0.mk (below_step (HB2.out) hb)
  clear hb HMb
  by_cases hm : ml = true ∧ ma = true ∧ mb = true
  rotate_left
  · have HE : Aside0 (mergeS l a b = (noS, 1)) := ⟨by unfold mergeS; rw [Ml.out, Ma.out, Mb.out]; revert hm; cases ml <;> cases ma <;> cases mb <;> simp⟩
    clear Ml Ma Mb HCM HRM HPM
    obtain ⟨x0, x1, x2⟩ := cells3 T3.out
    obtain ⟨y0, y1, y2⟩ := frozen3 T3.out
    have hz := set3 (.slice none 0 0) (.slice none 0 0) (.slice none 0 0) T3.out
    have HB9 := Aside0.mk (below3 (b := w.heap.size + 3) (.slice none 0 0) (.slice none 0 0) (.slice none 0 0) HB3.out (by omega))
    cases ml <;> cases ma <;> cases mb
    rotate_right
    · exact absurd ⟨rfl, rfl, rfl⟩ hm
    all_goals
      clear hm
      go_wp2
      obtain ⟨z0, z1, z2⟩ := cells3 hz
      clear hz x0 x1 x2 y0 y1 y2
      revert z0 z1 z2 HB9
      generalize (((W3.setCell ⟨w.heap.size + 3, 0, none⟩ (.slice none 0 0)).setCell ⟨w.heap.size + 3, 1, none⟩ (.slice none 0 0)).setCell ⟨w.heap.size + 3, 2, none⟩ (.slice none 0 0)) = U
      intro HB9 z0 z1 z2
      exact bodyPost_ret (v := .tuple #[.agg #[.slice none 0 0, .slice none 0 0, .slice none 0 0], .int .i64 1]) (by simp [results, Tryz.results19, go_sem, z0, z1, z2]) rfl ⟨zeroV, by rw [HE.out]; rfl, by rw [HE.out]; exact zero_is _, HB9.out⟩
  obtain ⟨rfl, rfl, rfl⟩ := hm
  have HE : Aside0 (mergeS l a b = (⟨mergeC l.c a.c b.c, mergeO a.r b.r, mergeP l.p a.p b.p⟩, 0)) := ⟨by unfold mergeS; rw [Ml.out, Ma.out, Mb.out]; rfl⟩
  have hlt := blk_lt T3.out
  go_wp2_with fail
  obtain ⟨cp0, cp1, cp2⟩ := cells3 P3.out; obtain ⟨cq0, cq1, cq2⟩ := cells3 Q3.out; obtain ⟨cs0, cs1, cs2⟩ := cells3 S3.out
  go_region_held3 (fun w' => w'.cell? ⟨w.heap.size, 0, none⟩ = some (.slice A0 l.c.length a0) ∧ w'.cell? ⟨w.heap.size, 1, none⟩ = some (.slice A1 l.r.length a1) ∧ w'.cell? ⟨w.heap.size, 2, none⟩ = some (.slice A2 l.p.length a2) ∧ w'.cell? ⟨w.heap.size + 1, 0, none⟩ = some (.slice B0 a.c.length b0) ∧ w'.cell? ⟨w.heap.size + 1, 1, none⟩ = some (.slice B1 a.r.length b1) ∧ w'.cell? ⟨w.heap.size + 1, 2, none⟩ = some (.slice B2 a.p.length b2) ∧ w'.cell? ⟨w.heap.size + 2, 0, none⟩ = some (.slice E0 b.c.length e0) ∧ w'.cell? ⟨w.heap.size + 2, 1, none⟩ = some (.slice E1 b.r.length e1) ∧ w'.cell? ⟨w.heap.size + 2, 2, none⟩ = some (.slice E2 b.p.length e2))
    (first | (with_reducible exact ⟨cp0, cp1, cp2, cq0, cq1, cq2, cs0, cs1, cs2⟩) | (with_reducible exact ⟨dp0, dp1, dp2, dq0, dq1, dq2, ds0, ds1, ds2⟩) | (with_reducible exact ⟨ep0, ep1, ep2, eq0, eq1, eq2, es0, es1, es2⟩) | (with_reducible exact ⟨fp0, fp1, fp2, fq0, fq1, fq2, fs0, fs1, fs2⟩) | (exact ⟨blk_cell (far3b P6.out (by omega) _ _ _) 0, blk_cell (far3b P6.out (by omega) _ _ _) 1, blk_cell (far3b P6.out (by omega) _ _ _) 2, blk_cell (far3b Q6.out (by omega) _ _ _) 0, blk_cell (far3b Q6.out (by omega) _ _ _) 1, blk_cell (far3b Q6.out (by omega) _ _ _) 2, blk_cell (far3b S6.out (by omega) _ _ _) 0, blk_cell (far3b S6.out (by omega) _ _ _) 1, blk_cell (far3b S6.out (by omega) _ _ _) 2⟩) | go_keep)
    (first
    | (go_at_call 64; (with_reducible refine (HCM.out _ ?hz).mono ?_); (case hz => exact below_drew HB3.out); rintro e W4 ⟨v, rfl, hr, hb⟩; obtain ⟨F0, f0, rfl, _, _⟩ := Kd.R_reads hr; have P4 := Aside0.mk (blk_below (blk_drew P3.out) hb); have Q4 := Aside0.mk (blk_below (blk_drew Q3.out) hb); have S4 := Aside0.mk (blk_below (blk_drew S3.out) hb); have T4 := Aside0.mk (blk_below (blk_drew T3.out) hb); have HB4 := Aside0.mk (below_step (below_drew HB3.out) hb); have R4 := Aside0.mk (Kd.R_lower hr (below_size (below_drew HB3.out))); obtain ⟨dp0, dp1, dp2⟩ := cells3 P4.out; obtain ⟨dq0, dq1, dq2⟩ := cells3 Q4.out; obtain ⟨ds0, ds1, ds2⟩ := cells3 S4.out; clear hb hr)
    | (go_at_call 65; (with_reducible refine (HRM.out _ ?hz).mono ?_); (case hz => exact HB4.out); rintro e W5 ⟨v, rfl, hr, hb⟩; obtain ⟨F1, f1, rfl, _, _⟩ := Kd.R_reads hr; have P5 := Aside0.mk (blk_below (P4.out) hb); have Q5 := Aside0.mk (blk_below (Q4.out) hb); have S5 := Aside0.mk (blk_below (S4.out) hb); have T5 := Aside0.mk (blk_below (T4.out) hb); have HB5 := Aside0.mk (below_step (HB4.out) hb); have R5 := Aside0.mk (Kd.R_below R4.out hb); have RR5 := Aside0.mk (Kd.R_lower hr (below_size HB4.out)); obtain ⟨ep0, ep1, ep2⟩ := cells3 P5.out; obtain ⟨eq0, eq1, eq2⟩ := cells3 Q5.out; obtain ⟨es0, es1, es2⟩ := cells3 S5.out; clear hb hr)
    | (go_at_call 66; (with_reducible refine (HPM.out _ ?hz).mono ?_); (case hz => exact HB5.out); rintro e W6 ⟨v, rfl, hr, hb⟩; obtain ⟨F2, f2, rfl, _, _⟩ := Kd.R_reads hr; have P6 := Aside0.mk (blk_below (P5.out) hb); have Q6 := Aside0.mk (blk_below (Q5.out) hb); have S6 := Aside0.mk (blk_below (S5.out) hb); have T6 := Aside0.mk (blk_below (T5.out) hb); have HB6 := Aside0.mk (below_step (HB5.out) hb); have R6 := Aside0.mk (Kd.R_below R5.out hb); have RR6 := Aside0.mk (Kd.R_below RR5.out hb); have RP6 := Aside0.mk (Kd.R_lower hr (below_size HB5.out)); obtain ⟨fp0, fp1, fp2⟩ := cells3 P6.out; obtain ⟨fq0, fq1, fq2⟩ := cells3 Q6.out; obtain ⟨fs0, fs1, fs2⟩ := cells3 S6.out; obtain ⟨x0, x1, x2⟩ := cells3 T6.out; obtain ⟨y0, y1, y2⟩ := frozen3 T6.out; clear hb hr))
  all_goals
    go_wp2
    have hz := set3 (.slice F0 (mergeC l.c a.c b.c).length f0) (.slice F1 (mergeO a.r b.r).length f1) (.slice F2 (mergeP l.p a.p b.p).length f2) T6.out
    have HB9 := Aside0.mk (below3 (b := w.heap.size + 3) (.slice F0 (mergeC l.c a.c b.c).length f0) (.slice F1 (mergeO a.r b.r).length f1) (.slice F2 (mergeP l.p a.p b.p).length f2) HB6.out (by omega))
    have R9 := Aside0.mk (R_set3 R6.out T6.out neC (.slice F0 (mergeC l.c a.c b.c).length f0) (.slice F1 (mergeO a.r b.r).length f1) (.slice F2 (mergeP l.p a.p b.p).length f2))
    have RR9 := Aside0.mk (R_set3 RR6.out T6.out neR (.slice F0 (mergeC l.c a.c b.c).length f0) (.slice F1 (mergeO a.r b.r).length f1) (.slice F2 (mergeP l.p a.p b.p).length f2))
    have RP9 := Aside0.mk (R_set3 RP6.out T6.out neP (.slice F0 (mergeC l.c a.c b.c).length f0) (.slice F1 (mergeO a.r b.r).length f1) (.slice F2 (mergeP l.p a.p b.p).length f2))
    obtain ⟨z0, z1, z2⟩ := cells3 hz
    clear hz x0 x1 x2 y0 y1 y2 R6 RR6 RP6 R5 RR5 R4 HB6 T6
    revert z0 z1 z2 HB9 R9 RR9 RP9
    generalize (((W6.setCell ⟨w.heap.size + 3, 0, none⟩ (.slice F0 (mergeC l.c a.c b.c).length f0)).setCell ⟨w.heap.size + 3, 1, none⟩ (.slice F1 (mergeO a.r b.r).length f1)).setCell ⟨w.heap.size + 3, 2, none⟩ (.slice F2 (mergeP l.p a.p b.p).length f2)) = U
    intro HB9 R9 RR9 RP9 z0 z1 z2
    exact bodyPost_ret (v := .tuple #[.agg #[.slice F0 (mergeC l.c a.c b.c).length f0, .slice F1 (mergeO a.r b.r).length f1, .slice F2 (mergeP l.p a.p b.p).length f2], .int .i64 0]) (by simp [results, Tryz.results19, go_sem, z0, z1, z2]) rfl ⟨[_, _, _], by rw [HE.out], by rw [HE.out]; exact StV_of R9.out RR9.out RP9.out, HB9.out⟩
end Go.Proofs.YtmcddoolniaehaaGreat.S
end
section
namespace Go.Proofs.YtmcddoolniaehaaGreat.S
open Go.RowKit Go.Proofs.YtmcddoolniaehaaGreatW.PrintWords Go.Proofs.YtmcddoolniaehaaGreatW.PrintLast Go.Proofs.YtmcddoolniaehaaGreatW.PrintMore Go.Proofs.YtmcddoolniaehaaGreatW
set_option linter.unusedVariables false
set_option linter.unusedSimpArgs false
set_option maxHeartbeats 4000000 in
set_option maxRecDepth 100000 in
theorem merges_calls (cl ca cb : List Value) (l a b : St) (w : World) (hl : StV w cl l) (ol : okL l.p) (il : inL l.c) (ha : StV w ca a) (oa : okL a.p) (ia : inL a.c) (hb : StV w cb b) (ob : okL b.p) (ib : inL b.c) :
    Calls Tryz.prog 4 #[.agg cl.toArray, .agg ca.toArray, .agg cb.toArray] w fun e w' => e = .returned (.bool true) ∧ Below w.heap.size w w' := by
  obtain ⟨hB, bl, ba, bb⟩ := box3 w (.cells cl.toArray 26) (.cells ca.toArray 26) (.cells cb.toArray 26)
  have Nl := Aside0.mk (hl.below hB)
  have Hl := Aside0.mk bl
  have Na := Aside0.mk (ha.below hB)
  have Ha := Aside0.mk ba
  have Nb := Aside0.mk (hb.below hB)
  have Hb := Aside0.mk bb
  have HB := Aside0.mk hB
  clear hB bl hl ba ha bb hb
  go_enter Tryz.func4, Tryz.ntmps4
  go_wp2_with fail
  revert Nl Hl Na Ha Nb Hb HB
  generalize (((w.alloc (.cells cl.toArray 26)).alloc (.cells ca.toArray 26)).alloc (.cells cb.toArray 26)) = W
  intro Nl Hl Na Ha Nb Hb HB
  generalize cl = Xl at *; generalize ca = Xa at *; generalize cb = Xb at *
  refine (awake_calls _).mono ?_
  rintro e V0 ⟨rfl, hb0⟩
  replace Hl := Aside0.mk (blk_below Hl.out hb0)
  replace Nl := Aside0.mk (Nl.out.below hb0)
  replace Ha := Aside0.mk (blk_below Ha.out hb0)
  replace Na := Aside0.mk (Na.out.below hb0)
  replace Hb := Aside0.mk (blk_below Hb.out hb0)
  replace Nb := Aside0.mk (Nb.out.below hb0)
  replace HB := Aside0.mk (below_step HB.out hb0)
  clear hb0
  go_wp2_with (first
    | (refine ld_st Hl Nl (by rfl) _ (by rfl) (by rfl) ?_; go_frame)
    | (refine ld_on Hl Nl (by rfl) _ (by rfl) (by rfl) ?_; go_frame)
    | (refine ld_st Ha Na (by rfl) _ (by rfl) (by rfl) ?_; go_frame)
    | (refine ld_on Ha Na (by rfl) _ (by rfl) (by rfl) ?_; go_frame)
    | (refine ld_st Hb Nb (by rfl) _ (by rfl) (by rfl) ?_; go_frame)
    | (refine ld_on Hb Nb (by rfl) _ (by rfl) (by rfl) ?_; go_frame))
  have hcn := few_calls Nl.out
  obtain ⟨ql, hql⟩ : ∃ q, q = fewS l := ⟨_, rfl⟩
  rw [← hql] at hcn
  have Ql := Aside0.mk hql
  clear hql
  refine hcn.mono ?_
  rintro e V1 ⟨rfl, hb1⟩
  clear hcn
  replace Hl := Aside0.mk (blk_below Hl.out hb1)
  replace Nl := Aside0.mk (Nl.out.below hb1)
  replace Ha := Aside0.mk (blk_below Ha.out hb1)
  replace Na := Aside0.mk (Na.out.below hb1)
  replace Hb := Aside0.mk (blk_below Hb.out hb1)
  replace Nb := Aside0.mk (Nb.out.below hb1)
  replace HB := Aside0.mk (below_step HB.out hb1)
  clear hb1
  go_wp2_with (first
    | (refine ld_st Hl Nl (by rfl) _ (by rfl) (by rfl) ?_; go_frame)
    | (refine ld_on Hl Nl (by rfl) _ (by rfl) (by rfl) ?_; go_frame)
    | (refine ld_st Ha Na (by rfl) _ (by rfl) (by rfl) ?_; go_frame)
    | (refine ld_on Ha Na (by rfl) _ (by rfl) (by rfl) ?_; go_frame)
    | (refine ld_st Hb Nb (by rfl) _ (by rfl) (by rfl) ?_; go_frame)
    | (refine ld_on Hb Nb (by rfl) _ (by rfl) (by rfl) ?_; go_frame))
  have hcn := few_calls Na.out
  obtain ⟨qa, hqa⟩ : ∃ q, q = fewS a := ⟨_, rfl⟩
  rw [← hqa] at hcn
  have Qa := Aside0.mk hqa
  clear hqa
  refine hcn.mono ?_
  rintro e V2 ⟨rfl, hb2⟩
  clear hcn
  replace Hl := Aside0.mk (blk_below Hl.out hb2)
  replace Nl := Aside0.mk (Nl.out.below hb2)
  replace Ha := Aside0.mk (blk_below Ha.out hb2)
  replace Na := Aside0.mk (Na.out.below hb2)
  replace Hb := Aside0.mk (blk_below Hb.out hb2)
  replace Nb := Aside0.mk (Nb.out.below hb2)
  replace HB := Aside0.mk (below_step HB.out hb2)
  clear hb2
  go_wp2_with (first
    | (refine ld_st Hl Nl (by rfl) _ (by rfl) (by rfl) ?_; go_frame)
    | (refine ld_on Hl Nl (by rfl) _ (by rfl) (by rfl) ?_; go_frame)
    | (refine ld_st Ha Na (by rfl) _ (by rfl) (by rfl) ?_; go_frame)
    | (refine ld_on Ha Na (by rfl) _ (by rfl) (by rfl) ?_; go_frame)
    | (refine ld_st Hb Nb (by rfl) _ (by rfl) (by rfl) ?_; go_frame)
    | (refine ld_on Hb Nb (by rfl) _ (by rfl) (by rfl) ?_; go_frame))
  have hcn := few_calls Nb.out
  obtain ⟨qb, hqb⟩ : ∃ q, q = fewS b := ⟨_, rfl⟩
  rw [← hqb] at hcn
  have Qb := Aside0.mk hqb
  clear hqb
  refine hcn.mono ?_
  rintro e V3 ⟨rfl, hb3⟩
  clear hcn
  replace Hl := Aside0.mk (blk_below Hl.out hb3)
  replace Nl := Aside0.mk (Nl.out.below hb3)
  replace Ha := Aside0.mk (blk_below Ha.out hb3)
  replace Na := Aside0.mk (Na.out.below hb3)
  replace Hb := Aside0.mk (blk_below Hb.out hb3)
  replace Nb := Aside0.mk (Nb.out.below hb3)
  replace HB := Aside0.mk (below_step HB.out hb3)
  clear hb3
  cases ql with
  | false =>
    go_wp2_with (first
      | (refine ld_st Hl Nl (by rfl) _ (by rfl) (by rfl) ?_; go_frame)
      | (refine ld_on Hl Nl (by rfl) _ (by rfl) (by rfl) ?_; go_frame)
      | (refine ld_st Ha Na (by rfl) _ (by rfl) (by rfl) ?_; go_frame)
      | (refine ld_on Ha Na (by rfl) _ (by rfl) (by rfl) ?_; go_frame)
      | (refine ld_st Hb Nb (by rfl) _ (by rfl) (by rfl) ?_; go_frame)
      | (refine ld_on Hb Nb (by rfl) _ (by rfl) (by rfl) ?_; go_frame))
    go_ret
    exact ⟨rfl, HB.out⟩
  | true =>
  cases qa with
  | false =>
    go_wp2_with (first
      | (refine ld_st Hl Nl (by rfl) _ (by rfl) (by rfl) ?_; go_frame)
      | (refine ld_on Hl Nl (by rfl) _ (by rfl) (by rfl) ?_; go_frame)
      | (refine ld_st Ha Na (by rfl) _ (by rfl) (by rfl) ?_; go_frame)
      | (refine ld_on Ha Na (by rfl) _ (by rfl) (by rfl) ?_; go_frame)
      | (refine ld_st Hb Nb (by rfl) _ (by rfl) (by rfl) ?_; go_frame)
      | (refine ld_on Hb Nb (by rfl) _ (by rfl) (by rfl) ?_; go_frame))
    go_ret
    exact ⟨rfl, HB.out⟩
  | true =>
  cases qb with
  | false =>
    go_wp2_with (first
      | (refine ld_st Hl Nl (by rfl) _ (by rfl) (by rfl) ?_; go_frame)
      | (refine ld_on Hl Nl (by rfl) _ (by rfl) (by rfl) ?_; go_frame)
      | (refine ld_st Ha Na (by rfl) _ (by rfl) (by rfl) ?_; go_frame)
      | (refine ld_on Ha Na (by rfl) _ (by rfl) (by rfl) ?_; go_frame)
      | (refine ld_st Hb Nb (by rfl) _ (by rfl) (by rfl) ?_; go_frame)
      | (refine ld_on Hb Nb (by rfl) _ (by rfl) (by rfl) ?_; go_frame))
    go_ret
    exact ⟨rfl, HB.out⟩
  | true =>
  have Fl := Aside0.mk (few_fit Ql.out.symm ol)
  have Rl := Aside0.mk (few_fitR Ql.out.symm ol)
  have Fa := Aside0.mk (few_fit Qa.out.symm oa)
  have Ra := Aside0.mk (few_fitR Qa.out.symm oa)
  have Fb := Aside0.mk (few_fit Qb.out.symm ob)
  have Rb := Aside0.mk (few_fitR Qb.out.symm ob)
  clear Ql Qa Qb
  have f1 := merge_fit Fl.out Fa.out Fb.out
  obtain ⟨M, hM⟩ : ∃ M, M = mergeS l a b := ⟨_, rfl⟩
  rw [← hM] at f1
  obtain ⟨X, ex⟩ := M
  have E1 := Aside0.mk hM.symm
  have FX := Aside0.mk (f1.up (show 30 + 30 + 30 ≤ 900 by decide))
  have SX : Aside0 (sameS X X = true) := ⟨sameS_iff.2 rfl⟩
  clear f1 hM
  have FAR := Aside0.mk (Fa.out.up (show 30 ≤ 900 by decide))
  replace Fl := Aside0.mk (Fl.out.up (show 30 ≤ 1000 by decide))
  replace Fa := Aside0.mk (Fa.out.up (show 30 ≤ 1000 by decide))
  replace Fb := Aside0.mk (Fb.out.up (show 30 ≤ 1000 by decide))
  obtain ⟨q, hq⟩ : ∃ q, q = sameS a b := ⟨_, rfl⟩
  have SAB := Aside0.mk hq.symm
  clear hq
  go_wp2_with (first
    | (refine ld_st Hl Nl (by rfl) _ (by rfl) (by rfl) ?_; go_frame)
    | (refine ld_on Hl Nl (by rfl) _ (by rfl) (by rfl) ?_; go_frame)
    | (refine ld_st Ha Na (by rfl) _ (by rfl) (by rfl) ?_; go_frame)
    | (refine ld_on Ha Na (by rfl) _ (by rfl) (by rfl) ?_; go_frame)
    | (refine ld_st Hb Nb (by rfl) _ (by rfl) (by rfl) ?_; go_frame)
    | (refine ld_on Hb Nb (by rfl) _ (by rfl) (by rfl) ?_; go_frame))
  have hcn := merge_calls Nl.out Na.out Nb.out Fl.out Fa.out Fb.out
  rw [E1.out] at hcn
  try dsimp only at hcn
  refine hcn.mono ?_
  rintro e V4 ⟨csx, rfl, hN4, hb4⟩
  clear hcn
  replace Hl := Aside0.mk (blk_below Hl.out hb4)
  replace Nl := Aside0.mk (Nl.out.below hb4)
  replace Ha := Aside0.mk (blk_below Ha.out hb4)
  replace Na := Aside0.mk (Na.out.below hb4)
  replace Hb := Aside0.mk (blk_below Hb.out hb4)
  replace Nb := Aside0.mk (Nb.out.below hb4)
  replace HB := Aside0.mk (below_step HB.out hb4)
  have Nx := Aside0.mk hN4
  clear hN4 hb4
  go_wp2_with (first
    | (refine ld_st Hl Nl (by rfl) _ (by rfl) (by rfl) ?_; go_frame)
    | (refine ld_on Hl Nl (by rfl) _ (by rfl) (by rfl) ?_; go_frame)
    | (refine ld_st Ha Na (by rfl) _ (by rfl) (by rfl) ?_; go_frame)
    | (refine ld_on Ha Na (by rfl) _ (by rfl) (by rfl) ?_; go_frame)
    | (refine ld_st Hb Nb (by rfl) _ (by rfl) (by rfl) ?_; go_frame)
    | (refine ld_on Hb Nb (by rfl) _ (by rfl) (by rfl) ?_; go_frame)
    | (refine sv_st Nx (by rfl) (by rfl) _ _ (by rfl) (by rfl) (by rfl) ?_; intro U5 hbk5 hBk5 hsk5; replace Hl := Aside0.mk (blk_below Hl.out hBk5); replace Nl := Aside0.mk (Nl.out.below hBk5); replace Ha := Aside0.mk (blk_below Ha.out hBk5); replace Na := Aside0.mk (Na.out.below hBk5); replace Hb := Aside0.mk (blk_below Hb.out hBk5); replace Nb := Aside0.mk (Nb.out.below hBk5); replace Nx := Aside0.mk (Nx.out.below hBk5); replace HB := Aside0.mk (below_step HB.out hBk5); have Hx := Aside0.mk hbk5; clear hbk5 hBk5 hsk5; go_frame)
    | (refine ld_st Hx Nx (by rfl) _ (by rfl) (by rfl) ?_; go_frame)
    | (refine ld_on Hx Nx (by rfl) _ (by rfl) (by rfl) ?_; go_frame))
  have hcn := rmerge_calls Nl.out Na.out Nb.out Rl.out Ra.out Rb.out
  rw [E1.out] at hcn
  try dsimp only at hcn
  refine hcn.mono ?_
  rintro e V6 ⟨csy, rfl, hN6, hb6⟩
  clear hcn
  replace Hl := Aside0.mk (blk_below Hl.out hb6)
  replace Nl := Aside0.mk (Nl.out.below hb6)
  replace Ha := Aside0.mk (blk_below Ha.out hb6)
  replace Na := Aside0.mk (Na.out.below hb6)
  replace Hb := Aside0.mk (blk_below Hb.out hb6)
  replace Nb := Aside0.mk (Nb.out.below hb6)
  replace Hx := Aside0.mk (blk_below Hx.out hb6)
  replace Nx := Aside0.mk (Nx.out.below hb6)
  replace HB := Aside0.mk (below_step HB.out hb6)
  have Ny := Aside0.mk hN6
  clear hN6 hb6
  go_wp2_with (first
    | (refine ld_st Hl Nl (by rfl) _ (by rfl) (by rfl) ?_; go_frame)
    | (refine ld_on Hl Nl (by rfl) _ (by rfl) (by rfl) ?_; go_frame)
    | (refine ld_st Ha Na (by rfl) _ (by rfl) (by rfl) ?_; go_frame)
    | (refine ld_on Ha Na (by rfl) _ (by rfl) (by rfl) ?_; go_frame)
    | (refine ld_st Hb Nb (by rfl) _ (by rfl) (by rfl) ?_; go_frame)
    | (refine ld_on Hb Nb (by rfl) _ (by rfl) (by rfl) ?_; go_frame)
    | (refine ld_st Hx Nx (by rfl) _ (by rfl) (by rfl) ?_; go_frame)
    | (refine ld_on Hx Nx (by rfl) _ (by rfl) (by rfl) ?_; go_frame)
    | (refine sv_st Ny (by rfl) (by rfl) _ _ (by rfl) (by rfl) (by rfl) ?_; intro U7 hbk7 hBk7 hsk7; replace Hl := Aside0.mk (blk_below Hl.out hBk7); replace Nl := Aside0.mk (Nl.out.below hBk7); replace Ha := Aside0.mk (blk_below Ha.out hBk7); replace Na := Aside0.mk (Na.out.below hBk7); replace Hb := Aside0.mk (blk_below Hb.out hBk7); replace Nb := Aside0.mk (Nb.out.below hBk7); replace Hx := Aside0.mk (blk_below Hx.out hBk7); replace Nx := Aside0.mk (Nx.out.below hBk7); replace Ny := Aside0.mk (Ny.out.below hBk7); replace HB := Aside0.mk (below_step HB.out hBk7); have Hy := Aside0.mk hbk7; clear hbk7 hBk7 hsk7; go_frame)
    | (refine ld_st Hy Ny (by rfl) _ (by rfl) (by rfl) ?_; go_frame)
    | (refine ld_on Hy Ny (by rfl) _ (by rfl) (by rfl) ?_; go_frame))
  have hcn := rsame_calls Nx.out Ny.out FX.out
  rw [SX.out] at hcn
  refine hcn.mono ?_
  rintro e V8 ⟨rfl, hb8⟩
  clear hcn
  replace Hl := Aside0.mk (blk_below Hl.out hb8)
  replace Nl := Aside0.mk (Nl.out.below hb8)
  replace Ha := Aside0.mk (blk_below Ha.out hb8)
  replace Na := Aside0.mk (Na.out.below hb8)
  replace Hb := Aside0.mk (blk_below Hb.out hb8)
  replace Nb := Aside0.mk (Nb.out.below hb8)
  replace Hx := Aside0.mk (blk_below Hx.out hb8)
  replace Nx := Aside0.mk (Nx.out.below hb8)
  replace Hy := Aside0.mk (blk_below Hy.out hb8)
  replace Ny := Aside0.mk (Ny.out.below hb8)
  replace HB := Aside0.mk (below_step HB.out hb8)
  clear hb8
  go_wp2_with (first
    | (refine ld_st Hl Nl (by rfl) _ (by rfl) (by rfl) ?_; go_frame)
    | (refine ld_on Hl Nl (by rfl) _ (by rfl) (by rfl) ?_; go_frame)
    | (refine ld_st Ha Na (by rfl) _ (by rfl) (by rfl) ?_; go_frame)
    | (refine ld_on Ha Na (by rfl) _ (by rfl) (by rfl) ?_; go_frame)
    | (refine ld_st Hb Nb (by rfl) _ (by rfl) (by rfl) ?_; go_frame)
    | (refine ld_on Hb Nb (by rfl) _ (by rfl) (by rfl) ?_; go_frame)
    | (refine ld_st Hx Nx (by rfl) _ (by rfl) (by rfl) ?_; go_frame)
    | (refine ld_on Hx Nx (by rfl) _ (by rfl) (by rfl) ?_; go_frame)
    | (refine ld_st Hy Ny (by rfl) _ (by rfl) (by rfl) ?_; go_frame)
    | (refine ld_on Hy Ny (by rfl) _ (by rfl) (by rfl) ?_; go_frame))
  have hcn := rsame_calls Na.out Nb.out FAR.out
  rw [SAB.out] at hcn
  refine hcn.mono ?_
  rintro e V9 ⟨rfl, hb9⟩
  clear hcn
  replace Hl := Aside0.mk (blk_below Hl.out hb9)
  replace Nl := Aside0.mk (Nl.out.below hb9)
  replace Ha := Aside0.mk (blk_below Ha.out hb9)
  replace Na := Aside0.mk (Na.out.below hb9)
  replace Hb := Aside0.mk (blk_below Hb.out hb9)
  replace Nb := Aside0.mk (Nb.out.below hb9)
  replace Hx := Aside0.mk (blk_below Hx.out hb9)
  replace Nx := Aside0.mk (Nx.out.below hb9)
  replace Hy := Aside0.mk (blk_below Hy.out hb9)
  replace Ny := Aside0.mk (Ny.out.below hb9)
  replace HB := Aside0.mk (below_step HB.out hb9)
  clear hb9
  go_wp2_with (first
    | (refine ld_st Hl Nl (by rfl) _ (by rfl) (by rfl) ?_; go_frame)
    | (refine ld_on Hl Nl (by rfl) _ (by rfl) (by rfl) ?_; go_frame)
    | (refine ld_st Ha Na (by rfl) _ (by rfl) (by rfl) ?_; go_frame)
    | (refine ld_on Ha Na (by rfl) _ (by rfl) (by rfl) ?_; go_frame)
    | (refine ld_st Hb Nb (by rfl) _ (by rfl) (by rfl) ?_; go_frame)
    | (refine ld_on Hb Nb (by rfl) _ (by rfl) (by rfl) ?_; go_frame)
    | (refine ld_st Hx Nx (by rfl) _ (by rfl) (by rfl) ?_; go_frame)
    | (refine ld_on Hx Nx (by rfl) _ (by rfl) (by rfl) ?_; go_frame)
    | (refine ld_st Hy Ny (by rfl) _ (by rfl) (by rfl) ?_; go_frame)
    | (refine ld_on Hy Ny (by rfl) _ (by rfl) (by rfl) ?_; go_frame))
  have hcn := same_calls Na.out Nb.out Fa.out
  rw [SAB.out] at hcn
  refine hcn.mono ?_
  rintro e V10 ⟨rfl, hb10⟩
  clear hcn
  replace Hl := Aside0.mk (blk_below Hl.out hb10)
  replace Nl := Aside0.mk (Nl.out.below hb10)
  replace Ha := Aside0.mk (blk_below Ha.out hb10)
  replace Na := Aside0.mk (Na.out.below hb10)
  replace Hb := Aside0.mk (blk_below Hb.out hb10)
  replace Nb := Aside0.mk (Nb.out.below hb10)
  replace Hx := Aside0.mk (blk_below Hx.out hb10)
  replace Nx := Aside0.mk (Nx.out.below hb10)
  replace Hy := Aside0.mk (blk_below Hy.out hb10)
  replace Ny := Aside0.mk (Ny.out.below hb10)
  replace HB := Aside0.mk (below_step HB.out hb10)
  clear hb10
  cases q
  all_goals
    go_wp2
    go_ret
    exact ⟨rfl, HB.out⟩
end Go.Proofs.YtmcddoolniaehaaGreat.S
end
