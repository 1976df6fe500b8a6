/- Several of the walk's texts in one: SMerge, SHNum1, SHNum, SHText, SHNums, SHTexts, Sx10. -/
import Derived.Deep.RegionHeld3
import Derived.Deep.DeepCutAuto
import Derived.RegionTactic
import Derived.RangeFuncNested
import Derived.RangeFuncBound
import Derived.RangeFuncCalls
import Derived.RangeFuncLeaves
import Derived.RangeFuncBox
import Derived.Shelf.Abstract
import Derived.WalkKit
import Derived.OwnWalkIn
import Derived.TacticsInMore
import Derived.LoopNIn
import Derived.LoopIn
import Derived.Maps.AppendAt
import Derived.Lib.AppendStr
import Derived.Deep.RegionLaw
import Derived.Deep.AppendLies
import Derived.Test.YtmcddoolniaehaaGreatMD04
import Derived.Test.YtmcddoolniaehaaGreatMD11
import Derived.Test.YtmcddoolniaehaaGreatMD12
import Derived.Test.YtmcddoolniaehaaGreatMD14
import Derived.Test.YtmcddoolniaehaaGreatMD16
import Derived.Test.YtmcddoolniaehaaGreatMD18
section
namespace Go.Proofs.YtmcddoolniaehaaGreat.S
open Go.RowKit Go.Proofs.YtmcddoolniaehaaGreatW.PrintWords Go.Proofs.YtmcddoolniaehaaGreatW.PrintLast Go.Proofs.YtmcddoolniaehaaGreatW.PrintMore Go.Proofs.YtmcddoolniaehaaGreatW
set_option linter.unusedVariables false
set_option linter.unusedSimpArgs false
theorem far3b {V : World} {b k t : Nat} {cs : Array Value} (h : V.heap[k]? = some (.cells cs t (0, 0))) (hk : k ≠ b) (u0 u1 u2 : Value) : (((V.setCell ⟨b, 0, none⟩ u0).setCell ⟨b, 1, none⟩ u1).setCell ⟨b, 2, none⟩ u2).heap[k]? = some (.cells cs t (0, 0)) :=
  blk_far (blk_far (blk_far h (p := ⟨b, 0, none⟩) hk u0) (p := ⟨b, 1, none⟩) hk u1) (p := ⟨b, 2, none⟩) hk u2
theorem boxes4 (w : World) (o0 o1 o2 o3 : Obj) : Below w.heap.size w ((((w.alloc o0).alloc o1).alloc o2).alloc o3) ∧ ((((w.alloc o0).alloc o1).alloc o2).alloc o3).heap[w.heap.size]? = some o0 ∧ ((((w.alloc o0).alloc o1).alloc o2).alloc o3).heap[w.heap.size + 1]? = some o1 ∧ ((((w.alloc o0).alloc o1).alloc o2).alloc o3).heap[w.heap.size + 2]? = some o2 ∧ ((((w.alloc o0).alloc o1).alloc o2).alloc o3).heap[w.heap.size + 3]? = some o3 := by
  have h1 := blk_new (w.alloc o0) o1
  have h2 := blk_new ((w.alloc o0).alloc o1) o2
  have h3 := blk_new (((w.alloc o0).alloc o1).alloc o2) o3
  simp only [World.size_alloc, Nat.add_assoc, Nat.reduceAdd] at h1 h2 h3
  exact ⟨below_alloc (below_alloc (below_alloc (below_alloc (Below.refl _ w) _) _) _) _, blk_alloc (blk_alloc (blk_alloc (blk_new w o0) _) _) _, blk_alloc (blk_alloc h1 _) _, blk_alloc h2 _, h3⟩
set_option maxHeartbeats 4000000 in
set_option maxRecDepth 100000 in
theorem merge_calls {w : World} {cs ds es : List Value} {l a b : St} (hu : StV w cs l) (hv : StV w ds a) (hw : StV w es b) (fl : FitS 1000 l) (fa : FitS 1000 a) (fb : FitS 1000 b) :
    Calls Tryz.prog 18 #[.agg cs.toArray, .agg ds.toArray, .agg es.toArray] w fun e w' => ∃ rs : List Value, e = .returned (.tuple #[.agg rs.toArray, .int .i64 (mergeS l a b).2]) ∧ StV w' rs (mergeS l a b).1 ∧ Below w.heap.size w w' := by
  have HMl := Aside0.mk (fun (W : World) (hb : Below w.heap.size w W) => may_calls (hu.below hb) fl)
  have HMa := Aside0.mk (fun (W : World) (hb : Below w.heap.size w W) => may_calls (hv.below hb) fa)
  have HMb := Aside0.mk (fun (W : World) (hb : Below w.heap.size w W) => may_calls (hw.below hb) fb)
  obtain ⟨A0, a0, A1, a1, A2, a2, rfl, h1, h2, h3, h4, h5, h6⟩ := hu
  obtain ⟨B0, b0, B1, b1, B2, b2, rfl, g1, g2, g3, g4, g5, g6⟩ := hv
  obtain ⟨E0, e0, E1, e1, E2, e2, rfl, i1, i2, i3, i4, i5, i6⟩ := hw
  have HCM := Aside0.mk (fun (W : World) (hb : Below w.heap.size w W) => ctr_Merge.calls A0 a0 l.c B0 b0 a.c E0 e0 b.c _ W (Kd.C_below h1 hb) h2 (Kd.C_below g1 hb) g2 (Kd.C_below i1 hb) i2 (mergeC_f fl.2.1 fa.2.1 fb.2.1 fl.1.1 fa.1.1 fb.1.1))
  have HRM := Aside0.mk (fun (W : World) (hb : Below w.heap.size w W) => reg_Merge.calls 1010 B1 b1 a.r E1 e1 b.r _ W (Kd.C_below g3 hb) g4 (Kd.C_below i3 hb) i4 (merge_f 1010 a.r b.r (by have := fa.1; omega) (by have := fb.1; omega) (by have := fa.1; omega) (by have := fb.1; omega) (ok_all fa.2.2.1) (ok_all fb.2.2.1)))
  have HPM := Aside0.mk (fun (W : World) (hb : Below w.heap.size w W) => pair_Merge.calls A2 a2 l.p B2 b2 a.p E2 e2 b.p _ W (Kd.C_below h5 hb) h6 (Kd.C_below g5 hb) g6 (Kd.C_below i5 hb) i6 (mergeP_f fl.2.2.2 fa.2.2.2 fb.2.2.2 fl.1.2.2 fa.1.2.2 fb.1.2.2))
  clear h1 h2 h3 h4 h5 h6 g1 g2 g3 g4 g5 g6 i1 i2 i3 i4 i5 i6 fl fa fb
  obtain ⟨ml, hml⟩ : ∃ q, q = mayS l := ⟨_, rfl⟩
  rw [← hml] at HMl
  have Ml := Aside0.mk hml.symm
  clear hml
  obtain ⟨ma, hma⟩ : ∃ q, q = mayS a := ⟨_, rfl⟩
  rw [← hma] at HMa
  have Ma := Aside0.mk hma.symm
  clear hma
  obtain ⟨mb, hmb⟩ : ∃ q, q = mayS b := ⟨_, rfl⟩
  rw [← hmb] at HMb
  have Mb := Aside0.mk hmb.symm
  clear hmb
  obtain ⟨hB, p, q, s, t⟩ := boxes4 w (.cells #[.slice A0 l.c.length a0, .slice A1 l.r.length a1, .slice A2 l.p.length a2] 26) (.cells #[.slice B0 a.c.length b0, .slice B1 a.r.length b1, .slice B2 a.p.length b2] 26) (.cells #[.slice E0 b.c.length e0, .slice E1 b.r.length e1, .slice E2 b.p.length e2] 26) (.cells #[.slice none 0 0, .slice none 0 0, .slice none 0 0] 26)
  have HB0 := Aside0.mk hB
  have P0 := Aside0.mk p
  have Q0 := Aside0.mk q
  have S0 := Aside0.mk s
  have T0 := Aside0.mk t
  clear hB p q s t
  go_enter Tryz.func18, Tryz.ntmps18
  go_wp2_with fail
  revert HB0 P0 Q0 S0 T0
  generalize ((((w.alloc (.cells #[.slice A0 l.c.length a0, .slice A1 l.r.length a1, .slice A2 l.p.length a2] 26)).alloc (.cells #[.slice B0 a.c.length b0, .slice B1 a.r.length b1, .slice B2 a.p.length b2] 26)).alloc (.cells #[.slice E0 b.c.length e0, .slice E1 b.r.length e1, .slice E2 b.p.length e2] 26)).alloc (.cells #[.slice none 0 0, .slice none 0 0, .slice none 0 0] 26)) = W0
  intro HB0 P0 Q0 S0 T0
  refine (HMl.out _ (HB0.out)).mono ?_
  rintro e W1 ⟨rfl, hb⟩
  have P1 := Aside0.mk (blk_below (P0.out) hb); have Q1 := Aside0.mk (blk_below (Q0.out) hb); have S1 := Aside0.mk (blk_below (S0.out) hb); have T1 := Aside0.mk (blk_below (T0.out) hb); have HB1 := Aside0.mk (below_step (HB0.out) hb)
  clear hb HMl
  cases ml with
  | false =>
    have HE : Aside0 (mergeS l a b = (noS, 1)) := ⟨by unfold mergeS; rw [Ml.out]; simp⟩
    obtain ⟨x0, x1, x2⟩ := cells3 T1.out
    obtain ⟨y0, y1, y2⟩ := frozen3 T1.out
    have hz := set3 (.slice none 0 0) (.slice none 0 0) (.slice none 0 0) T1.out
    have HB9 := Aside0.mk (below3 (b := w.heap.size + 3) (.slice none 0 0) (.slice none 0 0) (.slice none 0 0) HB1.out (by omega))
    go_wp2
    obtain ⟨z0, z1, z2⟩ := cells3 hz
    clear hz x0 x1 x2 y0 y1 y2
    revert z0 z1 z2 HB9
    generalize (((W1.setCell ⟨w.heap.size + 3, 0, none⟩ (.slice none 0 0)).setCell ⟨w.heap.size + 3, 1, none⟩ (.slice none 0 0)).setCell ⟨w.heap.size + 3, 2, none⟩ (.slice none 0 0)) = U
    intro HB9 z0 z1 z2
    exact bodyPost_ret (v := .tuple #[.agg #[.slice none 0 0, .slice none 0 0, .slice none 0 0], .int .i64 1]) (by simp [results, Tryz.results18, go_sem, z0, z1, z2]) rfl ⟨zeroV, by rw [HE.out]; rfl, by rw [HE.out]; exact zero_is _, HB9.out⟩
  | true =>
  obtain ⟨q0, q1, q2⟩ := cells3 Q1.out
  go_wp2_with fail
  clear q0 q1 q2
  refine (HMa.out _ (HB1.out)).mono ?_
  rintro e W2 ⟨rfl, hb⟩
  have P2 := Aside0.mk (blk_below (P1.out) hb); have Q2 := Aside0.mk (blk_below (Q1.out) hb); have S2 := Aside0.mk (blk_below (S1.out) hb); have T2 := Aside0.mk (blk_below (T1.out) hb); have HB2 := Aside0.mk (below_step (HB1.out) hb)
  clear hb HMa
  cases ma with
  | false =>
    have HE : Aside0 (mergeS l a b = (noS, 1)) := ⟨by unfold mergeS; rw [Ma.out]; simp⟩
    obtain ⟨x0, x1, x2⟩ := cells3 T2.out
    obtain ⟨y0, y1, y2⟩ := frozen3 T2.out
    have hz := set3 (.slice none 0 0) (.slice none 0 0) (.slice none 0 0) T2.out
    have HB9 := Aside0.mk (below3 (b := w.heap.size + 3) (.slice none 0 0) (.slice none 0 0) (.slice none 0 0) HB2.out (by omega))
    go_wp2
    obtain ⟨z0, z1, z2⟩ := cells3 hz
    clear hz x0 x1 x2 y0 y1 y2
    revert z0 z1 z2 HB9
    generalize (((W2.setCell ⟨w.heap.size + 3, 0, none⟩ (.slice none 0 0)).setCell ⟨w.heap.size + 3, 1, none⟩ (.slice none 0 0)).setCell ⟨w.heap.size + 3, 2, none⟩ (.slice none 0 0)) = U
    intro HB9 z0 z1 z2
    exact bodyPost_ret (v := .tuple #[.agg #[.slice none 0 0, .slice none 0 0, .slice none 0 0], .int .i64 1]) (by simp [results, Tryz.results18, go_sem, z0, z1, z2]) rfl ⟨zeroV, by rw [HE.out]; rfl, by rw [HE.out]; exact zero_is _, HB9.out⟩
  | true =>
  obtain ⟨s0, s1, s2⟩ := cells3 S2.out
  go_wp2_with fail
  clear s0 s1 s2
  refine (HMb.out _ (HB2.out)).mono ?_
  rintro e W3 ⟨rfl, hb⟩
  have P3 := Aside0.mk (blk_below (P2.out) hb); have Q3 := Aside0.mk (blk_below (Q2.out) hb); have S3 := Aside0.mk (blk_below (S2.out) hb); have T3 := Aside0.mk (blk_below (T2.out) hb); have HB3 := Aside0.mk (below_step (HB2.out) hb)
  clear hb HMb
  cases mb with
  | false =>
    have HE : Aside0 (mergeS l a b = (noS, 1)) := ⟨by unfold mergeS; rw [Mb.out]; simp⟩
    obtain ⟨x0, x1, x2⟩ := cells3 T3.out
    obtain ⟨y0, y1, y2⟩ := frozen3 T3.out
    have hz := set3 (.slice none 0 0) (.slice none 0 0) (.slice none 0 0) T3.out
    have HB9 := Aside0.mk (below3 (b := w.heap.size + 3) (.slice none 0 0) (.slice none 0 0) (.slice none 0 0) HB3.out (by omega))
    go_wp2
    obtain ⟨z0, z1, z2⟩ := cells3 hz
    clear hz x0 x1 x2 y0 y1 y2
    revert z0 z1 z2 HB9
    generalize (((W3.setCell ⟨w.heap.size + 3, 0, none⟩ (.slice none 0 0)).setCell ⟨w.heap.size + 3, 1, none⟩ (.slice none 0 0)).setCell ⟨w.heap.size + 3, 2, none⟩ (.slice none 0 0)) = U
    intro HB9 z0 z1 z2
    exact bodyPost_ret (v := .tuple #[.agg #[.slice none 0 0, .slice none 0 0, .slice none 0 0], .int .i64 1]) (by simp [results, Tryz.results18, go_sem, z0, z1, z2]) rfl ⟨zeroV, by rw [HE.out]; rfl, by rw [HE.out]; exact zero_is _, HB9.out⟩
  | true =>
  have HE : Aside0 (mergeS l a b = (⟨mergeC l.c a.c b.c, mergeO a.r b.r, mergeP l.p a.p b.p⟩, 0)) := ⟨by unfold mergeS; rw [Ml.out, Ma.out, Mb.out]; rfl⟩
  have hlt := blk_lt T3.out
  go_wp2_with fail
  obtain ⟨cp0, cp1, cp2⟩ := cells3 P3.out; obtain ⟨cq0, cq1, cq2⟩ := cells3 Q3.out; obtain ⟨cs0, cs1, cs2⟩ := cells3 S3.out
  go_region_held3 (fun w' => w'.cell? ⟨w.heap.size, 0, none⟩ = some (.slice A0 l.c.length a0) ∧ w'.cell? ⟨w.heap.size, 1, none⟩ = some (.slice A1 l.r.length a1) ∧ w'.cell? ⟨w.heap.size, 2, none⟩ = some (.slice A2 l.p.length a2) ∧ w'.cell? ⟨w.heap.size + 1, 0, none⟩ = some (.slice B0 a.c.length b0) ∧ w'.cell? ⟨w.heap.size + 1, 1, none⟩ = some (.slice B1 a.r.length b1) ∧ w'.cell? ⟨w.heap.size + 1, 2, none⟩ = some (.slice B2 a.p.length b2) ∧ w'.cell? ⟨w.heap.size + 2, 0, none⟩ = some (.slice E0 b.c.length e0) ∧ w'.cell? ⟨w.heap.size + 2, 1, none⟩ = some (.slice E1 b.r.length e1) ∧ w'.cell? ⟨w.heap.size + 2, 2, none⟩ = some (.slice E2 b.p.length e2))
    (first | (with_reducible exact ⟨cp0, cp1, cp2, cq0, cq1, cq2, cs0, cs1, cs2⟩) | (with_reducible exact ⟨dp0, dp1, dp2, dq0, dq1, dq2, ds0, ds1, ds2⟩) | (with_reducible exact ⟨ep0, ep1, ep2, eq0, eq1, eq2, es0, es1, es2⟩) | (with_reducible exact ⟨fp0, fp1, fp2, fq0, fq1, fq2, fs0, fs1, fs2⟩) | (exact ⟨blk_cell (far3b P6.out (by omega) _ _ _) 0, blk_cell (far3b P6.out (by omega) _ _ _) 1, blk_cell (far3b P6.out (by omega) _ _ _) 2, blk_cell (far3b Q6.out (by omega) _ _ _) 0, blk_cell (far3b Q6.out (by omega) _ _ _) 1, blk_cell (far3b Q6.out (by omega) _ _ _) 2, blk_cell (far3b S6.out (by omega) _ _ _) 0, blk_cell (far3b S6.out (by omega) _ _ _) 1, blk_cell (far3b S6.out (by omega) _ _ _) 2⟩) | go_keep)
    (first
    | (go_at_call 61; (with_reducible refine (HCM.out _ ?hz).mono ?_); (case hz => exact below_drew HB3.out); rintro e W4 ⟨v, rfl, hr, hb⟩; obtain ⟨F0, f0, rfl, _, _⟩ := Kd.R_reads hr; have P4 := Aside0.mk (blk_below (blk_drew P3.out) hb); have Q4 := Aside0.mk (blk_below (blk_drew Q3.out) hb); have S4 := Aside0.mk (blk_below (blk_drew S3.out) hb); have T4 := Aside0.mk (blk_below (blk_drew T3.out) hb); have HB4 := Aside0.mk (below_step (below_drew HB3.out) hb); have R4 := Aside0.mk (Kd.R_lower hr (below_size (below_drew HB3.out))); obtain ⟨dp0, dp1, dp2⟩ := cells3 P4.out; obtain ⟨dq0, dq1, dq2⟩ := cells3 Q4.out; obtain ⟨ds0, ds1, ds2⟩ := cells3 S4.out; clear hb hr)
    | (go_at_call 62; (with_reducible refine (HRM.out _ ?hz).mono ?_); (case hz => exact HB4.out); rintro e W5 ⟨v, rfl, hr, hb⟩; obtain ⟨F1, f1, rfl, _, _⟩ := Kd.R_reads hr; have P5 := Aside0.mk (blk_below (P4.out) hb); have Q5 := Aside0.mk (blk_below (Q4.out) hb); have S5 := Aside0.mk (blk_below (S4.out) hb); have T5 := Aside0.mk (blk_below (T4.out) hb); have HB5 := Aside0.mk (below_step (HB4.out) hb); have R5 := Aside0.mk (Kd.R_below R4.out hb); have RR5 := Aside0.mk (Kd.R_lower hr (below_size HB4.out)); obtain ⟨ep0, ep1, ep2⟩ := cells3 P5.out; obtain ⟨eq0, eq1, eq2⟩ := cells3 Q5.out; obtain ⟨es0, es1, es2⟩ := cells3 S5.out; clear hb hr)
    | (go_at_call 63; (with_reducible refine (HPM.out _ ?hz).mono ?_); (case hz => exact HB5.out); rintro e W6 ⟨v, rfl, hr, hb⟩; obtain ⟨F2, f2, rfl, _, _⟩ := Kd.R_reads hr; have P6 := Aside0.mk (blk_below (P5.out) hb); have Q6 := Aside0.mk (blk_below (Q5.out) hb); have S6 := Aside0.mk (blk_below (S5.out) hb); have T6 := Aside0.mk (blk_below (T5.out) hb); have HB6 := Aside0.mk (below_step (HB5.out) hb); have R6 := Aside0.mk (Kd.R_below R5.out hb); have RR6 := Aside0.mk (Kd.R_below RR5.out hb); have RP6 := Aside0.mk (Kd.R_lower hr (below_size HB5.out)); obtain ⟨fp0, fp1, fp2⟩ := cells3 P6.out; obtain ⟨fq0, fq1, fq2⟩ := cells3 Q6.out; obtain ⟨fs0, fs1, fs2⟩ := cells3 S6.out; obtain ⟨x0, x1, x2⟩ := cells3 T6.out; obtain ⟨y0, y1, y2⟩ := frozen3 T6.out; clear hb hr))
  all_goals
    go_wp2
    have hz := set3 (.slice F0 (mergeC l.c a.c b.c).length f0) (.slice F1 (mergeO a.r b.r).length f1) (.slice F2 (mergeP l.p a.p b.p).length f2) T6.out
    have HB9 := Aside0.mk (below3 (b := w.heap.size + 3) (.slice F0 (mergeC l.c a.c b.c).length f0) (.slice F1 (mergeO a.r b.r).length f1) (.slice F2 (mergeP l.p a.p b.p).length f2) HB6.out (by omega))
    have R9 := Aside0.mk (R_set3 R6.out T6.out neC (.slice F0 (mergeC l.c a.c b.c).length f0) (.slice F1 (mergeO a.r b.r).length f1) (.slice F2 (mergeP l.p a.p b.p).length f2))
    have RR9 := Aside0.mk (R_set3 RR6.out T6.out neR (.slice F0 (mergeC l.c a.c b.c).length f0) (.slice F1 (mergeO a.r b.r).length f1) (.slice F2 (mergeP l.p a.p b.p).length f2))
    have RP9 := Aside0.mk (R_set3 RP6.out T6.out neP (.slice F0 (mergeC l.c a.c b.c).length f0) (.slice F1 (mergeO a.r b.r).length f1) (.slice F2 (mergeP l.p a.p b.p).length f2))
    obtain ⟨z0, z1, z2⟩ := cells3 hz
    clear hz x0 x1 x2 y0 y1 y2 R6 RR6 RP6 R5 RR5 R4 HB6 T6
    revert z0 z1 z2 HB9 R9 RR9 RP9
    generalize (((W6.setCell ⟨w.heap.size + 3, 0, none⟩ (.slice F0 (mergeC l.c a.c b.c).length f0)).setCell ⟨w.heap.size + 3, 1, none⟩ (.slice F1 (mergeO a.r b.r).length f1)).setCell ⟨w.heap.size + 3, 2, none⟩ (.slice F2 (mergeP l.p a.p b.p).length f2)) = U
    intro HB9 R9 RR9 RP9 z0 z1 z2
    exact bodyPost_ret (v := .tuple #[.agg #[.slice F0 (mergeC l.c a.c b.c).length f0, .slice F1 (mergeO a.r b.r).length f1, .slice F2 (mergeP l.p a.p b.p).length f2], .int .i64 0]) (by simp [results, Tryz.results18, go_sem, z0, z1, z2]) rfl ⟨[_, _, _], by rw [HE.out], by rw [HE.out]; exact StV_of R9.out RR9.out RP9.out, HB9.out⟩
end Go.Proofs.YtmcddoolniaehaaGreat.S
end
section
namespace Go.Proofs.YtmcddoolniaehaaGreat.S
open Go.RowKit Go.Shelf Go.Proofs.YtmcddoolniaehaaGreatW.PrintWords Go.Proofs.YtmcddoolniaehaaGreatW.PrintLast Go.Proofs.YtmcddoolniaehaaGreatW.PrintMore Go.Proofs.YtmcddoolniaehaaGreatW
set_option linter.unusedVariables false
set_option linter.unusedSimpArgs false
attribute [local go_sem] Oper.semAt_some
def dig (n : Nat) : Int := Go.bits .or .u8 ((n : Int) % 256) 128
def numL (n : Nat) : List Int := if h : 127 < n then dig n :: numL (n / 128) else [(n : Int)]
termination_by n
decreasing_by omega
theorem numL_big {n : Nat} (h : 127 < n) : numL n = dig n :: numL (n / 128) := by rw [numL, dif_pos h]
theorem numL_small {n : Nat} (h : ¬ 127 < n) : numL n = [(n : Int)] := by rw [numL, dif_neg h]
theorem numL_len : ∀ (k n : Nat), n < 128 ^ (k + 1) → (numL n).length ≤ k + 1
  | 0, n, h => by rw [numL_small (by simpa using (by omega : ¬ 127 < n))]; simp
  | k + 1, n, h => by
    by_cases hb : 127 < n
    · rw [numL_big hb]
      have := numL_len k (n / 128) (by rw [Nat.div_lt_iff_lt_mul (by decide)]; rw [Nat.pow_succ] at h; exact h)
      simp
      omega
    · rw [numL_small hb]; simp
theorem numL_ten {n : Nat} (h : n < 18446744073709551616) : (numL n).length ≤ 10 := numL_len 9 n (by
  have : (128 : Nat) ^ (9 + 1) = 1180591620717411303424 := by decide
  omega)
def leftN (g : Nat) (W : World) : Nat := match W.cell? ⟨g, 0, none⟩ with
  | some (.int _ n) => n.toNat
  | _ => 0
theorem leftN_eq {g : Nat} {W : World} {N : Nat} (h : W.cell? ⟨g, 0, none⟩ = some (.int .u64 (N : Int))) : leftN g W = N := by
  unfold leftN
  rw [h]
  simp
set_option maxRecDepth 100000 in
set_option maxHeartbeats 1000000 in
theorem digits1_in (l g : Nat) (N0 : Nat) (hN : N0 < 18446744073709551616) (J : List Int → World → Prop) (hJs : ∀ pre W v, J pre W → J pre (W.setCell ⟨g, 0, none⟩ v))
    (hY : ∀ pre x W, J pre W → pre.length < (numL N0).length → YieldAt Fence.wide 2 Tryz.prog l #[.int .u8 x] W fun e W' => e = .returned (.bool true) ∧ J (pre ++ [x]) W' ∧ W'.heap[g]? = W.heap[g]?)
    (W : World) (hB : W.heap[g]? = some (.cells #[.int .u64 (N0 : Int)] 76 (0, 0))) (h0 : J [] W) :
    CallsIn Fence.wide 3 Tryz.prog 117 #[.func (.yield l) #[] #[], .pointer (some ⟨g, 0, none⟩)] W fun e W' => (∃ v, e = .returned v) ∧ J (numL N0) W' := by
  refine callsIn_of_wp Tryz.func117 rfl trivial ?_ rfl
  simp only [Tryz.ntmps117, List.size_toArray, List.length_cons, List.length_nil, Nat.reduceAdd, Nat.reduceSub, Array.replicate_succ, Array.replicate_zero, List.push_toArray, List.append_toArray, List.nil_append, List.cons_append]
  gi_wp2
  gi_loopw [] (fun wr => ∃ (pre : List Int) (N : Nat), numL N0 = pre ++ numL N ∧ N < 18446744073709551616 ∧ wr.heap[g]? = some (.cells #[.int .u64 (N : Int)] 76 (0, 0)) ∧ J pre wr) (fun wr => leftN g wr)
  case atStart => exact ⟨[], N0, rfl, hN, hB, h0⟩
  case round =>
    obtain ⟨pre, N, hx, hNl, hg, hJ⟩ := hrel
    have hc : wr.cell? ⟨g, 0, none⟩ = some (.int .u64 (N : Int)) := blk_cell hg 0
    have hm := leftN_eq hc
    by_cases hb : 127 < N
    · have hbi : (127 : Int) < (N : Int) := by omega
      obtain ⟨fn, tmps, assign, body, hy, hR⟩ := hY pre (dig N) wr hJ (by rw [hx, numL_big hb]; simp)
      unfold dig at hy
      gi_wp2
      refine hR.mono ?_
      rintro e W3 ⟨rfl, hJ3, hk3⟩
      have hg3 := hk3.trans hg
      have hc3 : W3.cell? ⟨g, 0, none⟩ = some (.int .u64 (N : Int)) := blk_cell hg3 0
      have hf3 := blk_frozen hg3 0
      have hq : ((N / 128 : Nat) : Int) = (N : Int) / 128 := by omega
      have hgs : (W3.setCell ⟨g, 0, none⟩ (.int .u64 ((N : Int) / 128))).heap[g]? = some (.cells #[.int .u64 ((N / 128 : Nat) : Int)] 76 (0, 0)) := by rw [hq]; exact blk_set hg3 0 _
      have hms := leftN_eq (N := N / 128) (blk_cell hgs 0)
      clear hq
      gi_wp2
      go_roundw
      case rel => exact ⟨pre ++ [dig N], N / 128, by rw [hx, numL_big hb]; simp, by omega, hgs, hJs _ _ _ hJ3⟩
      case measure => rw [hm, hms]; omega
    · have hbi : ¬ ((127 : Int) < (N : Int)) := by omega
      obtain ⟨fn, tmps, assign, body, hy, hR⟩ := hY pre (N : Int) wr hJ (by rw [hx, numL_small hb]; simp)
      gi_wp2
      refine hR.mono ?_
      rintro e W3 ⟨rfl, hJ3, hk3⟩
      gi_wp2
      go_end0
      exact ⟨⟨_, rfl⟩, by rw [hx, numL_small hb]; exact hJ3⟩
end Go.Proofs.YtmcddoolniaehaaGreat.S
end
section
namespace Go.Proofs.YtmcddoolniaehaaGreat.S
open Go.RowKit Go.Shelf Go.Proofs.YtmcddoolniaehaaGreatW.PrintWords Go.Proofs.YtmcddoolniaehaaGreatW.PrintLast Go.Proofs.YtmcddoolniaehaaGreatW.PrintMore Go.Proofs.YtmcddoolniaehaaGreatW
set_option linter.unusedVariables false
set_option linter.unusedSimpArgs false
attribute [local go_sem] Oper.semAt_some
set_option maxHeartbeats 1000000 in
theorem digits_calls (N : Int) (w : World) :
    CallsIn Fence.wide 3 Tryz.prog 97 #[.int .u64 N] w fun e w' => e = .returned (.func (.func 117) #[] #[.pointer (some ⟨w.heap.size, 0, none⟩)]) ∧ w' = w.alloc (.cells #[.int .u64 N] 76) := by
  refine callsIn_of_wp Tryz.func97 rfl trivial ?_ rfl
  simp only [Tryz.ntmps97, List.size_toArray, List.length_cons, List.length_nil, Nat.reduceAdd, Nat.reduceSub, Array.replicate_succ, Array.replicate_zero, List.push_toArray, List.append_toArray, List.nil_append, List.cons_append]
  gi_wp2
  go_ret
  exact ⟨rfl, rfl⟩
theorem infoB : (Tryz.prog.info? 5).map (fun i => (i.zero, i.size, i.bytes)) = some (some (.int .u8 0), 1, 1) := by kernel_rfl
def NumJ (w : World) (st : Loop) (pre : List Int) (W : World) : Prop :=
  (∃ v, Boxed W w.heap.size 37 v ∧ W.ownsRow w.heap.size 5 1 v pre.length (pre.map (Value.int .u8))) ∧ (∃ u, Boxed W (w.heap.size + 1) 76 u) ∧ W.heap[w.heap.size + 3]? = some (.loop st) ∧ W.heap[w.heap.size + 2]? = some (.deferred (some [])) ∧ Below w.heap.size w W
theorem NumJ_set {w : World} {st : Loop} (pre : List Int) (W : World) (u : Value) (h : NumJ w st pre W) : NumJ w st pre (W.setCell ⟨w.heap.size + 1, 0, none⟩ u) := by
  obtain ⟨⟨v, hv, hr⟩, ⟨u0, hu⟩, hl, hd, hB⟩ := h
  have hg := grownBy_setCell' W (w.heap.size + 1) u
  exact ⟨⟨v, hv.kept hg (by simp), hr.kept hg (.inr (hu.not_row (by decide) hr).symm)⟩, ⟨u, hu.set u⟩, (hg.block _ (Array.getElem?_eq_some_iff.1 hl).1 (by simp)).trans hl, (hg.block _ (Array.getElem?_eq_some_iff.1 hd).1 (by simp)).trans hd, below_set hB (Nat.le_succ _)⟩
theorem range_enter {n : Nat} (hn : 1 ≤ n) {P : Program} {g : Operand} {ps : Array Tmp} {assign body : Code} {Q : Exit → Act → World → Prop} {a : Act} {W0 : World} {gf : Nat} {lb : Array Value} (hg : a.eval g = .func (.func gf) #[] lb)
    (eg : ∀ args w, (callFunc gf args).run P w = .ok (.enter gf args) w)
    (h : ∀ fn, CallsIn Fence.wide (n - 1) P gf (#[.func (.yield (W0.heap.size + 1)) #[] #[]] ++ lb)
      ((W0.alloc (.deferred (some []))).alloc (.loop { state := .ready, pending := none, fn := fn, tmps := a.tmps, params := ps, assign := assign, body := body, defers := W0.heap.size }))
      (rangePost Fence.wide n P (W0.heap.size + 1) Q { a with defers := { target := .collected W0.heap.size, args := #[] } :: a.defers })) :
    (Code.rangeFunc g ps assign body).wpIn Fence.wide n P Q a W0 := by
  refine wpIn_rangeFunc (fun fn _ => ?_)
  obtain ⟨W1, hW1⟩ : ∃ W1, ((W0.alloc (.deferred (some []))).alloc (.loop { state := .ready, pending := none, fn := fn, tmps := a.tmps, params := ps, assign := assign, body := body, defers := W0.heap.size })) = W1 := ⟨_, rfl⟩
  have h := h fn
  rw [hW1] at h
  exact ⟨W0.heap.size + 1, _, W1, { target := .fn (.func gf) lb, args := #[.func (.yield (W0.heap.size + 1)) #[] #[]] }, W1, gf, _, W1, hW1 ▸ run_enterLoop_outer _ _ _ _ _, by simp only [resolve, rangeCall, hg]; simp [go_sem], fun _ _ => trivial, by simp [invoke, go_sem, eg], fun _ => hn, h⟩
set_option maxRecDepth 100000 in
set_option maxHeartbeats 2000000 in
theorem num_calls (N : Nat) (hN : N < 18446744073709551616) (w : World) :
    Calls Tryz.prog 55 #[.int .u64 (N : Int)] w fun e w' => ∃ v, e = .returned v ∧ w'.ownsRow w.heap.size 5 1 v (numL N).length ((numL N).map (Value.int .u8)) ∧ Below w.heap.size w w' := by
  refine (callsIn_wide (n := 4)).1 ?_
  obtain ⟨i0, hi, hz0, hz1, hz2⟩ := info_parts infoB
  have hten := numL_ten hN
  refine callsIn_of_wp_marks Tryz.func55 rfl trivial ?_ rfl
  simp only [Tryz.ntmps55, List.size_toArray, List.length_cons, List.length_nil, Nat.reduceAdd, Nat.reduceSub, Array.replicate_succ, Array.replicate_zero, List.push_toArray, List.append_toArray, List.nil_append, List.cons_append]
  gi_wp2_with (refine ⟨trivial, ?_⟩; gi_at_call 97; refine (digits_calls _ _).mono ?_; rintro e w' ⟨rfl, rfl⟩)
  have bO := Boxed.new w 37 (.slice none 0 0)
  have bN := Boxed.new (w.alloc (.cells #[.slice none 0 0] 37)) 76 (.int .u64 (N : Int))
  rw [World.size_alloc] at bN
  have hB0 : Below w.heap.size w ((w.alloc (.cells #[.slice none 0 0] 37)).alloc (.cells #[.int .u64 (N : Int)] 76)) := below_alloc (below_alloc (Below.refl _ w) _) _
  have hsz : ((w.alloc (.cells #[.slice none 0 0] 37)).alloc (.cells #[.int .u64 (N : Int)] 76)).heap.size = w.heap.size + 2 := by simp
  replace bO := bO.alloc (.cells #[.int .u64 (N : Int)] 76)
  revert bO bN hB0 hsz
  generalize ((w.alloc (.cells #[.slice none 0 0] 37)).alloc (.cells #[.int .u64 (N : Int)] 76)) = W0
  intro bN hB0 hsz bO
  refine range_enter (by decide) rfl (enters_of Tryz.func117 (by kernel_rfl) rfl) (fun fn => ?_)
  obtain ⟨st, hst⟩ : ∃ st : Loop, st = _ := ⟨{ state := .ready, pending := none, fn := fn, tmps := _, params := _, assign := _, body := _, defers := W0.heap.size }, rfl⟩
  rw [← hst, hsz]
  refine (digits1_in (w.heap.size + 3) (w.heap.size + 1) N hN (NumJ w st) NumJ_set ?hround _ ?hB ?h0).mono ?hpost
  case hround =>
    rintro pre x W ⟨⟨v, hv, hr⟩, ⟨u, hu⟩, hl, hd, hB⟩ hlen
    have hy := run_yield (P := Tryz.prog) (args := #[Value.int .u8 x]) hl (by rw [hst]; rfl)
    have hbr := run_beginRound (P := Tryz.prog) hl (by rw [hst])
    obtain ⟨st2, hst2⟩ : ∃ st2 : Loop, st2 = { st with state := .busy } := ⟨_, rfl⟩
    rw [← hst2] at hbr
    have her : Aside0 (∀ (W3 : World), W3.heap[w.heap.size + 3]? = some (.loop st2) → (Instr.endRound (w.heap.size + 3) none).run Tryz.prog W3 = .ok (.bool true) (W3.putObj (w.heap.size + 3) (.loop st))) := ⟨fun W3 h => by
      have h2 := run_endRound (P := Tryz.prog) none h
      rw [hst2, hst] at h2
      rw [hst]
      exact h2⟩
    have hg1 := grownBy_putObj' W (w.heap.size + 3) (.loop st2)
    have hv1 := hv.kept hg1 (by simp)
    have hr1 := ownsRow_putObj hr (.loop st2) hl rfl
    have hu1 := hu.kept hg1 (by simp)
    have hl1 : (W.putObj (w.heap.size + 3) (.loop st2)).heap[w.heap.size + 3]? = some (.loop st2) := World.putObj_heap_same (Array.getElem?_eq_some_iff.1 hl).1
    have hd1 : (W.putObj (w.heap.size + 3) (.loop st2)).heap[w.heap.size + 2]? = some (.deferred (some [])) := (World.putObj_heap_other (by omega)).trans hd
    have hB1 : Below w.heap.size w (W.putObj (w.heap.size + 3) (.loop st2)) := hB.grown hg1 hB.size (fun k e => by cases e; omega)
    have hug : (W.putObj (w.heap.size + 3) (.loop st2)).heap[w.heap.size + 1]? = W.heap[w.heap.size + 1]? := World.putObj_heap_other (by omega)
    rw [hst] at hy
    dsimp only at hy
    refine ⟨_, _, _, _, hy, roundIn_of_wpIn trivial ?_⟩
    clear hy
    have hassign : ∀ (K : Act → World → Prop), K { tmps := #[.int .u64 (N : Int), undef, .slice none 0 0, .pointer (some ⟨w.heap.size, 0, none⟩), .int .u8 x, .int .u64 (N : Int), .func (.func 117) #[] #[.pointer (some ⟨w.heap.size + 1, 0, none⟩)], .int .u8 x, undef, undef, undef, undef, undef], defers := [] } W → Code.wpIn (Fence.wide.inRound (w.heap.size + 3)) 2 Tryz.prog st.assign (Exit.then K (fun _ _ _ => False)) { tmps := (#[7].zip #[Value.int .u8 x]).foldl (fun t (p, v) => t.setIfInBounds p v) st.tmps, defers := [] } W := by
      intro K hK
      rw [hst]
      gi_wp2
      exact hK
    rw [hst] at hassign
    refine hassign _ ⟨_, hbr, ?_⟩
    clear hbr hassign hst
    revert hv1 hr1 hu1 hl1 hd1 hB1 hug
    generalize W.putObj (w.heap.size + 3) (.loop st2) = W1
    intro hv1 hr1 hu1 hl1 hd1 hB1 hug
    have hc := hv1.cell
    have HL := Aside0.mk hl1
    have HD := Aside0.mk hd1
    have HU := Aside0.mk hug
    clear hl1 hd1 hug hl hd hv hr hu hB hg1 hst2
    have hle := hB1.size
    gi_wp2_with (gi_at_builtin; refine wpListIn_append_own _ rfl _ _ 37 rfl w.heap.size 5 i0 (.int .u8 0) 1 1 Tryz.underlying37 hi hz0 hz1 hz2 rfl (by decide) _ _ _ rfl (hr1.alloc _) ⟨W1.heap.size, 0, none⟩ 1 1 [.int .u8 x] rfl rfl (cell_one_new _ _ _) (by simp [Value.oneCell']) (by unfold maxLen; omega) (by omega) (by simp; omega) ?_; intro v' w1 hown' hgrow _; obtain ⟨g', cap', rfl⟩ := ownsRow_succ hown'; obtain ⟨hv1', hv2, hr2, hk2, hb2⟩ := hv1.appended (by decide) hr1 hle (Nat.le_refl _) hown' hgrow; have hc1 := hv1'.cell; have hf1 := hv1'.frozen)
    have hgu : (w1.setCell ⟨w.heap.size, 0, none⟩ (.slice (some ⟨g', 0, none⟩) (pre.length + 1) cap')).heap[w.heap.size + 1]? = W1.heap[w.heap.size + 1]? :=
      (Below.heap_setCell w1 ⟨w.heap.size, 0, none⟩ _ _ (by show w.heap.size + 1 ≠ w.heap.size; omega)).trans ((hgrow.block _ (by have := hu1.lt; simp; omega) (hu1.not_row (by decide) hr1)).trans (Below.heap_alloc W1 _ _ hu1.lt))
    have hl2 := hk2.same _ _ HL.out rfl
    have hd2 := hk2.same _ _ HD.out rfl
    have hB2 := hB1.trans hb2
    have hu2 : Boxed (w1.setCell ⟨w.heap.size, 0, none⟩ (.slice (some ⟨g', 0, none⟩) (pre.length + 1) cap')) (w.heap.size + 1) 76 u := hgu.trans hu1
    have hgu2 := hgu.trans HU.out
    clear hgu hk2 hb2 hv1' hown' hgrow hc1 hf1 hB1 hu1 hr1 hv1 hc
    revert hv2 hr2 hl2 hd2 hB2 hu2 hgu2
    generalize (w1.setCell ⟨w.heap.size, 0, none⟩ (.slice (some ⟨g', 0, none⟩) (pre.length + 1) cap')) = V
    intro hv2 hr2 hl2 hd2 hB2 hu2 hgu2
    have hgp := grownBy_putObj' V (w.heap.size + 3) (.loop st)
    refine ⟨_, _, her.out V hl2, rfl, ⟨⟨_, hv2.kept hgp (by simp), ?_⟩, ⟨u, hu2.kept hgp (by simp)⟩, World.putObj_heap_same (Array.getElem?_eq_some_iff.1 hl2).1, (World.putObj_heap_other (by omega)).trans hd2, hB2.grown hgp hB2.size (fun k e => by cases e; omega)⟩, (World.putObj_heap_other (by omega)).trans hgu2⟩
    rw [List.length_append, List.map_append]
    exact ownsRow_putObj hr2 _ hl2 rfl
  case hB => exact (Below.heap_alloc _ _ _ (by simp; omega)).trans ((Below.heap_alloc _ _ _ (by omega)).trans bN)
  case h0 =>
    refine ⟨⟨_, (bO.alloc _).alloc _, World.ownsRow_nil _ _ _ _⟩, ⟨_, (bN.alloc _).alloc _⟩, ?_, ?_, below_alloc (below_alloc hB0 _) _⟩
    · have := World.alloc_heap_new (W0.alloc (.deferred (some []))) (.loop st)
      rw [World.size_alloc, hsz] at this
      exact this
    · have := World.alloc_heap_new W0 (.deferred (some []))
      rw [hsz] at this
      exact (Below.heap_alloc _ _ _ (by simp; omega)).trans this
  case hpost =>
    rintro e W' ⟨⟨v0, rfl⟩, ⟨v, hv, hr⟩, hu, hl, hd, hB⟩
    have hel := run_endLoop (P := Tryz.prog) hl (by rw [hst]; simp)
    refine ⟨none, _, by rw [hel, hst], ?_⟩
    obtain ⟨st2, hst2⟩ : ∃ st2 : Loop, st2 = { st with state := .exhausted } := ⟨_, rfl⟩
    have hgp := grownBy_putObj' W' (w.heap.size + 3) (.loop st2)
    have hv2 := hv.kept hgp (by simp)
    have hr2 := ownsRow_putObj hr (.loop st2) hl rfl
    have hd2 : (W'.putObj (w.heap.size + 3) (.loop st2)).heap[w.heap.size + 2]? = some (.deferred (some [])) := (World.putObj_heap_other (by omega)).trans hd
    have hB2 : Below w.heap.size w (W'.putObj (w.heap.size + 3) (.loop st2)) := hB.grown hgp hB.size (fun k e => by cases e; omega)
    rw [hst] at hst2
    rw [← hst2]
    clear hel hst hst2 hgp hv hr hd hB hu hl
    revert hv2 hr2 hd2 hB2
    generalize (W'.putObj (w.heap.size + 3) (.loop st2)) = V
    intro hv2 hr2 hd2 hB2
    have hc := hv2.cell
    gi_wp2
    refine ⟨by simp, .inl ⟨_, _, rfl, run_takeDeferred hd2, ?_⟩⟩
    exact ⟨_, results_tmp rfl _ _ _, v, rfl, ownsRow_putObj hr2 _ hd2 rfl, hB2.grown (grownBy_putObj' V (w.heap.size + 2) (.deferred none)) hB2.size (fun k e => by cases e; omega)⟩
end Go.Proofs.YtmcddoolniaehaaGreat.S
end
section
namespace Go.Proofs.YtmcddoolniaehaaGreat.S
open Go.RowKit Go.Proofs.YtmcddoolniaehaaGreatW.PrintWords Go.Proofs.YtmcddoolniaehaaGreatW.PrintLast Go.Proofs.YtmcddoolniaehaaGreatW.PrintMore Go.Proofs.YtmcddoolniaehaaGreatW
set_option linter.unusedVariables false
set_option linter.unusedSimpArgs false
def bytesL (s : ByteArray) : List Int := s.data.toList.map (fun b => (b.toNat : Int))
def textL (s : ByteArray) : List Int := numL s.size ++ bytesL s
theorem bytesL_length (s : ByteArray) : (bytesL s).length = s.size := by simp [bytesL]
set_option maxHeartbeats 1000000 in
set_option maxRecDepth 100000 in
theorem text_calls (s : ByteArray) (w : World) (hs : s.size ≤ 1000000) :
    Calls Tryz.prog 96 #[.string s] w fun e w' => ∃ v, e = .returned v ∧ w'.ownsRow w.heap.size 5 1 v (textL s).length (nums .u8 (textL s)) ∧ Below w.heap.size w w' := by
  obtain ⟨i0, hi, hz0, hz1, hz2⟩ := info_parts infoB
  have hN : s.size < 18446744073709551616 := by omega
  have hten := numL_ten hN
  have HN := Aside0.mk (num_calls s.size hN w)
  clear hN
  go_enter Tryz.func96, Tryz.ntmps96
  go_wp2_with fail
  refine HN.out.mono ?_
  rintro e w1 ⟨v, rfl, ho, hb⟩
  have HO1 := Aside0.mk ho
  have HB1 := Aside0.mk hb
  clear ho hb HN
  go_wp2_with (at_builtin; refine Lib.wpList_append_own_string _ rfl _ _ _ _ rfl w.heap.size 5 i0 Tryz.underlying37 Tryz.underlying9 hi hz0 hz1 hz2 _ _ _ rfl HO1.out s rfl (by unfold maxLen; omega) (by omega) HB1.out.size ?_; intro v' w2 ho2 hg _; have HB := Aside0.mk (HB1.out.grown hg HB1.out.size (own_base HO1.out)); have HO := Aside0.mk ho2; clear ho2 hg HO1 HB1)
  go_ret
  refine ⟨_, rfl, ?_, HB.out⟩
  have h := HO.out
  rw [show (textL s).length = (numL s.size).length + s.size by simp [textL, bytesL_length]]
  rw [show nums .u8 (textL s) = (numL s.size).map (Value.int .u8) ++ Lib.strCells s by simp [nums, textL, bytesL, Lib.strCells]]
  exact h
end Go.Proofs.YtmcddoolniaehaaGreat.S
end
section
namespace Go.Proofs.YtmcddoolniaehaaGreat.S
open Go.RowKit Go.Proofs.YtmcddoolniaehaaGreatW.PrintWords Go.Proofs.YtmcddoolniaehaaGreatW.PrintLast Go.Proofs.YtmcddoolniaehaaGreatW.PrintMore Go.Proofs.YtmcddoolniaehaaGreatW
set_option linter.unusedVariables false
set_option linter.unusedSimpArgs false
def numI (n : Int) : List Int := numL (n % 18446744073709551616).toNat
theorem wrap_u64 (x : Int) : IntKind.u64.wrap x = x % 18446744073709551616 := by simp [IntKind.wrap, IntKind.signed, IntKind.bits]
theorem numL_pos (n : Nat) : 0 < (numL n).length := by
  by_cases hb : 127 < n
  · rw [numL_big hb]; simp
  · rw [numL_small hb]; simp
theorem numI_ten (n : Int) : (numI n).length ≤ 10 := numL_ten (by omega)
theorem own_news {w : World} {base : Nat} {v : Value} {xs : List Int} (h : w.ownsRow base 5 1 v xs.length (nums .u8 xs)) (hp : 0 < xs.length) : ∃ ad c, v = .slice (some ad) xs.length c ∧ ∀ j u, (nums .u8 xs)[j]? = some u → w.cell? (ad.add j) = some u := by
  rcases h.2 with ⟨_, h0⟩ | ⟨g, cap, cur, rfl, _, hg, hnc, hcm, hcs, htake⟩
  · omega
  · refine ⟨⟨g, 0, none⟩, cap, rfl, fun j u hj => ?_⟩
    exact h.cells (g := g) rfl j u hj
theorem own_app {w : World} {base e : Nat} {v : Value} {a b : List Int} (h : w.ownsRow base e 1 v (a.length + b.length) (nums .u8 a ++ nums .u8 b)) : w.ownsRow base e 1 v (a ++ b).length (nums .u8 (a ++ b)) := by
  rw [List.length_append, show nums .u8 (a ++ b) = nums .u8 a ++ nums .u8 b from List.map_append]
  exact h
theorem nums_one (xs : List Int) : ∀ u ∈ nums .u8 xs, u.oneCell' = true := by
  intro u hu
  obtain ⟨x, _, rfl⟩ := List.mem_map.1 hu
  rfl
def Wr (w0 : World) (wb : Nat) (out : List Int) (w : World) : Prop :=
  ∃ v, w.heap[wb]? = some (.cells #[v] 70 (0, 0)) ∧ w.ownsRow w0.heap.size 5 1 v out.length (nums .u8 out)
theorem Wr.below {w0 w w1 : World} {wb : Nat} {out : List Int} (h : Wr w0 wb out w) (hb : Below w.heap.size w w1) : Wr w0 wb out w1 := by
  obtain ⟨v, h1, h2⟩ := h
  exact ⟨v, blk_below h1 hb, pw_own_below h2 hb⟩
def KeepT (wb : Nat) (w w' : World) : Prop := ∀ k cs t, w.heap[k]? = some (.cells cs t (0, 0)) → t ≠ 5 → k ≠ wb → w'.heap[k]? = some (.cells cs t (0, 0))
theorem KeepT.refl (wb : Nat) (w : World) : KeepT wb w w := fun _ _ _ h _ _ => h
theorem KeepT.trans {wb : Nat} {w w1 w2 : World} (h : KeepT wb w w1) (h2 : KeepT wb w1 w2) : KeepT wb w w2 := fun k cs t e ht hk => h2 k cs t (h k cs t e ht hk) ht hk
theorem KeepT.below {wb : Nat} {w w1 w2 : World} (h : KeepT wb w w1) (hb : Below w1.heap.size w1 w2) : KeepT wb w w2 := fun k cs t e ht hk => blk_below (h k cs t e ht hk) hb
theorem KeepT.grown {wb : Nat} {w w1 w2 : World} (h : KeepT wb w w1) {base : Nat} {v : Value} {n : Nat} {xs : List Value} (ho : w1.ownsRow base 5 1 v n xs) (hg : w1.grownBy w2 v.ownBlock) : KeepT wb w w2 := fun k cs t e ht hk => by
  have h1 := h k cs t e ht hk
  exact (hg.block k (blk_lt h1) (own_ne ho h1 (fun e => ht e.symm))).trans h1
theorem KeepT.set {wb : Nat} {w w1 : World} (h : KeepT wb w w1) (u : Value) : KeepT wb w (w1.setCell ⟨wb, 0, none⟩ u) := fun k cs t e ht hk => blk_far (h k cs t e ht hk) (p := ⟨wb, 0, none⟩) hk u
theorem flat_ten : ∀ xs : List Int, (xs.flatMap numI).length ≤ 10 * xs.length
  | [] => by simp
  | x :: xs => by
    have h1 := flat_ten xs
    have h2 := numI_ten x
    rw [List.flatMap_cons, List.length_append, List.length_cons]
    omega
set_option maxHeartbeats 4000000 in
set_option maxRecDepth 100000 in
theorem numbers_calls (w0 : World) (wb g : Nat) (xs out : List Int) (w : World) (hB : Below w0.heap.size w0 w) (hbase : w0.heap.size ≤ wb) (hw : Wr w0 wb out w)
    (hx : w.heap[g]? = some (.cells (xs.map (Value.int .i64)).toArray 3 (0, 0))) (hlim : out.length + 10 * xs.length ≤ 1000000000) (hne : g ≠ wb) :
    Calls Tryz.prog 53 #[.pointer (some ⟨wb, 0, none⟩), .slice (some ⟨g, 0, none⟩) xs.length xs.length] w fun e w' => e = .returned (.tuple #[]) ∧ Wr w0 wb (out ++ xs.flatMap numI) w' ∧ Below w0.heap.size w0 w' ∧ KeepT wb w w' := by
  have HX := Aside0.mk hx
  have HW := Aside0.mk hw
  have HB := Aside0.mk hB
  have HLIM := Aside0.mk hlim
  have HNE := Aside0.mk hne
  clear hx hw hB hlim hne
  go_enter Tryz.func53, Tryz.ntmps53
  go_wp2
  go_loopw [8] (fun i wr => ∃ k : Nat, k ≤ xs.length ∧ i = .int .i64 k ∧ Aside0 (Wr w0 wb (out ++ (xs.take k).flatMap numI) wr) ∧ Aside0 (wr.heap[g]? = some (.cells (xs.map (Value.int .i64)).toArray 3 (0, 0))) ∧ Aside0 (Below w0.heap.size w0 wr) ∧ Aside0 (KeepT wb w wr)) (fun i _ => xs.length - (intOf i).toNat)
  case atStart => exact ⟨0, Nat.zero_le _, rfl, ⟨by simpa using HW.out⟩, HX, HB, ⟨KeepT.refl _ _⟩⟩
  case round =>
    clear HX HW HB
    obtain ⟨k, hk, rfl, HW, HX, HB, HK⟩ := hrel
    by_cases hlt : k < xs.length
    · have hcx : wr.cell? ⟨g, k, none⟩ = some (.int .i64 xs[k]) := by
        have := blk_cell HX.out k
        rw [this]
        simp [hlt]
      have hk0 : (0 : Int) ≤ (k : Int) := Int.natCast_nonneg _
      have hk1 : (k : Int) < (xs.length : Int) := by omega
      have hkm : k ≤ 1000000000 := by have := HLIM.out; omega
      obtain ⟨i0, hi, hz0, hz1, hz2⟩ := info_parts infoB
      have HT : Aside0 ((xs.take (k + 1)).flatMap numI = (xs.take k).flatMap numI ++ numI xs[k]) := ⟨by rw [List.take_succ_eq_append_getElem hlt, List.flatMap_append]; simp⟩
      have HTL : Aside0 (((xs.take k).flatMap numI).length ≤ 10 * k) := ⟨by
        have h := flat_ten (xs.take k)
        rw [List.length_take] at h
        omega⟩
      revert hcx HT HTL HW
      generalize (xs.take k).flatMap numI = pre
      generalize xs[k] = x
      intro HW hcx HT HTL
      obtain ⟨v, hv, ho⟩ := HW.out
      obtain ⟨A, c, rfl⟩ := own_slice ho
      have HNx : Aside0 (∀ W : World, Calls Tryz.prog 55 #[.int .u64 (IntKind.u64.wrap x)] W fun e w' => ∃ v, e = .returned v ∧ w'.ownsRow W.heap.size 5 1 v (numI x).length (nums .u8 (numI x)) ∧ Below W.heap.size W w') := ⟨fun W => by
        have h := num_calls (x % 18446744073709551616).toNat (by omega) W
        rw [show (((x % 18446744073709551616).toNat : Nat) : Int) = IntKind.u64.wrap x by rw [wrap_u64]; omega] at h
        exact h⟩
      have hcv : wr.cell? ⟨wb, 0, none⟩ = some (.slice A (out ++ pre).length c) := blk_cell hv 0
      have hfv := blk_frozen hv 0
      have HV := Aside0.mk hv
      have HO := Aside0.mk ho
      have HTEN := Aside0.mk (numI_ten x)
      have HPOS : Aside0 (0 < (numI x).length) := ⟨numL_pos _⟩
      have HLEN : Aside0 ((out ++ pre).length ≤ out.length + 10 * k) := ⟨by rw [List.length_append]; have := HTL.out; omega⟩
      clear hv ho HW HTL
      go_wp2_with fail
      go_region_law (first
        | (go_simp; go_at_call 55; (with_reducible refine (HNx.out _).mono ?_); rintro e w2 ⟨vn, rfl, hon, hbn⟩; obtain ⟨ad, cn, rfl, hnews⟩ := own_news hon HPOS.out; have HNEWS := Aside0.mk hnews; have HV2 := Aside0.mk (blk_below (blk_drew HV.out) hbn); have HX2 := Aside0.mk (blk_below (blk_drew HX.out) hbn); have HO2 := Aside0.mk (pw_own_below (own_drew HO.out) hbn); have HB2 := Aside0.mk (below_step (below_drew HB.out) hbn); have HK2 := Aside0.mk ((HK.out.below (below_drew (Below.refl _ wr))).below hbn); have hcv2 : w2.cell? ⟨wb, 0, none⟩ = some (.slice A (out ++ pre).length c) := blk_cell HV2.out 0; clear hon hbn hnews)
        | (refine step_append_lies _ rfl (.tmp 16) (.tmp 19) 37 rfl w0.heap.size 5 i0 (.int .u8 0) 1 1 Tryz.underlying37 hi hz0 hz1 hz2 (by rfl) (by decide) (.slice A (out ++ pre).length c) (out ++ pre).length (nums .u8 (out ++ pre)) (by simp [Act.eval, Act.put]) HO2.out ad (numI x).length cn (nums .u8 (numI x)) (by simp [Act.eval, Act.put]) (by simp [nums]) HNEWS.out (nums_one _) HPOS.out (by have := HLEN.out; have := HTEN.out; have := HLIM.out; unfold maxLen; omega) (by have := HLEN.out; have := HTEN.out; have := HLIM.out; omega) HB2.out.size _ rfl ?_; intro g2 cap2 w3 ho3 hg3 _ _; have hne := own_ne HO2.out HV2.out (by decide); have HV3 := Aside0.mk ((hg3.block wb (blk_lt HV2.out) hne).trans HV2.out); have HX3 := Aside0.mk ((hg3.block g (blk_lt HX2.out) (own_ne HO2.out HX2.out (by decide))).trans HX2.out); have HO3 := Aside0.mk ho3; have HB3 := Aside0.mk (HB2.out.grown hg3 HB2.out.size (own_base HO2.out)); have HK3 := Aside0.mk (HK2.out.grown HO2.out hg3); have hcv3 : w3.cell? ⟨wb, 0, none⟩ = some (.slice A (out ++ pre).length c) := blk_cell HV3.out 0; have hfv3 := blk_frozen HV3.out 0; clear ho3 hg3 hne))
      all_goals
        have HV4 := Aside0.mk (blk_set HV3.out 0 (.slice (some ⟨g2, 0, none⟩) ((out ++ pre).length + (numI x).length) cap2))
        simp only [List.setIfInBounds_toArray, List.set_cons_zero] at HV4
        have HX4 := Aside0.mk (blk_far HX3.out (p := ⟨wb, 0, none⟩) (HNE.out) (.slice (some ⟨g2, 0, none⟩) ((out ++ pre).length + (numI x).length) cap2))
        have HO4 := Aside0.mk (own_set HO3.out HV3.out (by decide) 0 (.slice (some ⟨g2, 0, none⟩) ((out ++ pre).length + (numI x).length) cap2))
        have HB4 := Aside0.mk (below_set (j := 0) (v := .slice (some ⟨g2, 0, none⟩) ((out ++ pre).length + (numI x).length) cap2) HB3.out hbase)
        have HK4 := Aside0.mk (HK3.out.set (.slice (some ⟨g2, 0, none⟩) ((out ++ pre).length + (numI x).length) cap2))
        have HW4 : Aside0 (Wr w0 wb (out ++ (pre ++ numI x)) _) := ⟨_, HV4.out, by rw [← List.append_assoc]; exact own_app HO4.out⟩
        rw [← HT.out] at HW4
        clear HV4 HO4 HV3 HO3 HX3 HB3 HV2 HO2 HX2 HB2 HV HO HX HB hcv hfv hcv2 hcv3 hfv3 hcx HNEWS HNx HT HLEN HTEN HPOS
        simp only [List.length_append] at HW4 HX4 HB4 HK4
        go_wp2
        go_roundw
        case rel => exact ⟨k + 1, by omega, by go_num, HW4, HX4, HB4, HK4⟩
        case measure => simp [intOf]; omega
    · have hkl : k = xs.length := by omega
      subst hkl
      have HF := HW.out
      rw [List.take_length] at HF
      have HF := Aside0.mk HF
      clear HW
      go_wp2
      go_end0
      exact ⟨rfl, HF.out, HB.out, HK.out⟩
end Go.Proofs.YtmcddoolniaehaaGreat.S
end
section
namespace Go.Proofs.YtmcddoolniaehaaGreat.S
open Go.RowKit Go.Proofs.YtmcddoolniaehaaGreatW.PrintWords Go.Proofs.YtmcddoolniaehaaGreatW.PrintLast Go.Proofs.YtmcddoolniaehaaGreatW.PrintMore Go.Proofs.YtmcddoolniaehaaGreatW
set_option linter.unusedVariables false
set_option linter.unusedSimpArgs false
def shortT (l : List ByteArray) : Prop := ∀ s ∈ l, s.size ≤ 1000
theorem textL_short {s : ByteArray} (h : s.size ≤ 1000) : (textL s).length ≤ 1010 := by
  have := numL_ten (n := s.size) (by omega)
  simp only [textL, List.length_append, bytesL_length]
  omega
theorem textL_pos (s : ByteArray) : 0 < (textL s).length := by
  have := numL_pos s.size
  simp only [textL, List.length_append]
  omega
theorem flat_texts : ∀ xs : List ByteArray, shortT xs → (xs.flatMap textL).length ≤ 1010 * xs.length
  | [], _ => by simp
  | x :: xs, h => by
    have h1 := flat_texts xs (fun s hs => h s (List.mem_cons_of_mem _ hs))
    have h2 := textL_short (h x List.mem_cons_self)
    rw [List.flatMap_cons, List.length_append, List.length_cons]
    omega
set_option maxHeartbeats 4000000 in
set_option maxRecDepth 100000 in
theorem texts_calls (w0 : World) (wb g : Nat) (xs : List ByteArray) (out : List Int) (w : World) (hS : shortT xs) (hB : Below w0.heap.size w0 w) (hbase : w0.heap.size ≤ wb) (hw : Wr w0 wb out w)
    (hx : w.heap[g]? = some (.cells (xs.map Value.string).toArray 9 (0, 0))) (hlim : out.length + 1010 * xs.length ≤ 1000000000) (hne : g ≠ wb) :
    Calls Tryz.prog 54 #[.pointer (some ⟨wb, 0, none⟩), .slice (some ⟨g, 0, none⟩) xs.length xs.length] w fun e w' => e = .returned (.tuple #[]) ∧ Wr w0 wb (out ++ xs.flatMap textL) w' ∧ Below w0.heap.size w0 w' ∧ KeepT wb w w' := by
  have HX := Aside0.mk hx
  have HW := Aside0.mk hw
  have HB := Aside0.mk hB
  have HLIM := Aside0.mk hlim
  have HNE := Aside0.mk hne
  clear hx hw hB hlim hne
  go_enter Tryz.func54, Tryz.ntmps54
  go_wp2
  go_loopw [8] (fun i wr => ∃ k : Nat, k ≤ xs.length ∧ i = .int .i64 k ∧ Aside0 (Wr w0 wb (out ++ (xs.take k).flatMap textL) wr) ∧ Aside0 (wr.heap[g]? = some (.cells (xs.map Value.string).toArray 9 (0, 0))) ∧ Aside0 (Below w0.heap.size w0 wr) ∧ Aside0 (KeepT wb w wr)) (fun i _ => xs.length - (intOf i).toNat)
  case atStart => exact ⟨0, Nat.zero_le _, rfl, ⟨by simpa using HW.out⟩, HX, HB, ⟨KeepT.refl _ _⟩⟩
  case round =>
    clear HX HW HB
    obtain ⟨k, hk, rfl, HW, HX, HB, HK⟩ := hrel
    by_cases hlt : k < xs.length
    · have hcx : wr.cell? ⟨g, k, none⟩ = some (.string xs[k]) := by
        have := blk_cell HX.out k
        rw [this]
        simp [hlt]
      have hk0 : (0 : Int) ≤ (k : Int) := Int.natCast_nonneg _
      have hk1 : (k : Int) < (xs.length : Int) := by omega
      have hkm : k ≤ 1000000000 := by have := HLIM.out; omega
      obtain ⟨i0, hi, hz0, hz1, hz2⟩ := info_parts infoB
      have HT : Aside0 ((xs.take (k + 1)).flatMap textL = (xs.take k).flatMap textL ++ textL xs[k]) := ⟨by rw [List.take_succ_eq_append_getElem hlt, List.flatMap_append]; simp⟩
      have HTL : Aside0 (((xs.take k).flatMap textL).length ≤ 1010 * k) := ⟨by
        have h := flat_texts (xs.take k) (fun s hs => hS s (List.mem_of_mem_take hs))
        rw [List.length_take] at h
        omega⟩
      have HSX : Aside0 (xs[k].size ≤ 1000) := ⟨hS _ (List.getElem_mem _)⟩
      revert hcx HT HTL HW HSX
      generalize (xs.take k).flatMap textL = pre
      generalize xs[k] = x
      intro HW hcx HT HTL HSX
      obtain ⟨v, hv, ho⟩ := HW.out
      obtain ⟨A, c, rfl⟩ := own_slice ho
      have HNx : Aside0 (∀ W : World, Calls Tryz.prog 96 #[.string x] W fun e w' => ∃ v, e = .returned v ∧ w'.ownsRow W.heap.size 5 1 v (textL x).length (nums .u8 (textL x)) ∧ Below W.heap.size W w') := ⟨fun W => text_calls x W (by have := HSX.out; omega)⟩
      have hcv : wr.cell? ⟨wb, 0, none⟩ = some (.slice A (out ++ pre).length c) := blk_cell hv 0
      have hfv := blk_frozen hv 0
      have HV := Aside0.mk hv
      have HO := Aside0.mk ho
      have HTEN := Aside0.mk (textL_short HSX.out)
      have HPOS : Aside0 (0 < (textL x).length) := ⟨textL_pos _⟩
      have HLEN : Aside0 ((out ++ pre).length ≤ out.length + 1010 * k) := ⟨by rw [List.length_append]; have := HTL.out; omega⟩
      clear hv ho HW HTL
      go_wp2_with fail
      go_region_law (first
        | (go_simp; go_at_call 96; (with_reducible refine (HNx.out _).mono ?_); rintro e w2 ⟨vn, rfl, hon, hbn⟩; obtain ⟨ad, cn, rfl, hnews⟩ := own_news hon HPOS.out; have HNEWS := Aside0.mk hnews; have HV2 := Aside0.mk (blk_below (blk_drew HV.out) hbn); have HX2 := Aside0.mk (blk_below (blk_drew HX.out) hbn); have HO2 := Aside0.mk (pw_own_below (own_drew HO.out) hbn); have HB2 := Aside0.mk (below_step (below_drew HB.out) hbn); have HK2 := Aside0.mk ((HK.out.below (below_drew (Below.refl _ wr))).below hbn); have hcv2 : w2.cell? ⟨wb, 0, none⟩ = some (.slice A (out ++ pre).length c) := blk_cell HV2.out 0; clear hon hbn hnews)
        | (refine step_append_lies _ rfl (.tmp 16) (.tmp 18) 37 rfl w0.heap.size 5 i0 (.int .u8 0) 1 1 Tryz.underlying37 hi hz0 hz1 hz2 (by rfl) (by decide) (.slice A (out ++ pre).length c) (out ++ pre).length (nums .u8 (out ++ pre)) (by simp [Act.eval, Act.put]) HO2.out ad (textL x).length cn (nums .u8 (textL x)) (by simp [Act.eval, Act.put]) (by simp [nums]) HNEWS.out (nums_one _) HPOS.out (by have := HLEN.out; have := HTEN.out; have := HLIM.out; unfold maxLen; omega) (by have := HLEN.out; have := HTEN.out; have := HLIM.out; omega) HB2.out.size _ rfl ?_; intro g2 cap2 w3 ho3 hg3 _ _; have hne := own_ne HO2.out HV2.out (by decide); have HV3 := Aside0.mk ((hg3.block wb (blk_lt HV2.out) hne).trans HV2.out); have HX3 := Aside0.mk ((hg3.block g (blk_lt HX2.out) (own_ne HO2.out HX2.out (by decide))).trans HX2.out); have HO3 := Aside0.mk ho3; have HB3 := Aside0.mk (HB2.out.grown hg3 HB2.out.size (own_base HO2.out)); have HK3 := Aside0.mk (HK2.out.grown HO2.out hg3); have hcv3 : w3.cell? ⟨wb, 0, none⟩ = some (.slice A (out ++ pre).length c) := blk_cell HV3.out 0; have hfv3 := blk_frozen HV3.out 0; clear ho3 hg3 hne))
      all_goals
        have HV4 := Aside0.mk (blk_set HV3.out 0 (.slice (some ⟨g2, 0, none⟩) ((out ++ pre).length + (textL x).length) cap2))
        simp only [List.setIfInBounds_toArray, List.set_cons_zero] at HV4
        have HX4 := Aside0.mk (blk_far HX3.out (p := ⟨wb, 0, none⟩) (HNE.out) (.slice (some ⟨g2, 0, none⟩) ((out ++ pre).length + (textL x).length) cap2))
        have HO4 := Aside0.mk (own_set HO3.out HV3.out (by decide) 0 (.slice (some ⟨g2, 0, none⟩) ((out ++ pre).length + (textL x).length) cap2))
        have HB4 := Aside0.mk (below_set (j := 0) (v := .slice (some ⟨g2, 0, none⟩) ((out ++ pre).length + (textL x).length) cap2) HB3.out hbase)
        have HK4 := Aside0.mk (HK3.out.set (.slice (some ⟨g2, 0, none⟩) ((out ++ pre).length + (textL x).length) cap2))
        have HW4 : Aside0 (Wr w0 wb (out ++ (pre ++ textL x)) _) := ⟨_, HV4.out, by rw [← List.append_assoc]; exact own_app HO4.out⟩
        rw [← HT.out] at HW4
        clear HV4 HO4 HV3 HO3 HX3 HB3 HV2 HO2 HX2 HB2 HV HO HX HB hcv hfv hcv2 hcv3 hfv3 hcx HNEWS HNx HT HLEN HTEN HPOS
        simp only [List.length_append] at HW4 HX4 HB4 HK4
        go_wp2
        go_roundw
        case rel => exact ⟨k + 1, by omega, by go_num, HW4, HX4, HB4, HK4⟩
        case measure => simp [intOf]; omega
    · have hkl : k = xs.length := by omega
      subst hkl
      have HF := HW.out
      rw [List.take_length] at HF
      have HF := Aside0.mk HF
      clear HW
      go_wp2
      go_end0
      exact ⟨rfl, HF.out, HB.out, HK.out⟩
end Go.Proofs.YtmcddoolniaehaaGreat.S
end
section
namespace Go.Proofs.YtmcddoolniaehaaGreat.S
open Go.RowKit Go.Proofs.YtmcddoolniaehaaGreatW.PrintWords Go.Proofs.YtmcddoolniaehaaGreatW.PrintLast Go.Proofs.YtmcddoolniaehaaGreatW.PrintMore
attribute [local go_sem] max2_int min2_int max_two min_two max_three min_three max_four min_four   -- for this text's walks alone
set_option linter.unusedVariables false
set_option linter.unusedSimpArgs false

def enc_Fold.f (a0 : Int) : Option (Int) := some (Go.bits .xor .u64 (IntKind.u64.wrap ((IntKind.u64.wrap (a0)) * 2)) (IntKind.u64.wrap (a0 / 9223372036854775808)))
set_option maxHeartbeats 8000000 in
set_option maxRecDepth 100000 in
theorem enc_Fold.calls (a0 : Int) (r : Int) (w : World) (h : enc_Fold.f a0 = some r) :
  Calls Tryz.prog 56 #[.int .i64 a0] w fun e w' => e = .returned (.int .u64 r) ∧ Drawn0 w w' := by
 have H : (some (Go.bits .xor .u64 (IntKind.u64.wrap ((IntKind.u64.wrap (a0)) * 2)) (IntKind.u64.wrap (a0 / 9223372036854775808)))) = some r := h
 clear h
 obtain rfl := Option.some.inj H
 go_enter Tryz.func56, Tryz.ntmps56
 go_wp2
 go_ret
 exact ⟨by first | rfl | (simp; done) | (simp [*]; done), by repeat (first | exact Drawn0.refl _ | apply Drawn0.step)⟩

end Go.Proofs.YtmcddoolniaehaaGreat.S
end
