/- ctr.Merge: what two come to that come from a third one. By hand. -/
import Derived.Test.YtannmdngejdjkaaLHCtrInc
namespace Go.Proofs.Ytannmdngejdjkaa.L
open Go.RowKit Go.Maps Go.Sort Go.Proofs.YtannmdngejdjkaaW.PrintWords Go.Proofs.YtannmdngejdjkaaW.PrintLast Go.Proofs.YtannmdngejdjkaaW.PrintMore Go.Proofs.YtannmdngejdjkaaW
set_option linter.unusedVariables false
set_option linter.unusedSimpArgs false
def mergeC (base a b : List Ct) : List Ct := if mayC base && (mayC a && mayC b) then outM (addM (-1) (addM 1 (addM 1 [] a) b) base) else []
def ctr_Merge.f (l0 : List (S53)) (l1 : List (S53)) (l2 : List (S53)) : Option ((List (S53))) :=
  if smallC l0 = true ∧ smallC l1 = true ∧ smallC l2 = true then some (mergeC l0 l1 l2) else none
set_option maxHeartbeats 4000000 in
set_option maxRecDepth 100000 in
theorem ctr_Merge.calls (A0 : Option Addr) (c0 : Nat) (l0 : List (S53)) (A1 : Option Addr) (c1 : Nat) (l1 : List (S53)) (A2 : Option Addr) (c2 : Nat) (l2 : List (S53)) (r : List (S53)) (w : World) (hr0 : Kd.C k53 w A0 l0.length l0) (hc0 : l0.length ≤ c0) (hr1 : Kd.C k53 w A1 l1.length l1) (hc1 : l1.length ≤ c1) (hr2 : Kd.C k53 w A2 l2.length l2) (hc2 : l2.length ≤ c2) (h : ctr_Merge.f l0 l1 l2 = some r) :
    Calls Try.prog 39 #[.slice A0 l0.length c0, .slice A1 l1.length c1, .slice A2 l2.length c2] w fun e w' => ∃ v0_ : Value, e = .returned (v0_) ∧ Kd.R k53 53 w' w.heap.size (fun _ => True) v0_ r ∧ Below w.heap.size w w' := by
  unfold ctr_Merge.f at h
  split at h
  case isFalse => cases h
  case isTrue hh =>
  cases h
  obtain ⟨q0, q1, q2⟩ := hh
  have hlen0 := smallC_len q0
  have hlen1 := smallC_len q1
  have hlen2 := smallC_len q2
  have HMAY0 := Aside0.mk (fun (W : World) (hb : Below w.heap.size w W) => ctr_May.calls (l0.length + 1) A0 c0 l0 (mayC l0) W (Kd.C_below hr0 hb) hc0 (mayC_f (l0.length + 1) l0 (by omega) (by omega) (smallC_all q0)))
  have HMAY1 := Aside0.mk (fun (W : World) (hb : Below w.heap.size w W) => ctr_May.calls (l1.length + 1) A1 c1 l1 (mayC l1) W (Kd.C_below hr1 hb) hc1 (mayC_f (l1.length + 1) l1 (by omega) (by omega) (smallC_all q1)))
  have HMAY2 := Aside0.mk (fun (W : World) (hb : Below w.heap.size w W) => ctr_May.calls (l2.length + 1) A2 c2 l2 (mayC l2) W (Kd.C_below hr2 hb) hc2 (mayC_f (l2.length + 1) l2 (by omega) (by omega) (smallC_all q2)))
  have HR0 := Aside0.mk hr0
  have HR1 := Aside0.mk hr1
  have HR2 := Aside0.mk hr2
  have HS0 := Aside0.mk (smallC_all q0)
  have HS1 := Aside0.mk (smallC_all q1)
  have HS2 := Aside0.mk (smallC_all q2)
  clear hr0 hr1 hr2 q0 q1 q2
  have hum := Try.underlying79
  have hmm := @run_makeMap Try.prog
  go_enter Try.func39, Try.ntmps39
  go_wp2_with fail
  refine (HMAY0.out _ (Below.refl _ _)).mono ?_
  rintro e w1 ⟨rfl, hb1⟩
  have HB1 := Aside0.mk hb1
  clear hb1 HMAY0
  cases hm0 : mayC l0 with
  | false =>
    have HI := Aside0.mk (show mergeC l0 l1 l2 = [] by simp [mergeC, hm0])
    clear hm0
    go_wp2
    go_ret
    exact ⟨_, rfl, by rw [HI.out]; exact Kd.R_nil _ _ _ _ _, HB1.out⟩
  | true =>
    go_wp2_with fail
    refine (HMAY1.out _ HB1.out).mono ?_
    rintro e w2 ⟨rfl, hb2⟩
    have HB2 := Aside0.mk (below_step HB1.out hb2)
    clear hb2 HMAY1 HB1
    cases hm1 : mayC l1 with
    | false =>
      have HI := Aside0.mk (show mergeC l0 l1 l2 = [] by simp [mergeC, hm1])
      clear hm0 hm1
      go_wp2
      go_ret
      exact ⟨_, rfl, by rw [HI.out]; exact Kd.R_nil _ _ _ _ _, HB2.out⟩
    | true =>
      go_wp2_with fail
      refine (HMAY2.out _ HB2.out).mono ?_
      rintro e w3 ⟨rfl, hb3⟩
      have HB3 := Aside0.mk (below_step HB2.out hb3)
      clear hb3 HMAY2 HB2
      cases hm2 : mayC l2 with
      | false =>
        have HI := Aside0.mk (show mergeC l0 l1 l2 = [] by simp [mergeC, hm2])
        clear hm0 hm1 hm2
        go_wp2
        go_ret
        exact ⟨_, rfl, by rw [HI.out]; exact Kd.R_nil _ _ _ _ _, HB3.out⟩
      | true =>
        have HI := Aside0.mk (show mergeC l0 l1 l2 = outM (addM (-1) (addM 1 (addM 1 [] l1) l2) l0) by simp [mergeC, hm0, hm1, hm2])
        clear hm0 hm1 hm2
        have hw3 := HB3.out.size
        have hl1 : 0 + l1.length ≤ maxLen := by unfold maxLen; omega
        have HADD1 := Aside0.mk (sums_add w w3.heap.size 0 [] A1 c1 l1 1 (w3.alloc (.map #[] 0)) (below_alloc HB3.out _) hw3 (World.ownsMap_made w3 Try.prog 9 (plainElem (H := Unit) Try.prog 3)) List.Pairwise.nil HR1.out hl1 (fun x hx => kSmall_le (HS1.out x hx)))
        go_wp2_with fail
        refine HADD1.out.mono ?_
        rintro e w4 ⟨rfl, ho4, hb4⟩
        have HB4 := Aside0.mk hb4
        have hl2 : 0 + l1.length + l2.length ≤ maxLen := by unfold maxLen; omega
        have hU1 := addM_up 1 l1 [] List.Pairwise.nil
        have HADD2 := Aside0.mk (sums_add w w3.heap.size _ (addM 1 [] l1) A2 c2 l2 1 w4 hb4 hw3 ho4 hU1 HR2.out hl2 (fun x hx => kSmall_le (HS2.out x hx)))
        have HU2 := Aside0.mk (addM_up 1 l2 _ hU1)
        clear ho4 hb4 HADD1 hmm hU1
        go_wp2_with fail
        refine HADD2.out.mono ?_
        rintro e w5 ⟨rfl, ho5, hb5⟩
        have hl3 : 0 + l1.length + l2.length + l0.length ≤ maxLen := by unfold maxLen; omega
        have HADD3 := Aside0.mk (sums_add w w3.heap.size _ _ A0 c0 l0 (-1) w5 hb5 hw3 ho5 HU2.out HR0.out hl3 (fun x hx => kSmall_le (HS0.out x hx)))
        have HU3 := Aside0.mk (addM_up (-1) l0 _ HU2.out)
        clear ho5 hb5 HADD2 HB4
        go_wp2_with fail
        refine HADD3.out.mono ?_
        rintro e w6 ⟨rfl, ho6, hb6⟩
        have hlenI : (addM (-1) (addM 1 (addM 1 [] l1) l2) l0).length * 32 ≤ 140737488355328 := by
          have h1 := addM_len 1 l1 []
          have h2 := addM_len 1 l2 (addM 1 [] l1)
          have h3 := addM_len (-1) l0 (addM 1 (addM 1 [] l1) l2)
          simp only [List.length_nil] at h1
          exact Nat.le_trans (Nat.mul_le_mul_right 32 (show _ ≤ l1.length + l2.length + l0.length by omega)) (by omega)
        have HL := Aside0.mk (list_calls w3.heap.size _ _ w6 ho6 HU3.out hlenI)
        have HB6 := Aside0.mk hb6
        clear ho6 hb6 HADD3 HU3 HU2 hlenI
        go_wp2_with fail
        refine HL.out.mono ?_
        rintro e w7 ⟨v, rfl, ho7, hb7⟩
        obtain ⟨A', c', rfl⟩ := own_slice ho7
        have HO7 := Aside0.mk (own_lower' ho7 HB6.out.size)
        have HB7 := Aside0.mk (below_step HB6.out hb7)
        clear ho7 hb7 HL HB6
        go_wp2
        go_ret
        exact ⟨_, rfl, by rw [HI.out]; exact R_ctr HO7.out, HB7.out⟩
end Go.Proofs.Ytannmdngejdjkaa.L
