/- Several of the walk's texts in one: SLaw, SAwk, SBox, SPutInj. -/
import Derived.Laws.BitsAllLaws
import Derived.Laws.BytesArg
import Derived.Test.YtmcddoolniaehaaGreatMU20
section
namespace Go.Proofs.YtmcddoolniaehaaGreat.S
open Go.RowKit Go.Proofs.YtmcddoolniaehaaGreatW.PrintWords Go.Proofs.YtmcddoolniaehaaGreatW.PrintLast Go.Proofs.YtmcddoolniaehaaGreatW.PrintMore Go.Proofs.YtmcddoolniaehaaGreatW
set_option linter.unusedVariables false
set_option linter.unusedSimpArgs false
theorem fold_up {a b : List Rg} (h : mayB a = true) (hb : mayB b = true) : mayB (mergeO a b) = true := by
  unfold mergeO
  rw [h, hb]
  exact may_fold h ((mayB_iff b).1 hb).1
theorem getR_mergeO {a b : List Rg} (h : mayB a = true) (hb : mayB b = true) (k : ByteArray) : getR (mergeO a b) k = joinO (getR a k) (getR b k) := by
  unfold mergeO
  rw [h, hb]
  exact getR_fold b a k ((mayB_iff a).1 h).2 ((mayB_iff b).1 hb).2
theorem same_of {a b : List Rg} (h : mayB a = true) (hb : mayB b = true) (e : ∀ k, getR a k = getR b k) : a = b := reg_same a b ((mayB_iff a).1 h).2 ((mayB_iff b).1 hb).2 e
theorem mayS_iff {s : St} : mayS s = true ↔ mayC s.c = true ∧ mayB s.r = true ∧ mayP s.p = true := by unfold mayS; simp
theorem st_ext {a b : St} (h0 : a.c = b.c) (h1 : a.r = b.r) (h2 : a.p = b.p) : a = b := by cases a; cases b; simp_all
def mrg (l a b : St) : St := ⟨mergeC l.c a.c b.c, mergeO a.r b.r, mergeP l.p a.p b.p⟩
theorem mergeS_ok {l a b : St} (ml : mayS l = true) (ma : mayS a = true) (mb : mayS b = true) : mergeS l a b = (mrg l a b, 0) := by
  unfold mergeS
  rw [ml, ma, mb]
  rfl
def Good (s : St) : Prop := mayS s = true ∧ okL s.p ∧ inL s.c ∧ s.p.length < 1000
theorem getC_up : ∀ (l : List Ct), l.Pairwise cLt → ∀ x ∈ l, getC l x.f0 = x.f1
  | [], _, x, hx => by cases hx
  | y :: l, hp, x, hx => by
    rcases List.mem_cons.1 hx with rfl | hx
    · exact getC_head _ _
    · have hne := cLt_ne ((List.pairwise_cons.1 hp).1 x hx)
      rw [getC_cons, if_neg hne]
      exact getC_up l (List.pairwise_cons.1 hp).2 x hx
theorem getC_of {l : List Ct} (h : mayC l = true) {x : Ct} (hx : x ∈ l) : getC l x.f0 = x.f1 := getC_up l (may_up h) x hx
theorem in_merge {l a b : List Ct} (h0 : mayC l = true) (h1 : mayC a = true) (h2 : mayC b = true) : inL (mergeC l a b) := fun x hx => by
  have hm := may_merge h0 h1 h2
  have hg := get_merge h0 h1 h2 x.f0
  have : getC (mergeC l a b) x.f0 = x.f1 := getC_of hm hx
  rw [← this, hg]
  exact wrap_in _
theorem mrg_may {l a b : St} (hl : Good l) (ha : Good a) (hb : Good b) : mayS (mrg l a b) = true := by
  obtain ⟨l0, l1, l2⟩ := mayS_iff.1 hl.1
  obtain ⟨a0, a1, a2⟩ := mayS_iff.1 ha.1
  obtain ⟨b0, b1, b2⟩ := mayS_iff.1 hb.1
  exact mayS_iff.2 ⟨may_merge l0 a0 b0, fold_up a1 b1, mergeP_may ha.2.1 hb.2.1 a2 b2⟩
theorem mrg_good {l a b : St} (hl : Good l) (ha : Good a) (hb : Good b) (h : a.p.length + b.p.length < 1000) : Good (mrg l a b) := by
  obtain ⟨l0, l1, l2⟩ := mayS_iff.1 hl.1
  obtain ⟨a0, a1, a2⟩ := mayS_iff.1 ha.1
  obtain ⟨b0, b1, b2⟩ := mayS_iff.1 hb.1
  have := mergeP_len l.p a.p b.p
  exact ⟨mrg_may hl ha hb, mergeP_ok ha.2.1 hb.2.1, in_merge l0 a0 b0, by show (mergeP l.p a.p b.p).length < _; omega⟩
theorem mrg_comm {l a b : St} (hl : Good l) (ha : Good a) (hb : Good b) : mrg l a b = mrg l b a := by
  obtain ⟨l0, l1, l2⟩ := mayS_iff.1 hl.1
  obtain ⟨a0, a1, a2⟩ := mayS_iff.1 ha.1
  obtain ⟨b0, b1, b2⟩ := mayS_iff.1 hb.1
  have hl4 := hl.2.2.2
  have ha4 := ha.2.2.2
  have hb4 := hb.2.2.2
  refine st_ext ?_ ?_ ?_
  · exact same_may (may_merge l0 a0 b0) (may_merge l0 b0 a0) fun q => by
      show getC (mergeC l.c a.c b.c) q = getC (mergeC l.c b.c a.c) q
      rw [get_merge l0 a0 b0, get_merge l0 b0 a0]
      generalize getC a.c q = x
      generalize getC b.c q = y
      generalize getC l.c q = u
      unfold wrap64; omega
  · exact same_of (fold_up a1 b1) (fold_up b1 a1) fun q => by
      show getR (mergeO a.r b.r) q = getR (mergeO b.r a.r) q
      rw [getR_mergeO a1 b1, getR_mergeO b1 a1, joinO_comm (getR_keyed a.r q) (getR_keyed b.r q)]
  · refine up_ext (mergeP_up _ _ _) (mergeP_up _ _ _) fun x => ?_
    show x ∈ mergeP l.p a.p b.p ↔ x ∈ mergeP l.p b.p a.p
    rw [mergeP_mem hl.2.1 ha.2.1 hb.2.1 (by omega) (by omega) (by omega) l2 a2 b2, mergeP_mem hl.2.1 hb.2.1 ha.2.1 (by omega) (by omega) (by omega) l2 b2 a2]
    by_cases h1 : x ∈ l.p <;> by_cases h2 : x ∈ a.p <;> by_cases h3 : x ∈ b.p <;> simp [h1, h2, h3]
theorem mrg_assoc {l a b c : St} (hl : Good l) (ha : Good a) (hb : Good b) (hc : Good c) (h1 : a.p.length + b.p.length < 1000) (h2 : b.p.length + c.p.length < 1000) : mrg l (mrg l a b) c = mrg l a (mrg l b c) := by
  have gab := mrg_good hl ha hb h1
  have gbc := mrg_good hl hb hc h2
  obtain ⟨l0, l1, l2⟩ := mayS_iff.1 hl.1
  obtain ⟨a0, a1, a2⟩ := mayS_iff.1 ha.1
  obtain ⟨b0, b1, b2⟩ := mayS_iff.1 hb.1
  obtain ⟨c0, c1, c2⟩ := mayS_iff.1 hc.1
  have hl4 := hl.2.2.2
  have ha4 := ha.2.2.2
  have hb4 := hb.2.2.2
  have hc4 := hc.2.2.2
  have i1 := mergeP_len l.p a.p b.p
  have i2 := mergeP_len l.p b.p c.p
  refine st_ext ?_ ?_ ?_
  · exact same_may (may_merge l0 (may_merge l0 a0 b0) c0) (may_merge l0 a0 (may_merge l0 b0 c0)) fun q => by
      show getC (mergeC l.c (mergeC l.c a.c b.c) c.c) q = getC (mergeC l.c a.c (mergeC l.c b.c c.c)) q
      rw [get_merge l0 (may_merge l0 a0 b0) c0, get_merge l0 a0 b0, get_merge l0 a0 (may_merge l0 b0 c0), get_merge l0 b0 c0]
      generalize getC a.c q = x
      generalize getC b.c q = y
      generalize getC c.c q = z
      generalize getC l.c q = u
      unfold wrap64; omega
  · refine same_of (fold_up (fold_up a1 b1) c1) (fold_up a1 (fold_up b1 c1)) fun q => ?_
    show getR (mergeO (mergeO a.r b.r) c.r) q = getR (mergeO a.r (mergeO b.r c.r)) q
    rw [getR_mergeO (fold_up a1 b1) c1, getR_mergeO a1 b1, getR_mergeO a1 (fold_up b1 c1), getR_mergeO b1 c1, joinO_assoc (getR_keyed a.r q) (getR_keyed b.r q)]
  · refine up_ext (mergeP_up _ _ _) (mergeP_up _ _ _) fun x => ?_
    show x ∈ mergeP l.p (mergeP l.p a.p b.p) c.p ↔ x ∈ mergeP l.p a.p (mergeP l.p b.p c.p)
    rw [mergeP_mem hl.2.1 (mergeP_ok ha.2.1 hb.2.1) hc.2.1 (by omega) (by omega) (by omega) l2 (mergeP_may ha.2.1 hb.2.1 a2 b2) c2, mergeP_mem hl.2.1 ha.2.1 hb.2.1 (by omega) (by omega) (by omega) l2 a2 b2,
      mergeP_mem hl.2.1 ha.2.1 (mergeP_ok hb.2.1 hc.2.1) (by omega) (by omega) (by omega) l2 a2 (mergeP_may hb.2.1 hc.2.1 b2 c2), mergeP_mem hl.2.1 hb.2.1 hc.2.1 (by omega) (by omega) (by omega) l2 b2 c2]
    by_cases h1 : x ∈ l.p <;> by_cases h2 : x ∈ a.p <;> by_cases h3 : x ∈ b.p <;> by_cases h4 : x ∈ c.p <;> simp [h1, h2, h3, h4]
theorem mrg_base {l b : St} (hl : Good l) (hb : Good b) : (mrg l l b).c = b.c ∧ (mrg l l b).p = b.p := by
  obtain ⟨l0, l1, l2⟩ := mayS_iff.1 hl.1
  obtain ⟨b0, b1, b2⟩ := mayS_iff.1 hb.1
  have hl4 := hl.2.2.2
  have hb4 := hb.2.2.2
  refine ⟨?_, ?_⟩
  · exact same_may (may_merge l0 l0 b0) b0 fun q => by
      show getC (mergeC l.c l.c b.c) q = getC b.c q
      rw [get_merge l0 l0 b0]
      have h := getC_in hb.2.2.1 q
      unfold inR at h
      generalize getC b.c q = y at h
      generalize getC l.c q = u
      unfold wrap64; omega
  · refine up_ext (mergeP_up _ _ _) (may_upP b2) fun x => ?_
    show x ∈ mergeP l.p l.p b.p ↔ x ∈ b.p
    rw [mergeP_mem hl.2.1 hl.2.1 hb.2.1 (by omega) (by omega) (by omega) l2 l2 b2]
    by_cases h1 : x ∈ l.p <;> by_cases h3 : x ∈ b.p <;> simp [h1, h3]
theorem mrg_self {a : St} (ha : Good a) : mrg a a a = a := by
  obtain ⟨a0, a1, a2⟩ := mayS_iff.1 ha.1
  obtain ⟨h1, h2⟩ := mrg_base ha ha
  refine st_ext h1 ?_ h2
  exact same_of (fold_up a1 a1) a1 fun q => by show getR (mergeO a.r a.r) q = getR a.r q; rw [getR_mergeO a1 a1, joinO_idem]
end Go.Proofs.YtmcddoolniaehaaGreat.S
end
section
namespace Go.Proofs.YtmcddoolniaehaaGreat.S
open Go.RowKit Go.Proofs.YtmcddoolniaehaaGreatW.PrintWords Go.Proofs.YtmcddoolniaehaaGreatW.PrintLast Go.Proofs.YtmcddoolniaehaaGreatW.PrintMore Go.Proofs.YtmcddoolniaehaaGreatW
set_option linter.unusedVariables false
set_option linter.unusedSimpArgs false
def rA : Rg := ⟨⟨#[97]⟩, ⟨#[120]⟩, 1, ⟨0, 1⟩⟩
def sA : St := ⟨[], [rA], []⟩
theorem fit0 {n : Nat} : FitS n noS := ⟨⟨Nat.zero_le _, Nat.zero_le _, Nat.zero_le _⟩, fun x hx => (by cases hx), fun x hx => (by cases hx), fun x hx => (by cases hx)⟩
theorem fitA : FitS 1000 sA := ⟨⟨Nat.zero_le _, by decide, Nat.zero_le _⟩, fun x hx => (by cases hx), fun x hx => (by rw [List.mem_singleton.1 hx]; exact ⟨by decide, by decide⟩), fun x hx => (by cases hx)⟩
theorem awk_can : canS noS 1 ⟨#[97]⟩ ⟨#[120]⟩ 0 0 1 1 = true := by decide +kernel
theorem awk_do : doS noS 1 ⟨#[97]⟩ ⟨#[120]⟩ 0 0 1 1 = (sA, 0) := by
  unfold doS
  rw [if_pos awk_can]
  unfold opS
  rw [if_neg (by decide), if_pos rfl]
  rfl
theorem awk_may : mayS sA = true := by decide +kernel
theorem awk_merge : mergeS noS sA noS = (sA, 0) := by
  unfold mergeS
  rw [if_pos (by decide +kernel)]
  have h0 : mergeC noS.c sA.c noS.c = [] := List.eq_nil_of_length_eq_zero (Nat.le_zero.1 (mergeC_len [] [] []))
  have h1 : mergeO sA.r noS.r = sA.r := by unfold mergeO; rw [if_pos (by decide +kernel)]; rfl
  have h2 : mergeP noS.p sA.p noS.p = [] := List.eq_nil_of_length_eq_zero (Nat.le_zero.1 (mergeP_len [] [] []))
  rw [h0, h1, h2]
  rfl
theorem awk_same : sameS sA sA = true := sameS_iff.2 rfl
theorem awk_put : putS noS.c noS.r noS.p = [0, 0, 0] := by
  have h : numI 0 = [0] := numL_small (by decide)
  unfold putS
  simp [noS, h]
theorem awk_diff : sameS sA noS = false := by
  cases h : sameS sA noS with
  | false => rfl
  | true => exact absurd (congrArg (fun s => s.r.length) (sameS_iff.1 h)) (by decide)
set_option maxHeartbeats 4000000 in
set_option maxRecDepth 100000 in
theorem awake_calls (w : World) : Calls Tryz.prog 9 #[] w fun e w' => e = .returned (.bool true) ∧ Below w.heap.size w w' := by
  have HB := Aside0.mk (Below.refl w.heap.size w)
  go_enter Tryz.func9, Tryz.ntmps9
  go_wp2_with fail
  have hcn := do_calls (key := ⟨#[97]⟩) (elem := ⟨#[120]⟩) 1 0 0 1 1 (zero_is w) fit0 (ok_small (by decide)) (ok_small (by decide))
  rw [awk_do] at hcn
  dsimp only at hcn
  refine hcn.mono ?_
  rintro e V1 ⟨css, rfl, hN1, hb1⟩
  clear hcn
  replace HB := Aside0.mk (below_step HB.out hb1)
  have Ns := Aside0.mk hN1
  clear hN1 hb1
  obtain ⟨A0, c0, A1, c1, A2, c2, hcs, _⟩ := Ns.out
  have HCS := Aside0.mk hcs
  clear hcs
  go_wp2_with (first
    | (refine sv_st Ns (by rfl) (by rfl) _ _ (by rfl) (by rfl) (by rfl) ?_; intro U2 hbk2 hBk2 hsk2; replace Ns := Aside0.mk (Ns.out.below hBk2); replace HB := Aside0.mk (below_step HB.out hBk2); have Hs := Aside0.mk hbk2; clear hbk2 hBk2 hsk2; have cs0 : U2.cell? ⟨V1.heap.size, 0, none⟩ = some (.slice A0 0 c0) := (by have h := Hs.out; rw [HCS.out] at h; exact blk_cell h 0); have cs1 : U2.cell? ⟨V1.heap.size, 1, none⟩ = some (.slice A1 1 c1) := (by have h := Hs.out; rw [HCS.out] at h; exact blk_cell h 1); have cs2 : U2.cell? ⟨V1.heap.size, 2, none⟩ = some (.slice A2 0 c2) := (by have h := Hs.out; rw [HCS.out] at h; exact blk_cell h 2); go_frame)
    | (refine ld_st Hs Ns (by rfl) _ (by rfl) (by rfl) ?_; go_frame)
    | (refine ld_on Hs Ns (by rfl) _ (by rfl) (by rfl) ?_; go_frame))
  have hcn := merge_calls (zero_is _) Ns.out (zero_is _) fit0 fitA fit0
  rw [awk_merge] at hcn
  dsimp only at hcn
  refine hcn.mono ?_
  rintro e V3 ⟨csm, rfl, hN3, hb3⟩
  clear hcn
  replace Hs := Aside0.mk (blk_below Hs.out hb3)
  replace Ns := Aside0.mk (Ns.out.below hb3)
  replace HB := Aside0.mk (below_step HB.out hb3)
  have Nm := Aside0.mk hN3
  clear hN3 hb3
  go_wp2_with (first
    | (refine ld_st Hs Ns (by rfl) _ (by rfl) (by rfl) ?_; go_frame)
    | (refine ld_on Hs Ns (by rfl) _ (by rfl) (by rfl) ?_; go_frame)
    | (refine sv_st Nm (by rfl) (by rfl) _ _ (by rfl) (by rfl) (by rfl) ?_; intro U4 hbk4 hBk4 hsk4; replace Hs := Aside0.mk (blk_below Hs.out hBk4); replace Ns := Aside0.mk (Ns.out.below hBk4); replace Nm := Aside0.mk (Nm.out.below hBk4); replace HB := Aside0.mk (below_step HB.out hBk4); have Hm := Aside0.mk hbk4; clear hbk4 hBk4 hsk4; have cs0 : U4.cell? ⟨V1.heap.size, 0, none⟩ = some (.slice A0 0 c0) := (by have h := Hs.out; rw [HCS.out] at h; exact blk_cell h 0); have cs1 : U4.cell? ⟨V1.heap.size, 1, none⟩ = some (.slice A1 1 c1) := (by have h := Hs.out; rw [HCS.out] at h; exact blk_cell h 1); have cs2 : U4.cell? ⟨V1.heap.size, 2, none⟩ = some (.slice A2 0 c2) := (by have h := Hs.out; rw [HCS.out] at h; exact blk_cell h 2); go_frame)
    | (refine ld_st Hm Nm (by rfl) _ (by rfl) (by rfl) ?_; go_frame)
    | (refine ld_on Hm Nm (by rfl) _ (by rfl) (by rfl) ?_; go_frame))
  have hcn := may_calls Ns.out (fitA.up (by decide))
  rw [awk_may] at hcn
  refine hcn.mono ?_
  rintro e V5 ⟨rfl, hb5⟩
  clear hcn
  replace Hs := Aside0.mk (blk_below Hs.out hb5)
  replace Ns := Aside0.mk (Ns.out.below hb5)
  replace Hm := Aside0.mk (blk_below Hm.out hb5)
  replace Nm := Aside0.mk (Nm.out.below hb5)
  replace HB := Aside0.mk (below_step HB.out hb5)
  clear hb5
  go_wp2_with (first
    | (refine ld_st Hs Ns (by rfl) _ (by rfl) (by rfl) ?_; go_frame)
    | (refine ld_on Hs Ns (by rfl) _ (by rfl) (by rfl) ?_; go_frame)
    | (refine ld_st Hm Nm (by rfl) _ (by rfl) (by rfl) ?_; go_frame)
    | (refine ld_on Hm Nm (by rfl) _ (by rfl) (by rfl) ?_; go_frame))
  have hcn := same_calls Ns.out Nm.out fitA
  rw [awk_same] at hcn
  refine hcn.mono ?_
  rintro e V6 ⟨rfl, hb6⟩
  clear hcn
  replace Hs := Aside0.mk (blk_below Hs.out hb6)
  replace Ns := Aside0.mk (Ns.out.below hb6)
  replace Hm := Aside0.mk (blk_below Hm.out hb6)
  replace Nm := Aside0.mk (Nm.out.below hb6)
  replace HB := Aside0.mk (below_step HB.out hb6)
  clear hb6
  go_wp2_with (first
    | (refine ld_st Hs Ns (by rfl) _ (by rfl) (by rfl) ?_; go_frame)
    | (refine ld_on Hs Ns (by rfl) _ (by rfl) (by rfl) ?_; go_frame)
    | (refine ld_st Hm Nm (by rfl) _ (by rfl) (by rfl) ?_; go_frame)
    | (refine ld_on Hm Nm (by rfl) _ (by rfl) (by rfl) ?_; go_frame))
  have hcn := put_calls2 (zero_is V6) fit0 (by intro x hx; cases hx)
  rw [awk_put] at hcn
  refine hcn.mono ?_
  rintro e V7 ⟨AP, cp, rfl, _, hb7⟩
  clear hcn
  replace Hs := Aside0.mk (blk_below Hs.out hb7)
  replace Ns := Aside0.mk (Ns.out.below hb7)
  replace Hm := Aside0.mk (blk_below Hm.out hb7)
  replace Nm := Aside0.mk (Nm.out.below hb7)
  replace HB := Aside0.mk (below_step HB.out hb7)
  clear hb7
  go_wp2_with (first
    | (refine ld_st Hs Ns (by rfl) _ (by rfl) (by rfl) ?_; go_frame)
    | (refine ld_on Hs Ns (by rfl) _ (by rfl) (by rfl) ?_; go_frame)
    | (refine ld_st Hm Nm (by rfl) _ (by rfl) (by rfl) ?_; go_frame)
    | (refine ld_on Hm Nm (by rfl) _ (by rfl) (by rfl) ?_; go_frame))
  have hcn := same_calls Ns.out (zero_is _) fitA
  rw [awk_diff] at hcn
  refine hcn.mono ?_
  rintro e V8 ⟨rfl, hb8⟩
  clear hcn
  replace Hs := Aside0.mk (blk_below Hs.out hb8)
  replace Ns := Aside0.mk (Ns.out.below hb8)
  replace Hm := Aside0.mk (blk_below Hm.out hb8)
  replace Nm := Aside0.mk (Nm.out.below hb8)
  replace HB := Aside0.mk (below_step HB.out hb8)
  clear hb8
  go_wp2
  go_ret
  exact ⟨rfl, HB.out⟩
end Go.Proofs.YtmcddoolniaehaaGreat.S
end
section
namespace Go.Proofs.YtmcddoolniaehaaGreat.S
open Go.RowKit Go.Proofs.YtmcddoolniaehaaGreatW.PrintWords Go.Proofs.YtmcddoolniaehaaGreatW.PrintLast Go.Proofs.YtmcddoolniaehaaGreatW.PrintMore Go.Proofs.YtmcddoolniaehaaGreatW
set_option linter.unusedVariables false
set_option linter.unusedSimpArgs false
theorem box1 (w : World) (o0 : Obj) : Below w.heap.size w (w.alloc o0) ∧ (w.alloc o0).heap[w.heap.size]? = some o0 := by
  exact ⟨below_alloc (Below.refl _ w) _, blk_new w o0⟩
theorem box2 (w : World) (o0 o1 : Obj) : Below w.heap.size w ((w.alloc o0).alloc o1) ∧ ((w.alloc o0).alloc o1).heap[w.heap.size]? = some o0 ∧ ((w.alloc o0).alloc o1).heap[w.heap.size + 1]? = some o1 := by
  have h1 := blk_new (w.alloc o0) o1
  simp only [World.size_alloc, Nat.add_assoc, Nat.reduceAdd] at h1
  exact ⟨below_alloc (below_alloc (Below.refl _ w) _) _, blk_alloc (blk_new w o0) _, h1⟩
theorem box3 (w : World) (o0 o1 o2 : Obj) : Below w.heap.size w (((w.alloc o0).alloc o1).alloc o2) ∧ (((w.alloc o0).alloc o1).alloc o2).heap[w.heap.size]? = some o0 ∧ (((w.alloc o0).alloc o1).alloc o2).heap[w.heap.size + 1]? = some o1 ∧ (((w.alloc o0).alloc o1).alloc o2).heap[w.heap.size + 2]? = some o2 := by
  have h1 := blk_new (w.alloc o0) o1
  have h2 := blk_new ((w.alloc o0).alloc o1) o2
  simp only [World.size_alloc, Nat.add_assoc, Nat.reduceAdd] at h1 h2
  exact ⟨below_alloc (below_alloc (below_alloc (Below.refl _ w) _) _) _, blk_alloc (blk_alloc (blk_new w o0) _) _, blk_alloc (h1) _, h2⟩
theorem box4 (w : World) (o0 o1 o2 o3 : Obj) : Below w.heap.size w ((((w.alloc o0).alloc o1).alloc o2).alloc o3) ∧ ((((w.alloc o0).alloc o1).alloc o2).alloc o3).heap[w.heap.size]? = some o0 ∧ ((((w.alloc o0).alloc o1).alloc o2).alloc o3).heap[w.heap.size + 1]? = some o1 ∧ ((((w.alloc o0).alloc o1).alloc o2).alloc o3).heap[w.heap.size + 2]? = some o2 ∧ ((((w.alloc o0).alloc o1).alloc o2).alloc o3).heap[w.heap.size + 3]? = some o3 := by
  have h1 := blk_new (w.alloc o0) o1
  have h2 := blk_new ((w.alloc o0).alloc o1) o2
  have h3 := blk_new (((w.alloc o0).alloc o1).alloc o2) o3
  simp only [World.size_alloc, Nat.add_assoc, Nat.reduceAdd] at h1 h2 h3
  exact ⟨below_alloc (below_alloc (below_alloc (below_alloc (Below.refl _ w) _) _) _) _, blk_alloc (blk_alloc (blk_alloc (blk_new w o0) _) _) _, blk_alloc (blk_alloc (h1) _) _, blk_alloc (h2) _, h3⟩
theorem box5 (w : World) (o0 o1 o2 o3 o4 : Obj) : Below w.heap.size w (((((w.alloc o0).alloc o1).alloc o2).alloc o3).alloc o4) ∧ (((((w.alloc o0).alloc o1).alloc o2).alloc o3).alloc o4).heap[w.heap.size]? = some o0 ∧ (((((w.alloc o0).alloc o1).alloc o2).alloc o3).alloc o4).heap[w.heap.size + 1]? = some o1 ∧ (((((w.alloc o0).alloc o1).alloc o2).alloc o3).alloc o4).heap[w.heap.size + 2]? = some o2 ∧ (((((w.alloc o0).alloc o1).alloc o2).alloc o3).alloc o4).heap[w.heap.size + 3]? = some o3 ∧ (((((w.alloc o0).alloc o1).alloc o2).alloc o3).alloc o4).heap[w.heap.size + 4]? = some o4 := by
  have h1 := blk_new (w.alloc o0) o1
  have h2 := blk_new ((w.alloc o0).alloc o1) o2
  have h3 := blk_new (((w.alloc o0).alloc o1).alloc o2) o3
  have h4 := blk_new ((((w.alloc o0).alloc o1).alloc o2).alloc o3) o4
  simp only [World.size_alloc, Nat.add_assoc, Nat.reduceAdd] at h1 h2 h3 h4
  exact ⟨below_alloc (below_alloc (below_alloc (below_alloc (below_alloc (Below.refl _ w) _) _) _) _) _, blk_alloc (blk_alloc (blk_alloc (blk_alloc (blk_new w o0) _) _) _) _, blk_alloc (blk_alloc (blk_alloc (h1) _) _) _, blk_alloc (blk_alloc (h2) _) _, blk_alloc (h3) _, h4⟩
end Go.Proofs.YtmcddoolniaehaaGreat.S
end
section
namespace Go.Proofs.YtmcddoolniaehaaGreat.S
open Go.RowKit Go.Proofs.YtmcddoolniaehaaGreatW.PrintWords Go.Proofs.YtmcddoolniaehaaGreatW.PrintLast Go.Proofs.YtmcddoolniaehaaGreatW.PrintMore Go.Proofs.YtmcddoolniaehaaGreatW
set_option linter.unusedVariables false
set_option linter.unusedSimpArgs false
theorem dig_eq (n : Nat) : dig n = ((n % 128 + 128 : Nat) : Int) := by
  have h : ∀ k : Fin 256, Go.bits .or .u8 ((k.val : Int)) 128 = ((k.val % 128 + 128 : Nat) : Int) := by decide +kernel
  have h1 := h ⟨n % 256, Nat.mod_lt _ (by decide)⟩
  unfold dig
  rw [show ((n : Int) % 256) = ((n % 256 : Nat) : Int) by omega, h1]
  show (((n % 256) % 128 + 128 : Nat) : Int) = _
  omega
theorem numL_cut : ∀ (m n : Nat) (s t : List Int), numL m ++ s = numL n ++ t → m = n ∧ s = t := fun m => by
  induction m using Nat.strongRecOn with
  | _ m ih =>
    intro n s t h
    by_cases hm : 127 < m
    · by_cases hn : 127 < n
      · rw [numL_big hm, numL_big hn, List.cons_append, List.cons_append, List.cons.injEq, dig_eq, dig_eq] at h
        obtain ⟨h1, h2⟩ := h
        obtain ⟨h3, h4⟩ := ih (m / 128) (by omega) (n / 128) s t h2
        exact ⟨by omega, h4⟩
      · rw [numL_big hm, numL_small hn, List.cons_append, List.cons_append, List.cons.injEq, dig_eq] at h
        omega
    · by_cases hn : 127 < n
      · rw [numL_small hm, numL_big hn, List.cons_append, List.cons_append, List.cons.injEq, dig_eq] at h
        omega
      · rw [numL_small hm, numL_small hn, List.cons_append, List.cons_append, List.cons.injEq] at h
        exact ⟨by omega, by simpa using h.2⟩
theorem numI_cut {a b : Int} {s t : List Int} (ha : inR a) (hb : inR b) (h : numI a ++ s = numI b ++ t) : a = b ∧ s = t := by
  unfold inR at ha hb
  obtain ⟨h1, h2⟩ := numL_cut _ _ s t h
  exact ⟨by omega, h2⟩
theorem bytesL_inj {a b : ByteArray} (h : bytesL a = bytesL b) : a = b := by
  unfold bytesL at h
  have : a.data.toList = b.data.toList := List.map_inj_right (fun x y q => by
    have : x.toNat = y.toNat := by omega
    exact UInt8.toNat_inj.1 this) |>.1 h
  cases a; cases b
  simp_all
theorem textL_cut {a b : ByteArray} {s t : List Int} (h : textL a ++ s = textL b ++ t) : a = b ∧ s = t := by
  unfold textL at h
  rw [List.append_assoc, List.append_assoc] at h
  obtain ⟨h1, h2⟩ := numL_cut _ _ _ _ h
  obtain ⟨h3, h4⟩ := List.append_inj h2 (by rw [bytesL_length, bytesL_length, h1])
  exact ⟨bytesL_inj h3, h4⟩
theorem foldI_inj {a b : Int} (ha : inR a) (hb : inR b) (h : foldI a = foldI b) : a = b := by
  unfold inR at ha hb
  unfold foldI at h
  simp only [wrap_u64] at h
  rw [Go.u64_xor _ _ (by omega) (by omega) (by omega) (by omega), Go.u64_xor _ _ (by omega) (by omega) (by omega) (by omega)] at h
  have h : ((a % 18446744073709551616 * 2 % 18446744073709551616).toNat ^^^ (a / 9223372036854775808 % 18446744073709551616).toNat) = ((b % 18446744073709551616 * 2 % 18446744073709551616).toNat ^^^ (b / 9223372036854775808 % 18446744073709551616).toNat) := by omega
  have hx : ∀ x : Int, -9223372036854775808 ≤ x ∧ x ≤ 9223372036854775807 → (x % 18446744073709551616 * 2 % 18446744073709551616).toNat % 2 = 0 := fun x hx => by omega
  have h2 : Nat.testBit _ 0 = Nat.testBit _ 0 := congrArg (fun n => Nat.testBit n 0) h
  rw [show ∀ x y : Nat, Nat.testBit (x ^^^ y) 0 = ((decide (x % 2 = 1)) ^^ (decide (y % 2 = 1))) from fun x y => by rw [Nat.testBit_xor, Nat.testBit_zero, Nat.testBit_zero], show ∀ x y : Nat, Nat.testBit (x ^^^ y) 0 = ((decide (x % 2 = 1)) ^^ (decide (y % 2 = 1))) from fun x y => by rw [Nat.testBit_xor, Nat.testBit_zero, Nat.testBit_zero]] at h2
  have h3 := hx a ha
  have h4 := hx b hb
  rw [h3, h4] at h2
  have hy : (a / 9223372036854775808 % 18446744073709551616).toNat = (b / 9223372036854775808 % 18446744073709551616).toNat := by
    by_cases q1 : 0 ≤ a
    · by_cases q2 : 0 ≤ b
      · omega
      · have e1 : a / 9223372036854775808 % 18446744073709551616 = 0 := by omega
        have e2 : b / 9223372036854775808 % 18446744073709551616 = 18446744073709551615 := by omega
        rw [e1, e2] at h2
        simp at h2
    · by_cases q2 : 0 ≤ b
      · have e1 : a / 9223372036854775808 % 18446744073709551616 = 18446744073709551615 := by omega
        have e2 : b / 9223372036854775808 % 18446744073709551616 = 0 := by omega
        rw [e1, e2] at h2
        simp at h2
      · omega
  rw [hy] at h
  have h5 := congrArg (fun z => z ^^^ (b / 9223372036854775808 % 18446744073709551616).toNat) h
  simp only [Nat.xor_assoc, Nat.xor_self, Nat.xor_zero] at h5
  omega
def okC (x : Ct) : Prop := inR x.f1
theorem ctrB_cut {x y : Ct} {s t : List Int} (hx : inR x.f1) (hy : inR y.f1) (h : ctrB x ++ s = ctrB y ++ t) : x = y ∧ s = t := by
  unfold ctrB at h
  simp only [List.flatMap_cons, List.flatMap_nil, List.append_nil, List.append_assoc] at h
  obtain ⟨h1, h⟩ := textL_cut h
  obtain ⟨h2, hz⟩ := numL_cut _ _ _ _ h
  have r1 := foldI_range x.f1
  have r2 := foldI_range y.f1
  have h2 := foldI_inj hx hy (by omega)
  obtain ⟨x0, x1⟩ := x
  obtain ⟨y0, y1⟩ := y
  exact ⟨by simp_all, hz⟩
def okR (x : Rg) : Prop := inR x.f2 ∧ inR x.f3.f0 ∧ inR x.f3.f1
theorem regB_cut {x y : Rg} {s t : List Int} (hx : okR x) (hy : okR y) (h : regB x ++ s = regB y ++ t) : x = y ∧ s = t := by
  unfold regB at h
  simp only [List.flatMap_cons, List.flatMap_nil, List.append_nil, List.append_assoc] at h
  obtain ⟨h1, h⟩ := textL_cut h
  obtain ⟨h2, h⟩ := textL_cut h
  obtain ⟨h3, h⟩ := numI_cut hx.1 hy.1 h
  obtain ⟨h4, h⟩ := numI_cut hx.2.1 hy.2.1 h
  obtain ⟨h5, hz⟩ := numI_cut hx.2.2 hy.2.2 h
  obtain ⟨x0, x1, x2, x3, x4⟩ := x
  obtain ⟨y0, y1, y2, y3, y4⟩ := y
  exact ⟨by simp_all, hz⟩
def okPi (x : Pr) : Prop := inR x.f2.f0 ∧ inR x.f2.f1
theorem pairB_cut {x y : Pr} {s t : List Int} (hx : okPi x) (hy : okPi y) (h : pairB x ++ s = pairB y ++ t) : x = y ∧ s = t := by
  unfold pairB at h
  simp only [List.flatMap_cons, List.flatMap_nil, List.append_nil, List.append_assoc] at h
  obtain ⟨h1, h⟩ := textL_cut h
  obtain ⟨h2, h⟩ := textL_cut h
  obtain ⟨h3, h⟩ := numI_cut hx.1 hy.1 h
  obtain ⟨h4, hz⟩ := numI_cut hx.2 hy.2 h
  obtain ⟨x0, x1, x2, x3⟩ := x
  obtain ⟨y0, y1, y2, y3⟩ := y
  exact ⟨by simp_all, hz⟩
theorem flat_cut {α : Type} {f : α → List Int} {p : α → Prop} (hf : ∀ x y s t, p x → p y → f x ++ s = f y ++ t → x = y ∧ s = t) : ∀ (a b : List α) (s t : List Int), a.length = b.length → (∀ x ∈ a, p x) → (∀ x ∈ b, p x) → a.flatMap f ++ s = b.flatMap f ++ t → a = b ∧ s = t
  | [], [], s, t, _, _, _, h => ⟨rfl, by simpa using h⟩
  | [], _ :: _, _, _, hl, _, _, _ => by simp at hl
  | _ :: _, [], _, _, hl, _, _, _ => by simp at hl
  | x :: a, y :: b, s, t, hl, ha, hb, h => by
    rw [List.flatMap_cons, List.flatMap_cons, List.append_assoc, List.append_assoc] at h
    obtain ⟨h1, h2⟩ := hf x y _ _ (ha x List.mem_cons_self) (hb y List.mem_cons_self) h
    obtain ⟨h3, h4⟩ := flat_cut hf a b s t (by simpa using hl) (fun z hz => ha z (List.mem_cons_of_mem _ hz)) (fun z hz => hb z (List.mem_cons_of_mem _ hz)) h2
    exact ⟨by rw [h1, h3], h4⟩
def Num64 (s : St) : Prop := inL s.c ∧ (∀ x ∈ s.r, okR x) ∧ (∀ x ∈ s.p, okPi x)
theorem putS_inj {a b : St} (ha : Num64 a) (hb : Num64 b) (fa : FitS 1000 a) (fb : FitS 1000 b) (h : putS a.c a.r a.p = putS b.c b.r b.p) : a = b := by
  unfold putS at h
  simp only [List.flatMap_cons, List.flatMap_nil, List.append_nil, List.nil_append, List.append_assoc] at h
  obtain ⟨fa0, fa1, fa2⟩ := fa.1
  obtain ⟨fb0, fb1, fb2⟩ := fb.1
  have hn : ∀ n : Nat, n ≤ 1000 → inR (n : Int) := fun n hn => by unfold inR; omega
  obtain ⟨l0, h⟩ := numI_cut (hn _ fa0) (hn _ fb0) h
  obtain ⟨h0, h⟩ := flat_cut (p := fun x => inR x.f1) (fun x y s t hx hy => ctrB_cut hx hy) _ _ _ _ (by omega) (fun x hx => ha.1 x hx) (fun x hx => hb.1 x hx) h
  obtain ⟨l1, h⟩ := numI_cut (hn _ fa1) (hn _ fb1) h
  obtain ⟨h1, h⟩ := flat_cut (p := okR) (fun x y s t hx hy => regB_cut hx hy) _ _ _ _ (by omega) ha.2.1 hb.2.1 h
  obtain ⟨l2, h⟩ := numI_cut (hn _ fa2) (hn _ fb2) h
  obtain ⟨h2, h⟩ := flat_cut (p := okPi) (fun x y s t hx hy => pairB_cut hx hy) a.p b.p [] [] (by omega) ha.2.2 hb.2.2 (by simpa using h)
  exact st_ext h0 h1 h2
theorem numL_byte : ∀ (n : Nat), ∀ x ∈ numL n, 0 ≤ x ∧ x < 256 := fun n => by
  induction n using Nat.strongRecOn with
  | _ n ih =>
    intro x hx
    by_cases hn : 127 < n
    · rw [numL_big hn] at hx
      rcases List.mem_cons.1 hx with rfl | hx
      · rw [dig_eq]; omega
      · exact ih (n / 128) (by omega) x hx
    · rw [numL_small hn, List.mem_singleton] at hx
      omega
theorem textL_byte (s : ByteArray) : ∀ x ∈ textL s, 0 ≤ x ∧ x < 256 := fun x hx => by
  unfold textL at hx
  rcases List.mem_append.1 hx with hx | hx
  · exact numL_byte _ x hx
  · unfold bytesL at hx
    obtain ⟨b, _, rfl⟩ := List.mem_map.1 hx
    have := b.toNat_lt
    omega
theorem putS_byte (c : List Ct) (r : List Rg) (p : List Pr) : ∀ x ∈ putS c r p, 0 ≤ x ∧ x < 256 := fun x hx => by
  have hn : ∀ (l : List Int), ∀ x ∈ l.flatMap numI, 0 ≤ x ∧ x < 256 := fun l x hx => by
    obtain ⟨n, _, h⟩ := List.mem_flatMap.1 hx
    exact numL_byte _ x h
  have ht : ∀ (l : List ByteArray), ∀ x ∈ l.flatMap textL, 0 ≤ x ∧ x < 256 := fun l x hx => by
    obtain ⟨n, _, h⟩ := List.mem_flatMap.1 hx
    exact textL_byte _ x h
  unfold putS at hx
  simp only [List.mem_append] at hx
  rcases hx with (((((hx | hx) | hx) | hx) | hx) | hx) | hx
  · cases hx
  · exact hn _ x hx
  · obtain ⟨y, _, h⟩ := List.mem_flatMap.1 hx
    unfold ctrB at h
    rcases List.mem_append.1 h with h | h
    · exact ht _ x h
    · exact numL_byte _ x h
  · exact hn _ x hx
  · obtain ⟨y, _, h⟩ := List.mem_flatMap.1 hx
    unfold regB at h
    rcases List.mem_append.1 h with h | h
    · exact ht _ x h
    · exact hn _ x h
  · exact hn _ x hx
  · obtain ⟨y, _, h⟩ := List.mem_flatMap.1 hx
    unfold pairB at h
    rcases List.mem_append.1 h with h | h
    · exact ht _ x h
    · exact hn _ x h
theorem str_inj : ∀ {xs ys : List Int}, (∀ x ∈ xs, 0 ≤ x ∧ x < 256) → (∀ x ∈ ys, 0 ≤ x ∧ x < 256) → strOfNums xs = strOfNums ys → xs = ys := fun {xs ys} hx hy h => by
  have h2 : (xs.map fun n => UInt8.ofNat n.toNat) = ys.map fun n => UInt8.ofNat n.toNat := by rw [← strOfNums_data, ← strOfNums_data, h]
  clear h
  induction xs generalizing ys with
  | nil => cases ys with
    | nil => rfl
    | cons y ys => simp at h2
  | cons x xs ih => cases ys with
    | nil => simp at h2
    | cons y ys =>
      rw [List.map_cons, List.map_cons, List.cons.injEq] at h2
      have h3 := congrArg UInt8.toNat h2.1
      have a1 := hx x List.mem_cons_self
      have a2 := hy y List.mem_cons_self
      simp only [UInt8.toNat_ofNat'] at h3
      rw [ih (fun z hz => hx z (List.mem_cons_of_mem _ hz)) (fun z hz => hy z (List.mem_cons_of_mem _ hz)) h2.2, show x = y by omega]
theorem putS_pos (c : List Ct) (r : List Rg) (p : List Pr) : 0 < (putS c r p).length := by
  unfold putS
  have := numL_pos (c.length : Int).toNat
  simp only [List.length_append, List.flatMap_cons, List.flatMap_nil, List.length_nil]
  have h : 0 < (numI (c.length : Int)).length := numL_pos _
  omega
theorem conv_run {W : World} {b0 : Nat} {ok : Nat → Prop} {v : Value} {xs : List Int} (h : Kd.R (Kd.int .u8) 5 W b0 ok v xs) (hp : 0 < xs.length) : (convert 37 9 v).run Tryz.prog W = .ok (.string (strOfNums xs)) W := by
  obtain ⟨g, cap, rfl, _, _, _⟩ := Kd.R_form h hp
  refine run_convert_bytes_arg W 37 5 Tryz.underlying37 Tryz.underlying5 g 0 xs.length cap xs rfl (fun i hi => ?_) 9 Tryz.underlying9
  have := (Kd.R_cell (enc := Value.int .u8) (d := 0) h (i : Int) (by omega) (by omega)).1
  rw [Nat.zero_add]
  simpa [rdOf] using this
theorem put_calls3 {W : World} {cs : List Value} {s : St} (hv : StV W cs s) (h : FitS 1000 s) (hp : ∀ x ∈ s.p, x.f0.size ≤ 1000 ∧ x.f1.size ≤ 1000) :
    Calls Tryz.prog 16 #[.agg cs.toArray] W fun e w' => ∃ v, e = .returned v ∧ (∀ W2 : World, Below w'.heap.size w' W2 → (convert 37 9 v).run Tryz.prog W2 = .ok (.string (strOfNums (putS s.c s.r s.p))) W2) ∧ Below W.heap.size W w' := by
  refine (put_calls2 hv h hp).mono ?_
  rintro e w' ⟨A, c, rfl, hr, hb⟩
  exact ⟨_, rfl, fun W2 hB => conv_run (Kd.R_below hr hB) (putS_pos _ _ _), hb⟩
theorem turn_eq {q : Bool} {x y : ByteArray} (h : q = true ↔ x = y) : (q == (x.toList == y.toList)) = true := by
  by_cases e : x = y
  · rw [h.2 e, e]; simp
  · have h1 : q = false := by
      cases q with
      | false => rfl
      | true => exact absurd (h.1 rfl) e
    have h2 : (x.toList == y.toList) = false := by
      rw [beq_eq_false_iff_ne]
      exact fun q => e (toList_inj q)
    rw [h1, h2]
    rfl
theorem pair_small {l : List Pr} (h : mayP l = true) : ∀ x ∈ l, x.f0.size ≤ 1000 ∧ x.f1.size ≤ 1000 := fun x hx => by
  have h1 := may_one h x hx
  unfold oneP at h1
  simp only [Bool.and_eq_true] at h1
  have a1 := key_size h1.1
  have a2 := key_size h1.2.1
  omega
end Go.Proofs.YtmcddoolniaehaaGreat.S
end
