/- Several of the walk's texts in one: SLaw, SAwk, SBox, SBothP, SLawBoth. -/
import Derived.RegionTactic
import Derived.Test.YtmcddoolniaehaaGreatMB20
section
namespace Go.Proofs.YtmcddoolniaehaaGreat.S
open Go.RowKit Go.Proofs.YtmcddoolniaehaaGreatW.PrintWords Go.Proofs.YtmcddoolniaehaaGreatW.PrintLast Go.Proofs.YtmcddoolniaehaaGreatW.PrintMore Go.Proofs.YtmcddoolniaehaaGreatW
set_option linter.unusedVariables false
set_option linter.unusedSimpArgs false
theorem fold_up {a b : List Rg} (h : mayB a = true) (hb : mayB b = true) : mayB (mergeO a b) = true := by
  unfold mergeO
  rw [h, hb]
  exact may_fold h ((mayB_iff b).1 hb).1
theorem getR_mergeO {a b : List Rg} (h : mayB a = true) (hb : mayB b = true) (k : ByteArray) : getR (mergeO a b) k = joinO (getR a k) (getR b k) := by
  unfold mergeO
  rw [h, hb]
  exact getR_fold b a k ((mayB_iff a).1 h).2 ((mayB_iff b).1 hb).2
theorem same_of {a b : List Rg} (h : mayB a = true) (hb : mayB b = true) (e : ∀ k, getR a k = getR b k) : a = b := reg_same a b ((mayB_iff a).1 h).2 ((mayB_iff b).1 hb).2 e
theorem mayS_iff {s : St} : mayS s = true ↔ mayC s.c = true ∧ mayB s.r = true ∧ mayP s.p = true := by unfold mayS; simp
theorem st_ext {a b : St} (h0 : a.c = b.c) (h1 : a.r = b.r) (h2 : a.p = b.p) : a = b := by cases a; cases b; simp_all
def mrg (l a b : St) : St := ⟨mergeC l.c a.c b.c, mergeO a.r b.r, mergeP l.p a.p b.p⟩
theorem mergeS_ok {l a b : St} (ml : mayS l = true) (ma : mayS a = true) (mb : mayS b = true) : mergeS l a b = (mrg l a b, 0) := by
  unfold mergeS
  rw [ml, ma, mb]
  rfl
def Good (s : St) : Prop := mayS s = true ∧ okL s.p ∧ inL s.c ∧ s.p.length < 1000
theorem getC_up : ∀ (l : List Ct), l.Pairwise cLt → ∀ x ∈ l, getC l x.f0 = x.f1
  | [], _, x, hx => by cases hx
  | y :: l, hp, x, hx => by
    rcases List.mem_cons.1 hx with rfl | hx
    · exact getC_head _ _
    · have hne := cLt_ne ((List.pairwise_cons.1 hp).1 x hx)
      rw [getC_cons, if_neg hne]
      exact getC_up l (List.pairwise_cons.1 hp).2 x hx
theorem getC_of {l : List Ct} (h : mayC l = true) {x : Ct} (hx : x ∈ l) : getC l x.f0 = x.f1 := getC_up l (may_up h) x hx
theorem in_merge {l a b : List Ct} (h0 : mayC l = true) (h1 : mayC a = true) (h2 : mayC b = true) : inL (mergeC l a b) := fun x hx => by
  have hm := may_merge h0 h1 h2
  have hg := get_merge h0 h1 h2 x.f0
  have : getC (mergeC l a b) x.f0 = x.f1 := getC_of hm hx
  rw [← this, hg]
  exact wrap_in _
theorem mrg_may {l a b : St} (hl : Good l) (ha : Good a) (hb : Good b) : mayS (mrg l a b) = true := by
  obtain ⟨l0, l1, l2⟩ := mayS_iff.1 hl.1
  obtain ⟨a0, a1, a2⟩ := mayS_iff.1 ha.1
  obtain ⟨b0, b1, b2⟩ := mayS_iff.1 hb.1
  exact mayS_iff.2 ⟨may_merge l0 a0 b0, fold_up a1 b1, mergeP_may ha.2.1 hb.2.1 a2 b2⟩
theorem mrg_good {l a b : St} (hl : Good l) (ha : Good a) (hb : Good b) (h : a.p.length + b.p.length < 1000) : Good (mrg l a b) := by
  obtain ⟨l0, l1, l2⟩ := mayS_iff.1 hl.1
  obtain ⟨a0, a1, a2⟩ := mayS_iff.1 ha.1
  obtain ⟨b0, b1, b2⟩ := mayS_iff.1 hb.1
  have := mergeP_len l.p a.p b.p
  exact ⟨mrg_may hl ha hb, mergeP_ok ha.2.1 hb.2.1, in_merge l0 a0 b0, by show (mergeP l.p a.p b.p).length < _; omega⟩
theorem mrg_comm {l a b : St} (hl : Good l) (ha : Good a) (hb : Good b) : mrg l a b = mrg l b a := by
  obtain ⟨l0, l1, l2⟩ := mayS_iff.1 hl.1
  obtain ⟨a0, a1, a2⟩ := mayS_iff.1 ha.1
  obtain ⟨b0, b1, b2⟩ := mayS_iff.1 hb.1
  have hl4 := hl.2.2.2
  have ha4 := ha.2.2.2
  have hb4 := hb.2.2.2
  refine st_ext ?_ ?_ ?_
  · exact same_may (may_merge l0 a0 b0) (may_merge l0 b0 a0) fun q => by
      show getC (mergeC l.c a.c b.c) q = getC (mergeC l.c b.c a.c) q
      rw [get_merge l0 a0 b0, get_merge l0 b0 a0]
      generalize getC a.c q = x
      generalize getC b.c q = y
      generalize getC l.c q = u
      unfold wrap64; omega
  · exact same_of (fold_up a1 b1) (fold_up b1 a1) fun q => by
      show getR (mergeO a.r b.r) q = getR (mergeO b.r a.r) q
      rw [getR_mergeO a1 b1, getR_mergeO b1 a1, joinO_comm (getR_keyed a.r q) (getR_keyed b.r q)]
  · refine up_ext (mergeP_up _ _ _) (mergeP_up _ _ _) fun x => ?_
    show x ∈ mergeP l.p a.p b.p ↔ x ∈ mergeP l.p b.p a.p
    rw [mergeP_mem hl.2.1 ha.2.1 hb.2.1 (by omega) (by omega) (by omega) l2 a2 b2, mergeP_mem hl.2.1 hb.2.1 ha.2.1 (by omega) (by omega) (by omega) l2 b2 a2]
    by_cases h1 : x ∈ l.p <;> by_cases h2 : x ∈ a.p <;> by_cases h3 : x ∈ b.p <;> simp [h1, h2, h3]
theorem mrg_assoc {l a b c : St} (hl : Good l) (ha : Good a) (hb : Good b) (hc : Good c) (h1 : a.p.length + b.p.length < 1000) (h2 : b.p.length + c.p.length < 1000) : mrg l (mrg l a b) c = mrg l a (mrg l b c) := by
  have gab := mrg_good hl ha hb h1
  have gbc := mrg_good hl hb hc h2
  obtain ⟨l0, l1, l2⟩ := mayS_iff.1 hl.1
  obtain ⟨a0, a1, a2⟩ := mayS_iff.1 ha.1
  obtain ⟨b0, b1, b2⟩ := mayS_iff.1 hb.1
  obtain ⟨c0, c1, c2⟩ := mayS_iff.1 hc.1
  have hl4 := hl.2.2.2
  have ha4 := ha.2.2.2
  have hb4 := hb.2.2.2
  have hc4 := hc.2.2.2
  have i1 := mergeP_len l.p a.p b.p
  have i2 := mergeP_len l.p b.p c.p
  refine st_ext ?_ ?_ ?_
  · exact same_may (may_merge l0 (may_merge l0 a0 b0) c0) (may_merge l0 a0 (may_merge l0 b0 c0)) fun q => by
      show getC (mergeC l.c (mergeC l.c a.c b.c) c.c) q = getC (mergeC l.c a.c (mergeC l.c b.c c.c)) q
      rw [get_merge l0 (may_merge l0 a0 b0) c0, get_merge l0 a0 b0, get_merge l0 a0 (may_merge l0 b0 c0), get_merge l0 b0 c0]
      generalize getC a.c q = x
      generalize getC b.c q = y
      generalize getC c.c q = z
      generalize getC l.c q = u
      unfold wrap64; omega
  · refine same_of (fold_up (fold_up a1 b1) c1) (fold_up a1 (fold_up b1 c1)) fun q => ?_
    show getR (mergeO (mergeO a.r b.r) c.r) q = getR (mergeO a.r (mergeO b.r c.r)) q
    rw [getR_mergeO (fold_up a1 b1) c1, getR_mergeO a1 b1, getR_mergeO a1 (fold_up b1 c1), getR_mergeO b1 c1, joinO_assoc (getR_keyed a.r q) (getR_keyed b.r q)]
  · refine up_ext (mergeP_up _ _ _) (mergeP_up _ _ _) fun x => ?_
    show x ∈ mergeP l.p (mergeP l.p a.p b.p) c.p ↔ x ∈ mergeP l.p a.p (mergeP l.p b.p c.p)
    rw [mergeP_mem hl.2.1 (mergeP_ok ha.2.1 hb.2.1) hc.2.1 (by omega) (by omega) (by omega) l2 (mergeP_may ha.2.1 hb.2.1 a2 b2) c2, mergeP_mem hl.2.1 ha.2.1 hb.2.1 (by omega) (by omega) (by omega) l2 a2 b2,
      mergeP_mem hl.2.1 ha.2.1 (mergeP_ok hb.2.1 hc.2.1) (by omega) (by omega) (by omega) l2 a2 (mergeP_may hb.2.1 hc.2.1 b2 c2), mergeP_mem hl.2.1 hb.2.1 hc.2.1 (by omega) (by omega) (by omega) l2 b2 c2]
    by_cases h1 : x ∈ l.p <;> by_cases h2 : x ∈ a.p <;> by_cases h3 : x ∈ b.p <;> by_cases h4 : x ∈ c.p <;> simp [h1, h2, h3, h4]
theorem mrg_base {l b : St} (hl : Good l) (hb : Good b) : (mrg l l b).c = b.c ∧ (mrg l l b).p = b.p := by
  obtain ⟨l0, l1, l2⟩ := mayS_iff.1 hl.1
  obtain ⟨b0, b1, b2⟩ := mayS_iff.1 hb.1
  have hl4 := hl.2.2.2
  have hb4 := hb.2.2.2
  refine ⟨?_, ?_⟩
  · exact same_may (may_merge l0 l0 b0) b0 fun q => by
      show getC (mergeC l.c l.c b.c) q = getC b.c q
      rw [get_merge l0 l0 b0]
      have h := getC_in hb.2.2.1 q
      unfold inR at h
      generalize getC b.c q = y at h
      generalize getC l.c q = u
      unfold wrap64; omega
  · refine up_ext (mergeP_up _ _ _) (may_upP b2) fun x => ?_
    show x ∈ mergeP l.p l.p b.p ↔ x ∈ b.p
    rw [mergeP_mem hl.2.1 hl.2.1 hb.2.1 (by omega) (by omega) (by omega) l2 l2 b2]
    by_cases h1 : x ∈ l.p <;> by_cases h3 : x ∈ b.p <;> simp [h1, h3]
theorem mrg_self {a : St} (ha : Good a) : mrg a a a = a := by
  obtain ⟨a0, a1, a2⟩ := mayS_iff.1 ha.1
  obtain ⟨h1, h2⟩ := mrg_base ha ha
  refine st_ext h1 ?_ h2
  exact same_of (fold_up a1 a1) a1 fun q => by show getR (mergeO a.r a.r) q = getR a.r q; rw [getR_mergeO a1 a1, joinO_idem]
end Go.Proofs.YtmcddoolniaehaaGreat.S
end
section
namespace Go.Proofs.YtmcddoolniaehaaGreat.S
open Go.RowKit Go.Proofs.YtmcddoolniaehaaGreatW.PrintWords Go.Proofs.YtmcddoolniaehaaGreatW.PrintLast Go.Proofs.YtmcddoolniaehaaGreatW.PrintMore Go.Proofs.YtmcddoolniaehaaGreatW
set_option linter.unusedVariables false
set_option linter.unusedSimpArgs false
def rA : Rg := ⟨⟨#[97]⟩, ⟨#[120]⟩, 1, ⟨0, 1⟩⟩
def sA : St := ⟨[], [rA], []⟩
theorem fit0 {n : Nat} : FitS n noS := ⟨⟨Nat.zero_le _, Nat.zero_le _, Nat.zero_le _⟩, fun x hx => (by cases hx), fun x hx => (by cases hx), fun x hx => (by cases hx)⟩
theorem fitA : FitS 1000 sA := ⟨⟨Nat.zero_le _, by decide, Nat.zero_le _⟩, fun x hx => (by cases hx), fun x hx => (by rw [List.mem_singleton.1 hx]; exact ⟨by decide, by decide⟩), fun x hx => (by cases hx)⟩
theorem awk_can : canS noS 1 ⟨#[97]⟩ ⟨#[120]⟩ 0 0 1 1 = true := by decide +kernel
theorem awk_do : doS noS 1 ⟨#[97]⟩ ⟨#[120]⟩ 0 0 1 1 = (sA, 0) := by
  unfold doS
  rw [if_pos awk_can]
  unfold opS
  rw [if_neg (by decide), if_pos rfl]
  rfl
theorem awk_may : mayS sA = true := by decide +kernel
theorem awk_merge : mergeS noS sA noS = (sA, 0) := by
  unfold mergeS
  rw [if_pos (by decide +kernel)]
  have h0 : mergeC noS.c sA.c noS.c = [] := List.eq_nil_of_length_eq_zero (Nat.le_zero.1 (mergeC_len [] [] []))
  have h1 : mergeO sA.r noS.r = sA.r := by unfold mergeO; rw [if_pos (by decide +kernel)]; rfl
  have h2 : mergeP noS.p sA.p noS.p = [] := List.eq_nil_of_length_eq_zero (Nat.le_zero.1 (mergeP_len [] [] []))
  rw [h0, h1, h2]
  rfl
theorem awk_same : sameS sA sA = true := sameS_iff.2 rfl
theorem awk_put : putS noS.c noS.r noS.p = [0, 0, 0] := by
  have h : numI 0 = [0] := numL_small (by decide)
  unfold putS
  simp [noS, h]
theorem awk_diff : sameS sA noS = false := by
  cases h : sameS sA noS with
  | false => rfl
  | true => exact absurd (congrArg (fun s => s.r.length) (sameS_iff.1 h)) (by decide)
set_option maxHeartbeats 4000000 in
set_option maxRecDepth 100000 in
theorem awake_calls (w : World) : Calls Tryz.prog 9 #[] w fun e w' => e = .returned (.bool true) ∧ Below w.heap.size w w' := by
  have HB := Aside0.mk (Below.refl w.heap.size w)
  go_enter Tryz.func9, Tryz.ntmps9
  go_wp2_with fail
  have hcn := do_calls (key := ⟨#[97]⟩) (elem := ⟨#[120]⟩) 1 0 0 1 1 (zero_is w) fit0 (ok_small (by decide)) (ok_small (by decide))
  rw [awk_do] at hcn
  dsimp only at hcn
  refine hcn.mono ?_
  rintro e V1 ⟨css, rfl, hN1, hb1⟩
  clear hcn
  replace HB := Aside0.mk (below_step HB.out hb1)
  have Ns := Aside0.mk hN1
  clear hN1 hb1
  obtain ⟨A0, c0, A1, c1, A2, c2, hcs, _⟩ := Ns.out
  have HCS := Aside0.mk hcs
  clear hcs
  go_wp2_with (first
    | (refine sv_st Ns (by rfl) (by rfl) _ _ (by rfl) (by rfl) (by rfl) ?_; intro U2 hbk2 hBk2 hsk2; replace Ns := Aside0.mk (Ns.out.below hBk2); replace HB := Aside0.mk (below_step HB.out hBk2); have Hs := Aside0.mk hbk2; clear hbk2 hBk2 hsk2; have cs0 : U2.cell? ⟨V1.heap.size, 0, none⟩ = some (.slice A0 0 c0) := (by have h := Hs.out; rw [HCS.out] at h; exact blk_cell h 0); have cs1 : U2.cell? ⟨V1.heap.size, 1, none⟩ = some (.slice A1 1 c1) := (by have h := Hs.out; rw [HCS.out] at h; exact blk_cell h 1); have cs2 : U2.cell? ⟨V1.heap.size, 2, none⟩ = some (.slice A2 0 c2) := (by have h := Hs.out; rw [HCS.out] at h; exact blk_cell h 2); go_frame)
    | (refine ld_st Hs Ns (by rfl) _ (by rfl) (by rfl) ?_; go_frame)
    | (refine ld_on Hs Ns (by rfl) _ (by rfl) (by rfl) ?_; go_frame))
  have hcn := merge_calls (zero_is _) Ns.out (zero_is _) fit0 fitA fit0
  rw [awk_merge] at hcn
  dsimp only at hcn
  refine hcn.mono ?_
  rintro e V3 ⟨csm, rfl, hN3, hb3⟩
  clear hcn
  replace Hs := Aside0.mk (blk_below Hs.out hb3)
  replace Ns := Aside0.mk (Ns.out.below hb3)
  replace HB := Aside0.mk (below_step HB.out hb3)
  have Nm := Aside0.mk hN3
  clear hN3 hb3
  go_wp2_with (first
    | (refine ld_st Hs Ns (by rfl) _ (by rfl) (by rfl) ?_; go_frame)
    | (refine ld_on Hs Ns (by rfl) _ (by rfl) (by rfl) ?_; go_frame)
    | (refine sv_st Nm (by rfl) (by rfl) _ _ (by rfl) (by rfl) (by rfl) ?_; intro U4 hbk4 hBk4 hsk4; replace Hs := Aside0.mk (blk_below Hs.out hBk4); replace Ns := Aside0.mk (Ns.out.below hBk4); replace Nm := Aside0.mk (Nm.out.below hBk4); replace HB := Aside0.mk (below_step HB.out hBk4); have Hm := Aside0.mk hbk4; clear hbk4 hBk4 hsk4; have cs0 : U4.cell? ⟨V1.heap.size, 0, none⟩ = some (.slice A0 0 c0) := (by have h := Hs.out; rw [HCS.out] at h; exact blk_cell h 0); have cs1 : U4.cell? ⟨V1.heap.size, 1, none⟩ = some (.slice A1 1 c1) := (by have h := Hs.out; rw [HCS.out] at h; exact blk_cell h 1); have cs2 : U4.cell? ⟨V1.heap.size, 2, none⟩ = some (.slice A2 0 c2) := (by have h := Hs.out; rw [HCS.out] at h; exact blk_cell h 2); go_frame)
    | (refine ld_st Hm Nm (by rfl) _ (by rfl) (by rfl) ?_; go_frame)
    | (refine ld_on Hm Nm (by rfl) _ (by rfl) (by rfl) ?_; go_frame))
  have hcn := may_calls Ns.out (fitA.up (by decide))
  rw [awk_may] at hcn
  refine hcn.mono ?_
  rintro e V5 ⟨rfl, hb5⟩
  clear hcn
  replace Hs := Aside0.mk (blk_below Hs.out hb5)
  replace Ns := Aside0.mk (Ns.out.below hb5)
  replace Hm := Aside0.mk (blk_below Hm.out hb5)
  replace Nm := Aside0.mk (Nm.out.below hb5)
  replace HB := Aside0.mk (below_step HB.out hb5)
  clear hb5
  go_wp2_with (first
    | (refine ld_st Hs Ns (by rfl) _ (by rfl) (by rfl) ?_; go_frame)
    | (refine ld_on Hs Ns (by rfl) _ (by rfl) (by rfl) ?_; go_frame)
    | (refine ld_st Hm Nm (by rfl) _ (by rfl) (by rfl) ?_; go_frame)
    | (refine ld_on Hm Nm (by rfl) _ (by rfl) (by rfl) ?_; go_frame))
  have hcn := same_calls Ns.out Nm.out fitA
  rw [awk_same] at hcn
  refine hcn.mono ?_
  rintro e V6 ⟨rfl, hb6⟩
  clear hcn
  replace Hs := Aside0.mk (blk_below Hs.out hb6)
  replace Ns := Aside0.mk (Ns.out.below hb6)
  replace Hm := Aside0.mk (blk_below Hm.out hb6)
  replace Nm := Aside0.mk (Nm.out.below hb6)
  replace HB := Aside0.mk (below_step HB.out hb6)
  clear hb6
  go_wp2_with (first
    | (refine ld_st Hs Ns (by rfl) _ (by rfl) (by rfl) ?_; go_frame)
    | (refine ld_on Hs Ns (by rfl) _ (by rfl) (by rfl) ?_; go_frame)
    | (refine ld_st Hm Nm (by rfl) _ (by rfl) (by rfl) ?_; go_frame)
    | (refine ld_on Hm Nm (by rfl) _ (by rfl) (by rfl) ?_; go_frame))
  have hcn := put_calls2 (zero_is V6) fit0 (by intro x hx; cases hx)
  rw [awk_put] at hcn
  refine hcn.mono ?_
  rintro e V7 ⟨AP, cp, rfl, _, hb7⟩
  clear hcn
  replace Hs := Aside0.mk (blk_below Hs.out hb7)
  replace Ns := Aside0.mk (Ns.out.below hb7)
  replace Hm := Aside0.mk (blk_below Hm.out hb7)
  replace Nm := Aside0.mk (Nm.out.below hb7)
  replace HB := Aside0.mk (below_step HB.out hb7)
  clear hb7
  go_wp2_with (first
    | (refine ld_st Hs Ns (by rfl) _ (by rfl) (by rfl) ?_; go_frame)
    | (refine ld_on Hs Ns (by rfl) _ (by rfl) (by rfl) ?_; go_frame)
    | (refine ld_st Hm Nm (by rfl) _ (by rfl) (by rfl) ?_; go_frame)
    | (refine ld_on Hm Nm (by rfl) _ (by rfl) (by rfl) ?_; go_frame))
  have hcn := same_calls Ns.out (zero_is _) fitA
  rw [awk_diff] at hcn
  refine hcn.mono ?_
  rintro e V8 ⟨rfl, hb8⟩
  clear hcn
  replace Hs := Aside0.mk (blk_below Hs.out hb8)
  replace Ns := Aside0.mk (Ns.out.below hb8)
  replace Hm := Aside0.mk (blk_below Hm.out hb8)
  replace Nm := Aside0.mk (Nm.out.below hb8)
  replace HB := Aside0.mk (below_step HB.out hb8)
  clear hb8
  go_wp2
  go_ret
  exact ⟨rfl, HB.out⟩
end Go.Proofs.YtmcddoolniaehaaGreat.S
end
section
namespace Go.Proofs.YtmcddoolniaehaaGreat.S
open Go.RowKit Go.Proofs.YtmcddoolniaehaaGreatW.PrintWords Go.Proofs.YtmcddoolniaehaaGreatW.PrintLast Go.Proofs.YtmcddoolniaehaaGreatW.PrintMore Go.Proofs.YtmcddoolniaehaaGreatW
set_option linter.unusedVariables false
set_option linter.unusedSimpArgs false
theorem box1 (w : World) (o0 : Obj) : Below w.heap.size w (w.alloc o0) ∧ (w.alloc o0).heap[w.heap.size]? = some o0 := by
  exact ⟨below_alloc (Below.refl _ w) _, blk_new w o0⟩
theorem box2 (w : World) (o0 o1 : Obj) : Below w.heap.size w ((w.alloc o0).alloc o1) ∧ ((w.alloc o0).alloc o1).heap[w.heap.size]? = some o0 ∧ ((w.alloc o0).alloc o1).heap[w.heap.size + 1]? = some o1 := by
  have h1 := blk_new (w.alloc o0) o1
  simp only [World.size_alloc, Nat.add_assoc, Nat.reduceAdd] at h1
  exact ⟨below_alloc (below_alloc (Below.refl _ w) _) _, blk_alloc (blk_new w o0) _, h1⟩
theorem box3 (w : World) (o0 o1 o2 : Obj) : Below w.heap.size w (((w.alloc o0).alloc o1).alloc o2) ∧ (((w.alloc o0).alloc o1).alloc o2).heap[w.heap.size]? = some o0 ∧ (((w.alloc o0).alloc o1).alloc o2).heap[w.heap.size + 1]? = some o1 ∧ (((w.alloc o0).alloc o1).alloc o2).heap[w.heap.size + 2]? = some o2 := by
  have h1 := blk_new (w.alloc o0) o1
  have h2 := blk_new ((w.alloc o0).alloc o1) o2
  simp only [World.size_alloc, Nat.add_assoc, Nat.reduceAdd] at h1 h2
  exact ⟨below_alloc (below_alloc (below_alloc (Below.refl _ w) _) _) _, blk_alloc (blk_alloc (blk_new w o0) _) _, blk_alloc (h1) _, h2⟩
theorem box4 (w : World) (o0 o1 o2 o3 : Obj) : Below w.heap.size w ((((w.alloc o0).alloc o1).alloc o2).alloc o3) ∧ ((((w.alloc o0).alloc o1).alloc o2).alloc o3).heap[w.heap.size]? = some o0 ∧ ((((w.alloc o0).alloc o1).alloc o2).alloc o3).heap[w.heap.size + 1]? = some o1 ∧ ((((w.alloc o0).alloc o1).alloc o2).alloc o3).heap[w.heap.size + 2]? = some o2 ∧ ((((w.alloc o0).alloc o1).alloc o2).alloc o3).heap[w.heap.size + 3]? = some o3 := by
  have h1 := blk_new (w.alloc o0) o1
  have h2 := blk_new ((w.alloc o0).alloc o1) o2
  have h3 := blk_new (((w.alloc o0).alloc o1).alloc o2) o3
  simp only [World.size_alloc, Nat.add_assoc, Nat.reduceAdd] at h1 h2 h3
  exact ⟨below_alloc (below_alloc (below_alloc (below_alloc (Below.refl _ w) _) _) _) _, blk_alloc (blk_alloc (blk_alloc (blk_new w o0) _) _) _, blk_alloc (blk_alloc (h1) _) _, blk_alloc (h2) _, h3⟩
theorem box5 (w : World) (o0 o1 o2 o3 o4 : Obj) : Below w.heap.size w (((((w.alloc o0).alloc o1).alloc o2).alloc o3).alloc o4) ∧ (((((w.alloc o0).alloc o1).alloc o2).alloc o3).alloc o4).heap[w.heap.size]? = some o0 ∧ (((((w.alloc o0).alloc o1).alloc o2).alloc o3).alloc o4).heap[w.heap.size + 1]? = some o1 ∧ (((((w.alloc o0).alloc o1).alloc o2).alloc o3).alloc o4).heap[w.heap.size + 2]? = some o2 ∧ (((((w.alloc o0).alloc o1).alloc o2).alloc o3).alloc o4).heap[w.heap.size + 3]? = some o3 ∧ (((((w.alloc o0).alloc o1).alloc o2).alloc o3).alloc o4).heap[w.heap.size + 4]? = some o4 := by
  have h1 := blk_new (w.alloc o0) o1
  have h2 := blk_new ((w.alloc o0).alloc o1) o2
  have h3 := blk_new (((w.alloc o0).alloc o1).alloc o2) o3
  have h4 := blk_new ((((w.alloc o0).alloc o1).alloc o2).alloc o3) o4
  simp only [World.size_alloc, Nat.add_assoc, Nat.reduceAdd] at h1 h2 h3 h4
  exact ⟨below_alloc (below_alloc (below_alloc (below_alloc (below_alloc (Below.refl _ w) _) _) _) _) _, blk_alloc (blk_alloc (blk_alloc (blk_alloc (blk_new w o0) _) _) _) _, blk_alloc (blk_alloc (blk_alloc (h1) _) _) _, blk_alloc (blk_alloc (h2) _) _, blk_alloc (h3) _, h4⟩
end Go.Proofs.YtmcddoolniaehaaGreat.S
end
section
namespace Go.Proofs.YtmcddoolniaehaaGreat.S
open Go.RowKit Go.Proofs.YtmcddoolniaehaaGreatW.PrintWords Go.Proofs.YtmcddoolniaehaaGreatW.PrintLast Go.Proofs.YtmcddoolniaehaaGreatW.PrintMore Go.Proofs.YtmcddoolniaehaaGreatW
set_option linter.unusedVariables false
set_option linter.unusedSimpArgs false
theorem can_iff {s : St} {k : Int} {key elem : ByteArray} {n node seq gen : Int} : canS s k key elem n node seq gen = true ↔ mayS s = true ∧ opB k key elem n = true ∧ eventB node seq = true ∧ 1 ≤ gen := by unfold canS; simp
theorem doS_ok {s : St} {k : Int} {key elem : ByteArray} {n node seq gen : Int} (h : canS s k key elem n node seq gen = true) : doS s k key elem n node seq gen = (opS s k key elem n node seq gen, 0) := by unfold doS; rw [if_pos h]
theorem doS_bad {s : St} {k : Int} {key elem : ByteArray} {n node seq gen : Int} (h : canS s k key elem n node seq gen = false) : doS s k key elem n node seq gen = (noS, 1) := by unfold doS; rw [h]; rfl
theorem one_reg {key elem : ByteArray} {gen node seq : Int} (h1 : keyB key.data.toList = true) (h2 : keyB elem.data.toList = true) (h3 : 1 ≤ gen) (he : eventB node seq = true) : oneB (⟨key, elem, gen, ⟨node, seq⟩⟩ : Rg) = true := by
  obtain ⟨a, b, c, d⟩ := event_in he
  have h4 : 0 < gen := by omega
  simp [oneB, h1, h2, h4, a, b, c]
theorem put_merge {l : List Rg} {r : Rg} (h : mayB l = true) (hr : oneB r = true) : putO l r = mergeO l [r] ∧ mayB [r] = true := by
  have h1 : mayB [r] = true := (mayB_iff [r]).2 ⟨fun x hx => by rw [List.mem_singleton.1 hx]; exact hr, List.pairwise_singleton _ _⟩
  refine ⟨?_, h1⟩
  unfold putO mergeO
  rw [h, hr, h1]
  rfl
theorem one_pair {key elem : ByteArray} {node seq : Int} (h1 : keyB key.data.toList = true) (h2 : keyB elem.data.toList = true) (he : eventB node seq = true) : mayP [(⟨key, elem, ⟨node, seq⟩⟩ : Pr)] = true ∧ okPair (⟨key, elem, ⟨node, seq⟩⟩ : Pr) := by
  obtain ⟨a, b, c, d⟩ := event_in he
  have k1 := key_size h1
  have k2 := key_size h2
  have c' : 1 ≤ seq := by omega
  refine ⟨?_, ok_small (by show key.size ≤ 1000; omega), ok_small (by show elem.size ≤ 1000; omega), ⟨by show -9223372036854775808 ≤ node; omega, by show node ≤ 9223372036854775807; omega⟩, ⟨by show -9223372036854775808 ≤ seq; omega, by show seq ≤ 9223372036854775807; omega⟩⟩
  simp [mayP, mayPP, oneP, h1, h2, a, b, c']
theorem op_good {s : St} {k : Int} {key elem : ByteArray} {n node seq gen : Int} (hs : Good s) (h : canS s k key elem n node seq gen = true) (hl : s.p.length < 999) : Good (opS s k key elem n node seq gen) := by
  obtain ⟨m, o, e, g⟩ := can_iff.1 h
  obtain ⟨o1, o2, o3, o4⟩ := opB_keys o
  obtain ⟨m0, m1, m2⟩ := mayS_iff.1 m
  obtain ⟨_, h1, h2, h3⟩ := hs
  unfold opS
  by_cases k0 : k = 0
  · rw [if_pos k0]
    refine ⟨mayS_iff.2 ⟨may_inc m0 o1, m1, m2⟩, h1, fun x hx => ?_, h3⟩
    have hm := may_inc (n := n) m0 o1
    rw [← getC_of hm hx, get_inc m0 o1]
    split <;> exact wrap_in _
  rw [if_neg k0]
  have hel := (o3 k0).1
  by_cases k1 : k = 1
  · rw [if_pos k1]
    have hp := put_merge m1 (one_reg o1 hel g e)
    exact ⟨mayS_iff.2 ⟨m0, by show mayB (putO s.r _) = true; rw [hp.1]; exact fold_up m1 hp.2, m2⟩, h1, h2, h3⟩
  rw [if_neg k1]
  by_cases k2 : k = 2
  · rw [if_pos k2]
    have hp := one_pair o1 hel e
    have := addP_len s.p ⟨key, elem, ⟨node, seq⟩⟩
    exact ⟨mayS_iff.2 ⟨m0, m1, addP_may h1 hp.2 m2 hp.1⟩, addP_ok h1 hp.2, h2, by show (addP s.p _).length < 1000; omega⟩
  · rw [if_neg k2]
    have := delP_len s.p key elem
    exact ⟨mayS_iff.2 ⟨m0, m1, delP_may m2⟩, delP_ok h1, h2, by show (delP s.p _ _).length < 1000; omega⟩
theorem inc_inc {l : List Ct} {k1 k2 : ByteArray} (a b : Int) (ml : mayC l = true) (h1 : keyB k1.data.toList = true) (h2 : keyB k2.data.toList = true) (hi : inL l) : mergeC l (incO l k1 a) (incO l k2 b) = incO (incO l k1 a) k2 b := by
  have m1 := may_inc (n := a) ml h1
  have m2 := may_inc (n := b) ml h2
  refine same_may (may_merge ml m1 m2) (may_inc m1 h2) fun q => ?_
  rw [get_merge ml m1 m2, get_inc m1 h2, get_inc ml h1, get_inc ml h2, get_inc ml h1]
  have hq := getC_in hi q
  unfold inR at hq
  by_cases e2 : q = k2
  · subst e2
    simp only [if_true]
    by_cases e1 : q = k1
    · subst e1
      simp only [if_true]
      generalize getC l q = x
      unfold wrap64; omega
    · simp only [if_neg e1]
      generalize getC l q = x at hq
      unfold wrap64; omega
  · simp only [if_neg e2]
    by_cases e1 : q = k1
    · subst e1
      simp only [if_true]
      generalize getC l q = x at hq
      unfold wrap64; omega
    · simp only [if_neg e1]
      generalize getC l q = x at hq
      unfold wrap64; omega
theorem inc_l {l : List Ct} {k1 : ByteArray} (a : Int) (ml : mayC l = true) (h1 : keyB k1.data.toList = true) (hi : inL l) : mergeC l (incO l k1 a) l = incO l k1 a ∧ mergeC l l (incO l k1 a) = incO l k1 a := by
  have m1 := may_inc (n := a) ml h1
  have key : ∀ q, wrap64 (getC (incO l k1 a) q) = getC (incO l k1 a) q := fun q => by
    rw [get_inc ml h1]
    split <;> (unfold wrap64; omega)
  refine ⟨same_may (may_merge ml m1 ml) m1 fun q => ?_, same_may (may_merge ml ml m1) m1 fun q => ?_⟩
  · rw [get_merge ml m1 ml, ← key q]
    generalize getC (incO l k1 a) q = x
    generalize getC l q = y
    unfold wrap64; omega
  · rw [get_merge ml ml m1, ← key q]
    generalize getC (incO l k1 a) q = x
    generalize getC l q = y
    unfold wrap64; omega
theorem reg3 {l a b : List Rg} (ml : mayB l = true) (ma : mayB a = true) (mb : mayB b = true) : mergeO (mergeO l a) (mergeO l b) = mergeO (mergeO l a) b := by
  refine same_of (fold_up (fold_up ml ma) (fold_up ml mb)) (fold_up (fold_up ml ma) mb) fun q => ?_
  rw [getR_mergeO (fold_up ml ma) (fold_up ml mb), getR_mergeO (fold_up ml ma) mb, getR_mergeO ml ma, getR_mergeO ml mb]
  have hl := getR_keyed l q
  have ha := getR_keyed a q
  have hb := getR_keyed b q
  generalize getR l q = x at *
  generalize getR a q = y at *
  generalize getR b q = z at *
  rw [← joinO_assoc (joinO_keyed hl ha) hl, joinO_assoc hl ha, joinO_comm ha hl, ← joinO_assoc hl hl, joinO_idem]
theorem reg2 {l a : List Rg} (ml : mayB l = true) (ma : mayB a = true) : mergeO (mergeO l a) l = mergeO l a ∧ mergeO l (mergeO l a) = mergeO l a := by
  refine ⟨same_of (fold_up (fold_up ml ma) ml) (fold_up ml ma) fun q => ?_, same_of (fold_up ml (fold_up ml ma)) (fold_up ml ma) fun q => ?_⟩
  · rw [getR_mergeO (fold_up ml ma) ml, getR_mergeO ml ma]
    have hl := getR_keyed l q
    have ha := getR_keyed a q
    generalize getR l q = x at *
    generalize getR a q = y at *
    rw [joinO_assoc hl ha, joinO_comm ha hl, ← joinO_assoc hl hl, joinO_idem]
  · rw [getR_mergeO ml (fold_up ml ma), getR_mergeO ml ma]
    have hl := getR_keyed l q
    generalize getR l q = x at *
    generalize getR a q = y at *
    rw [← joinO_assoc hl hl, joinO_idem]
theorem fresh {l : List Pr} {key elem : ByteArray} {node seq : Int} (h : ∀ x ∈ l, ¬ (x.f2.f0 = node ∧ x.f2.f1 = seq)) : (⟨key, elem, ⟨node, seq⟩⟩ : Pr) ∉ l := fun hm => h _ hm ⟨rfl, rfl⟩
theorem both {s : St} {k1 k2 : Int} {key1 elem1 key2 elem2 : ByteArray} {n1 n2 a1 b1 a2 b2 gen : Int} (hs : Good s) (hl : s.p.length < 900) (h1 : canS s k1 key1 elem1 n1 a1 b1 gen = true) (h2 : canS s k2 key2 elem2 n2 a2 b2 gen = true) (d1 : k1 ≠ 3) (d2 : k2 ≠ 3)
    (f1 : ∀ x ∈ s.p, ¬ (x.f2.f0 = a1 ∧ x.f2.f1 = b1)) (f2 : ∀ x ∈ s.p, ¬ (x.f2.f0 = a2 ∧ x.f2.f1 = b2)) :
    mrg s (opS s k1 key1 elem1 n1 a1 b1 gen) (opS s k2 key2 elem2 n2 a2 b2 gen) = opS (opS s k1 key1 elem1 n1 a1 b1 gen) k2 key2 elem2 n2 a2 b2 gen := by
  obtain ⟨m, o, e, g⟩ := can_iff.1 h1
  obtain ⟨_, o', e', _⟩ := can_iff.1 h2
  obtain ⟨p1, p2, p3, p4⟩ := opB_keys o
  obtain ⟨q1, q2, q3, q4⟩ := opB_keys o'
  obtain ⟨m0, m1, m2⟩ := mayS_iff.1 m
  have hbase := mrg_self hs
  have cC : mergeC s.c s.c s.c = s.c := congrArg St.c hbase
  have cR : mergeO s.r s.r = s.r := congrArg St.r hbase
  have cP : mergeP s.p s.p s.p = s.p := congrArg St.p hbase
  have hk1 : k1 = 0 ∨ k1 = 1 ∨ k1 = 2 := by rcases p2 with h | h | h | h <;> first | exact .inl h | exact .inr (.inl h) | exact .inr (.inr h) | exact absurd h d1
  have hk2 : k2 = 0 ∨ k2 = 1 ∨ k2 = 2 := by rcases q2 with h | h | h | h <;> first | exact .inl h | exact .inr (.inl h) | exact .inr (.inr h) | exact absurd h d2
  have okl := hs.2.1
  have R : ∀ (hk : k1 ≠ 0), putO s.r ⟨key1, elem1, gen, ⟨a1, b1⟩⟩ = mergeO s.r [⟨key1, elem1, gen, ⟨a1, b1⟩⟩] ∧ mayB [(⟨key1, elem1, gen, ⟨a1, b1⟩⟩ : Rg)] = true := fun hk => put_merge m1 (one_reg p1 (p3 hk).1 g e)
  have R' : ∀ (hk : k2 ≠ 0) (l : List Rg) (ml : mayB l = true), putO l ⟨key2, elem2, gen, ⟨a2, b2⟩⟩ = mergeO l [⟨key2, elem2, gen, ⟨a2, b2⟩⟩] ∧ mayB [(⟨key2, elem2, gen, ⟨a2, b2⟩⟩ : Rg)] = true := fun hk l ml => put_merge ml (one_reg q1 (q3 hk).1 g e')
  have P1 : ∀ (hk : k1 ≠ 0), mayP [(⟨key1, elem1, ⟨a1, b1⟩⟩ : Pr)] = true ∧ okPair (⟨key1, elem1, ⟨a1, b1⟩⟩ : Pr) := fun hk => one_pair p1 (p3 hk).1 e
  have P2 : ∀ (hk : k2 ≠ 0), mayP [(⟨key2, elem2, ⟨a2, b2⟩⟩ : Pr)] = true ∧ okPair (⟨key2, elem2, ⟨a2, b2⟩⟩ : Pr) := fun hk => one_pair q1 (q3 hk).1 e'
  have AL := fun (x : Pr) => addP_len s.p x
  have fr1 := fresh (key := key1) (elem := elem1) f1
  have fr2 := fresh (key := key2) (elem := elem2) f2
  have addl : ∀ {x : Pr}, mayP [x] = true → okPair x → x ∉ s.p → mergeP s.p (addP s.p x) s.p = addP s.p x ∧ mergeP s.p s.p (addP s.p x) = addP s.p x := fun {x} hm ho hn => by
    have hlen := AL x
    refine ⟨up_ext (mergeP_up _ _ _) (addP_up _ _) fun y => ?_, up_ext (mergeP_up _ _ _) (addP_up _ _) fun y => ?_⟩
    · rw [mergeP_mem okl (addP_ok okl ho) okl (by omega) (by omega) (by omega) m2 (addP_may okl ho m2 hm) m2, addP_mem okl ho m2 hm]
      by_cases e1 : y ∈ s.p <;> by_cases e2 : y = x <;> simp_all
    · rw [mergeP_mem okl okl (addP_ok okl ho) (by omega) (by omega) (by omega) m2 m2 (addP_may okl ho m2 hm), addP_mem okl ho m2 hm]
      by_cases e1 : y ∈ s.p <;> by_cases e2 : y = x <;> simp_all
  rcases hk1 with rfl | rfl | rfl <;> rcases hk2 with rfl | rfl | rfl
  · exact st_ext (inc_inc n1 n2 m0 p1 q1 hs.2.2.1) cR cP
  · exact st_ext (inc_l n1 m0 p1 hs.2.2.1).1 (by show mergeO s.r (putO s.r _) = putO s.r _; rw [(R' (by decide) s.r m1).1]; exact (reg2 m1 (R' (by decide) s.r m1).2).2) cP
  · exact st_ext (inc_l n1 m0 p1 hs.2.2.1).1 cR (addl (P2 (by decide)).1 (P2 (by decide)).2 fr2).2
  · exact st_ext (inc_l n2 m0 q1 hs.2.2.1).2 (by show mergeO (putO s.r _) s.r = putO s.r _; rw [(R (by decide)).1]; exact (reg2 m1 (R (by decide)).2).1) cP
  · refine st_ext cC ?_ cP
    show mergeO (putO s.r _) (putO s.r _) = putO (putO s.r _) _
    have h := R (by decide)
    rw [h.1, (R' (by decide) s.r m1).1, (R' (by decide) _ (fold_up m1 h.2)).1]
    exact reg3 m1 h.2 (R' (by decide) s.r m1).2
  · exact st_ext cC (by show mergeO (putO s.r _) s.r = putO s.r _; rw [(R (by decide)).1]; exact (reg2 m1 (R (by decide)).2).1) (addl (P2 (by decide)).1 (P2 (by decide)).2 fr2).2
  · exact st_ext (inc_l n2 m0 q1 hs.2.2.1).2 cR (addl (P1 (by decide)).1 (P1 (by decide)).2 fr1).1
  · exact st_ext cC (by show mergeO s.r (putO s.r _) = putO s.r _; rw [(R' (by decide) s.r m1).1]; exact (reg2 m1 (R' (by decide) s.r m1).2).2) (addl (P1 (by decide)).1 (P1 (by decide)).2 fr1).1
  · refine st_ext cC cR ?_
    obtain ⟨u1, u2⟩ := P1 (by decide)
    obtain ⟨v1, v2⟩ := P2 (by decide)
    have l1 := AL ⟨key1, elem1, ⟨a1, b1⟩⟩
    have l2 := AL ⟨key2, elem2, ⟨a2, b2⟩⟩
    have mA := addP_may okl u2 m2 u1
    have oA := addP_ok okl u2
    refine up_ext (mergeP_up _ _ _) (addP_up _ _) fun y => ?_
    show y ∈ mergeP s.p (addP s.p ⟨key1, elem1, ⟨a1, b1⟩⟩) (addP s.p ⟨key2, elem2, ⟨a2, b2⟩⟩) ↔ y ∈ addP (addP s.p ⟨key1, elem1, ⟨a1, b1⟩⟩) ⟨key2, elem2, ⟨a2, b2⟩⟩
    rw [mergeP_mem okl oA (addP_ok okl v2) (by omega) (by omega) (by omega) m2 mA (addP_may okl v2 m2 v1), addP_mem okl u2 m2 u1, addP_mem okl v2 m2 v1, addP_mem oA v2 mA v1, addP_mem okl u2 m2 u1]
    by_cases e1 : y ∈ s.p <;> by_cases e2 : y = ⟨key1, elem1, ⟨a1, b1⟩⟩ <;> by_cases e3 : y = ⟨key2, elem2, ⟨a2, b2⟩⟩ <;> simp_all
end Go.Proofs.YtmcddoolniaehaaGreat.S
end
section
namespace Go.Proofs.YtmcddoolniaehaaGreat.S
open Go.RowKit Go.Proofs.YtmcddoolniaehaaGreatW.PrintWords Go.Proofs.YtmcddoolniaehaaGreatW.PrintLast Go.Proofs.YtmcddoolniaehaaGreatW.PrintMore Go.Proofs.YtmcddoolniaehaaGreatW
set_option linter.unusedVariables false
set_option linter.unusedSimpArgs false
set_option maxHeartbeats 4000000 in
set_option maxRecDepth 100000 in
theorem both_calls (cs : List Value) (s : St) (k1 : Int) (x1 y1 : ByteArray) (n1 k2 : Int) (x2 y2 : ByteArray) (n2 gen : Int) (w : World) (hs : StV w cs s) (os : okL s.p) (is : inL s.c) (wx1 : okT x1) (wy1 : okT y1) (wx2 : okT x2) (wy2 : okT y2) :
    Calls Tryz.prog 6 #[.agg cs.toArray, .agg #[.int .i64 k1, .string x1, .string y1, .int .i64 n1], .agg #[.int .i64 k2, .string x2, .string y2, .int .i64 n2], .int .i64 gen] w fun e w' => e = .returned (.bool true) ∧ Below w.heap.size w w' := by
  obtain ⟨hB, b0, b1, b2⟩ := box3 w (.cells cs.toArray 26) (.cells #[.int .i64 k1, .string x1, .string y1, .int .i64 n1] 28) (.cells #[.int .i64 k2, .string x2, .string y2, .int .i64 n2] 28)
  have Ns := Aside0.mk (hs.below hB)
  have Hs := Aside0.mk b0
  have Ho := Aside0.mk b1
  have Hp := Aside0.mk b2
  have HB := Aside0.mk hB
  clear hB b0 b1 b2 hs
  go_enter Tryz.func6, Tryz.ntmps6
  go_wp2_with fail
  revert Ns Hs Ho Hp HB
  generalize (((w.alloc (.cells cs.toArray 26)).alloc (.cells #[.int .i64 k1, .string x1, .string y1, .int .i64 n1] 28)).alloc (.cells #[.int .i64 k2, .string x2, .string y2, .int .i64 n2] 28)) = W
  intro Ns Hs Ho Hp HB
  generalize cs = Xs at *
  refine (awake_calls _).mono ?_
  rintro e V0 ⟨rfl, hb0⟩
  replace Hs := Aside0.mk (blk_below Hs.out hb0)
  replace Ns := Aside0.mk (Ns.out.below hb0)
  replace Ho := Aside0.mk (blk_below Ho.out hb0)
  replace Hp := Aside0.mk (blk_below Hp.out hb0)
  replace HB := Aside0.mk (below_step HB.out hb0)
  clear hb0
  go_wp2_with (first
    | (refine ld_st Hs Ns (by rfl) _ (by rfl) (by rfl) ?_; go_frame)
    | (refine ld_on Hs Ns (by rfl) _ (by rfl) (by rfl) ?_; go_frame)
    | (refine ld_op Ho (by rfl) _ (by rfl) (by rfl) ?_; go_frame)
    | (refine ld_op Hp (by rfl) _ (by rfl) (by rfl) ?_; go_frame))
  have hcn := few_calls Ns.out
  obtain ⟨qs, hqs⟩ : ∃ q, q = fewS s := ⟨_, rfl⟩
  rw [← hqs] at hcn
  have Qs := Aside0.mk hqs
  clear hqs
  refine hcn.mono ?_
  rintro e V1 ⟨rfl, hb1⟩
  clear hcn
  replace Hs := Aside0.mk (blk_below Hs.out hb1)
  replace Ns := Aside0.mk (Ns.out.below hb1)
  replace Ho := Aside0.mk (blk_below Ho.out hb1)
  replace Hp := Aside0.mk (blk_below Hp.out hb1)
  replace HB := Aside0.mk (below_step HB.out hb1)
  clear hb1
  obtain ⟨o0, o1, o2, o3⟩ := cells4 Ho.out
  obtain ⟨p0, p1, p2, p3⟩ := cells4 Hp.out
  cases qs with
  | false =>
    go_wp2
    go_ret
    exact ⟨rfl, HB.out⟩
  | true =>
  have Fs := Aside0.mk (few_fit Qs.out.symm os)
  clear Qs
  by_cases hg1 : gen < 1
  · go_wp2
    go_ret
    exact ⟨rfl, HB.out⟩
  by_cases hg2 : 1000000 < gen
  · go_wp2
    go_ret
    exact ⟨rfl, HB.out⟩
  by_cases hk1 : k1 = 3
  · subst hk1; go_wp2
    go_ret
    exact ⟨rfl, HB.out⟩
  by_cases hk2 : k2 = 3
  · subst hk2; go_wp2
    go_ret
    exact ⟨rfl, HB.out⟩
  obtain ⟨A0, c0, A1, c1, A2, c2, hcs, _, _, _, _, hP, hPc⟩ := Ns.out
  have HP := Aside0.mk hP
  have HCS := Aside0.mk hcs
  have hp30 := Fs.out.1.2.2
  clear hP hcs
  have HK1 := Aside0.mk hk1
  have HK2 := Aside0.mk hk2
  go_wp2_with fail
  · go_ret
    exact ⟨rfl, HB.out⟩
  rename_i hcond
  clear o0 o1 o2 o3 p0 p1 p2 p3
  go_wp2
  obtain ⟨hBe, be, bf⟩ := box2 V1 (.cells #[.int .i64 6, .int .i64 1] 30) (.cells #[.int .i64 7, .int .i64 1] 30)
  replace Hs := Aside0.mk (blk_below Hs.out hBe)
  replace Ns := Aside0.mk (Ns.out.below hBe)
  replace Ho := Aside0.mk (blk_below Ho.out hBe)
  replace Hp := Aside0.mk (blk_below Hp.out hBe)
  replace HB := Aside0.mk (below_step HB.out hBe)
  replace HP := Aside0.mk (Kd.C_below HP.out hBe)
  have He := Aside0.mk be
  have Hf := Aside0.mk bf
  clear hBe be bf
  revert Hs Ns Ho Hp HB HP He Hf
  generalize (V1.alloc (.cells #[.int .i64 6, .int .i64 1] 30)).alloc (.cells #[.int .i64 7, .int .i64 1] 30) = U0
  intro Hs Ns Ho Hp HB HP He Hf
  go_loopw [13] (fun i wr => ∃ k : Nat, k ≤ s.p.length ∧ i = .int .i64 k ∧ Aside0 (∀ j, j < k → ∀ h : j < s.p.length, ¬ (s.p[j].f2.f0 = 6 ∧ s.p[j].f2.f1 = 1) ∧ ¬ (s.p[j].f2.f0 = 7 ∧ s.p[j].f2.f1 = 1)) ∧ Aside0 (Below U0.heap.size U0 wr)) (fun i _ => s.p.length - (intOf i).toNat)
  case atStart => exact ⟨0, Nat.zero_le _, rfl, ⟨fun j hj => absurd hj (by omega)⟩, ⟨Below.refl _ _⟩⟩
  case round =>
  obtain ⟨k, hk, rfl, HE, HBr⟩ := hrel
  have hsb := blk_below Hs.out HBr.out
  rw [HCS.out] at hsb
  have s2c : wr.cell? ⟨w.heap.size, 2, none⟩ = some (.slice A2 s.p.length c2) := blk_cell hsb 2
  clear hsb
  have e0 : wr.cell? ⟨V1.heap.size, 0, none⟩ = some (.int .i64 6) := blk_cell (blk_below He.out HBr.out) 0
  have e1 : wr.cell? ⟨V1.heap.size, 1, none⟩ = some (.int .i64 1) := blk_cell (blk_below He.out HBr.out) 1
  have f0 : wr.cell? ⟨(V1.heap.size + 1), 0, none⟩ = some (.int .i64 7) := blk_cell (blk_below Hf.out HBr.out) 0
  have f1 : wr.cell? ⟨(V1.heap.size + 1), 1, none⟩ = some (.int .i64 1) := blk_cell (blk_below Hf.out HBr.out) 1
  by_cases hlt : k < s.p.length
  · have hk0 : (0 : Int) ≤ (k : Int) := Int.natCast_nonneg _
    have hk1 : (k : Int) < (s.p.length : Int) := by omega
    obtain ⟨ad, ea, hx0, hx1, hx2, hx3⟩ := at_T43 (Kd.C_below HP.out HBr.out) (k : Int) hk0 hk1
    cases ea
    simp only [Int.toNat_natCast] at hx0 hx1 hx2 hx3
    have hrd : rd_T43 s.p (k : Int) = s.p[k] := by simp [rd_T43, List.getD_eq_getElem?_getD, hlt]
    rw [hrd] at hx0 hx1 hx2 hx3
    have HE2 : Aside0 (¬ (s.p[k].f2.f0 = 6 ∧ s.p[k].f2.f1 = 1) → ¬ (s.p[k].f2.f0 = 7 ∧ s.p[k].f2.f1 = 1) → ∀ j, j < k + 1 → ∀ h : j < s.p.length, ¬ (s.p[j].f2.f0 = 6 ∧ s.p[j].f2.f1 = 1) ∧ ¬ (s.p[j].f2.f0 = 7 ∧ s.p[j].f2.f1 = 1)) := ⟨fun h1 h2 j hj h => by
      by_cases q : j < k
      · exact HE.out j q h
      · obtain rfl : j = k := by omega
        exact ⟨h1, h2⟩⟩
    have HBd := Aside0.mk (below_drew HBr.out)
    have HBz := Aside0.mk (below_step HB.out HBd.out)
    clear hrd hx0 hx1
    generalize s.p[k] = x at *
    have hkm : k ≤ 30 := by omega
    by_cases a6 : x.f2.f0 = 6
    · rw [a6] at hx2
      by_cases b1 : x.f2.f1 = 1
      · rw [b1] at hx3
        go_wp2
        go_region
        go_wp2
        go_ret
        exact ⟨rfl, HBz.out⟩
      · have HE3 := Aside0.mk (HE2.out (fun q => b1 q.2) (fun q => b1 q.2))
        clear HE2
        go_wp2
        go_region
        go_wp2
        refine ⟨⟨k + 1, by omega, congrArg (Value.int .i64) (by omega), HE3, HBd⟩, ?_⟩
        show s.p.length - ((k : Int) + 1).toNat < s.p.length - ((k : Int)).toNat
        omega
    · by_cases a7 : x.f2.f0 = 7
      · rw [a7] at hx2
        by_cases b1 : x.f2.f1 = 1
        · rw [b1] at hx3
          go_wp2
          go_region
          go_wp2
          go_ret
          exact ⟨rfl, HBz.out⟩
        · have HE3 := Aside0.mk (HE2.out (fun q => b1 q.2) (fun q => b1 q.2))
          clear HE2
          go_wp2
          go_region
          go_wp2
          refine ⟨⟨k + 1, by omega, congrArg (Value.int .i64) (by omega), HE3, HBd⟩, ?_⟩
          show s.p.length - ((k : Int) + 1).toNat < s.p.length - ((k : Int)).toNat
          omega
      · have HE3 := Aside0.mk (HE2.out (fun q => a6 q.1) (fun q => a7 q.1))
        clear HE2
        go_wp2
        go_region
        go_wp2
        refine ⟨⟨k + 1, by omega, congrArg (Value.int .i64) (by omega), HE3, HBd⟩, ?_⟩
        show s.p.length - ((k : Int) + 1).toNat < s.p.length - ((k : Int)).toNat
        omega
  · obtain hkl : k = s.p.length := by omega
    subst hkl
    have HN : Aside0 ((∀ x ∈ s.p, ¬ (x.f2.f0 = 6 ∧ x.f2.f1 = 1)) ∧ (∀ x ∈ s.p, ¬ (x.f2.f0 = 7 ∧ x.f2.f1 = 1))) := ⟨⟨fun x hx => by obtain ⟨j, hj, rfl⟩ := List.getElem_of_mem hx; exact (HE.out j hj hj).1, fun x hx => by obtain ⟨j, hj, rfl⟩ := List.getElem_of_mem hx; exact (HE.out j hj hj).2⟩⟩
    clear HE HP HCS e0 e1 f0 f1
    replace Hs := Aside0.mk (blk_below Hs.out HBr.out)
    replace Ns := Aside0.mk (Ns.out.below HBr.out)
    replace Ho := Aside0.mk (blk_below Ho.out HBr.out)
    replace Hp := Aside0.mk (blk_below Hp.out HBr.out)
    replace He := Aside0.mk (blk_below He.out HBr.out)
    replace Hf := Aside0.mk (blk_below Hf.out HBr.out)
    replace HB := Aside0.mk (below_step HB.out HBr.out)
    clear HBr
    have F5 : Aside0 (FitS 500 s) := ⟨Fs.out.up (by decide)⟩
    cases c1 : canS s k1 x1 y1 n1 6 1 gen with
    | false =>
      have E1 := Aside0.mk (doS_bad c1)
      clear c1
      go_wp2_with (first
        | (refine ld_st Hs Ns (by rfl) _ (by rfl) (by rfl) ?_; go_frame)
        | (refine ld_on Hs Ns (by rfl) _ (by rfl) (by rfl) ?_; go_frame)
        | (refine ld_op Ho (by rfl) _ (by rfl) (by rfl) ?_; go_frame)
        | (refine ld_op Hp (by rfl) _ (by rfl) (by rfl) ?_; go_frame)
        | (refine ld_ev He (by rfl) _ (by rfl) (by rfl) ?_; go_frame)
        | (refine ld_ev Hf (by rfl) _ (by rfl) (by rfl) ?_; go_frame))
      have hcn := do_calls k1 n1 6 1 gen Ns.out (F5.out) wx1 wy1
      rw [E1.out] at hcn
      try dsimp only at hcn
      refine hcn.mono ?_
      rintro e V2 ⟨csa, rfl, hN2, hb2⟩
      clear hcn
      replace Hs := Aside0.mk (blk_below Hs.out hb2)
      replace Ns := Aside0.mk (Ns.out.below hb2)
      replace Ho := Aside0.mk (blk_below Ho.out hb2)
      replace Hp := Aside0.mk (blk_below Hp.out hb2)
      replace He := Aside0.mk (blk_below He.out hb2)
      replace Hf := Aside0.mk (blk_below Hf.out hb2)
      replace HB := Aside0.mk (below_step HB.out hb2)
      have Na := Aside0.mk hN2
      clear hN2 hb2
      go_wp2_with (first
        | (refine ld_st Hs Ns (by rfl) _ (by rfl) (by rfl) ?_; go_frame)
        | (refine ld_on Hs Ns (by rfl) _ (by rfl) (by rfl) ?_; go_frame)
        | (refine ld_op Ho (by rfl) _ (by rfl) (by rfl) ?_; go_frame)
        | (refine ld_op Hp (by rfl) _ (by rfl) (by rfl) ?_; go_frame)
        | (refine ld_ev He (by rfl) _ (by rfl) (by rfl) ?_; go_frame)
        | (refine ld_ev Hf (by rfl) _ (by rfl) (by rfl) ?_; go_frame)
        | (refine sv_st Na (by rfl) (by rfl) _ _ (by rfl) (by rfl) (by rfl) ?_; intro U3 hbk3 hBk3 hsk3; replace Hs := Aside0.mk (blk_below Hs.out hBk3); replace Ns := Aside0.mk (Ns.out.below hBk3); replace Ho := Aside0.mk (blk_below Ho.out hBk3); replace Hp := Aside0.mk (blk_below Hp.out hBk3); replace He := Aside0.mk (blk_below He.out hBk3); replace Hf := Aside0.mk (blk_below Hf.out hBk3); replace Na := Aside0.mk (Na.out.below hBk3); replace HB := Aside0.mk (below_step HB.out hBk3); have Ha := Aside0.mk hbk3; clear hbk3 hBk3 hsk3; go_frame)
        | (refine ld_st Ha Na (by rfl) _ (by rfl) (by rfl) ?_; go_frame)
        | (refine ld_on Ha Na (by rfl) _ (by rfl) (by rfl) ?_; go_frame))
      have hcn := do_calls k2 n2 7 1 gen Ns.out (F5.out) wx2 wy2
      try dsimp only at hcn
      refine hcn.mono ?_
      rintro e V4 ⟨csb, rfl, hN4, hb4⟩
      clear hcn
      replace Hs := Aside0.mk (blk_below Hs.out hb4)
      replace Ns := Aside0.mk (Ns.out.below hb4)
      replace Ho := Aside0.mk (blk_below Ho.out hb4)
      replace Hp := Aside0.mk (blk_below Hp.out hb4)
      replace He := Aside0.mk (blk_below He.out hb4)
      replace Hf := Aside0.mk (blk_below Hf.out hb4)
      replace Ha := Aside0.mk (blk_below Ha.out hb4)
      replace Na := Aside0.mk (Na.out.below hb4)
      replace HB := Aside0.mk (below_step HB.out hb4)
      have Nb := Aside0.mk hN4
      clear hN4 hb4
      go_wp2_with (first
        | (refine ld_st Hs Ns (by rfl) _ (by rfl) (by rfl) ?_; go_frame)
        | (refine ld_on Hs Ns (by rfl) _ (by rfl) (by rfl) ?_; go_frame)
        | (refine ld_st Ha Na (by rfl) _ (by rfl) (by rfl) ?_; go_frame)
        | (refine ld_on Ha Na (by rfl) _ (by rfl) (by rfl) ?_; go_frame)
        | (refine ld_op Ho (by rfl) _ (by rfl) (by rfl) ?_; go_frame)
        | (refine ld_op Hp (by rfl) _ (by rfl) (by rfl) ?_; go_frame)
        | (refine ld_ev He (by rfl) _ (by rfl) (by rfl) ?_; go_frame)
        | (refine ld_ev Hf (by rfl) _ (by rfl) (by rfl) ?_; go_frame)
        | (refine sv_st Nb (by rfl) (by rfl) _ _ (by rfl) (by rfl) (by rfl) ?_; intro U5 hbk5 hBk5 hsk5; replace Hs := Aside0.mk (blk_below Hs.out hBk5); replace Ns := Aside0.mk (Ns.out.below hBk5); replace Ho := Aside0.mk (blk_below Ho.out hBk5); replace Hp := Aside0.mk (blk_below Hp.out hBk5); replace He := Aside0.mk (blk_below He.out hBk5); replace Hf := Aside0.mk (blk_below Hf.out hBk5); replace Ha := Aside0.mk (blk_below Ha.out hBk5); replace Na := Aside0.mk (Na.out.below hBk5); replace Nb := Aside0.mk (Nb.out.below hBk5); replace HB := Aside0.mk (below_step HB.out hBk5); have Hb := Aside0.mk hbk5; clear hbk5 hBk5 hsk5; go_frame)
        | (refine ld_st Hb Nb (by rfl) _ (by rfl) (by rfl) ?_; go_frame)
        | (refine ld_on Hb Nb (by rfl) _ (by rfl) (by rfl) ?_; go_frame))
      go_ret
      exact ⟨rfl, HB.out⟩
    | true =>
      cases c2 : canS s k2 x2 y2 n2 7 1 gen with
      | false =>
        have E1 := Aside0.mk (doS_ok c1)
        have E2 := Aside0.mk (doS_bad c2)
        clear c1 c2
        go_wp2_with (first
          | (refine ld_st Hs Ns (by rfl) _ (by rfl) (by rfl) ?_; go_frame)
          | (refine ld_on Hs Ns (by rfl) _ (by rfl) (by rfl) ?_; go_frame)
          | (refine ld_op Ho (by rfl) _ (by rfl) (by rfl) ?_; go_frame)
          | (refine ld_op Hp (by rfl) _ (by rfl) (by rfl) ?_; go_frame)
          | (refine ld_ev He (by rfl) _ (by rfl) (by rfl) ?_; go_frame)
          | (refine ld_ev Hf (by rfl) _ (by rfl) (by rfl) ?_; go_frame))
        have hcn := do_calls k1 n1 6 1 gen Ns.out (F5.out) wx1 wy1
        rw [E1.out] at hcn
        try dsimp only at hcn
        refine hcn.mono ?_
        rintro e V2 ⟨csa, rfl, hN2, hb2⟩
        clear hcn
        replace Hs := Aside0.mk (blk_below Hs.out hb2)
        replace Ns := Aside0.mk (Ns.out.below hb2)
        replace Ho := Aside0.mk (blk_below Ho.out hb2)
        replace Hp := Aside0.mk (blk_below Hp.out hb2)
        replace He := Aside0.mk (blk_below He.out hb2)
        replace Hf := Aside0.mk (blk_below Hf.out hb2)
        replace HB := Aside0.mk (below_step HB.out hb2)
        have Na := Aside0.mk hN2
        clear hN2 hb2
        go_wp2_with (first
          | (refine ld_st Hs Ns (by rfl) _ (by rfl) (by rfl) ?_; go_frame)
          | (refine ld_on Hs Ns (by rfl) _ (by rfl) (by rfl) ?_; go_frame)
          | (refine ld_op Ho (by rfl) _ (by rfl) (by rfl) ?_; go_frame)
          | (refine ld_op Hp (by rfl) _ (by rfl) (by rfl) ?_; go_frame)
          | (refine ld_ev He (by rfl) _ (by rfl) (by rfl) ?_; go_frame)
          | (refine ld_ev Hf (by rfl) _ (by rfl) (by rfl) ?_; go_frame)
          | (refine sv_st Na (by rfl) (by rfl) _ _ (by rfl) (by rfl) (by rfl) ?_; intro U3 hbk3 hBk3 hsk3; replace Hs := Aside0.mk (blk_below Hs.out hBk3); replace Ns := Aside0.mk (Ns.out.below hBk3); replace Ho := Aside0.mk (blk_below Ho.out hBk3); replace Hp := Aside0.mk (blk_below Hp.out hBk3); replace He := Aside0.mk (blk_below He.out hBk3); replace Hf := Aside0.mk (blk_below Hf.out hBk3); replace Na := Aside0.mk (Na.out.below hBk3); replace HB := Aside0.mk (below_step HB.out hBk3); have Ha := Aside0.mk hbk3; clear hbk3 hBk3 hsk3; go_frame)
          | (refine ld_st Ha Na (by rfl) _ (by rfl) (by rfl) ?_; go_frame)
          | (refine ld_on Ha Na (by rfl) _ (by rfl) (by rfl) ?_; go_frame))
        have hcn := do_calls k2 n2 7 1 gen Ns.out (F5.out) wx2 wy2
        rw [E2.out] at hcn
        try dsimp only at hcn
        refine hcn.mono ?_
        rintro e V4 ⟨csb, rfl, hN4, hb4⟩
        clear hcn
        replace Hs := Aside0.mk (blk_below Hs.out hb4)
        replace Ns := Aside0.mk (Ns.out.below hb4)
        replace Ho := Aside0.mk (blk_below Ho.out hb4)
        replace Hp := Aside0.mk (blk_below Hp.out hb4)
        replace He := Aside0.mk (blk_below He.out hb4)
        replace Hf := Aside0.mk (blk_below Hf.out hb4)
        replace Ha := Aside0.mk (blk_below Ha.out hb4)
        replace Na := Aside0.mk (Na.out.below hb4)
        replace HB := Aside0.mk (below_step HB.out hb4)
        have Nb := Aside0.mk hN4
        clear hN4 hb4
        go_wp2_with (first
          | (refine ld_st Hs Ns (by rfl) _ (by rfl) (by rfl) ?_; go_frame)
          | (refine ld_on Hs Ns (by rfl) _ (by rfl) (by rfl) ?_; go_frame)
          | (refine ld_st Ha Na (by rfl) _ (by rfl) (by rfl) ?_; go_frame)
          | (refine ld_on Ha Na (by rfl) _ (by rfl) (by rfl) ?_; go_frame)
          | (refine ld_op Ho (by rfl) _ (by rfl) (by rfl) ?_; go_frame)
          | (refine ld_op Hp (by rfl) _ (by rfl) (by rfl) ?_; go_frame)
          | (refine ld_ev He (by rfl) _ (by rfl) (by rfl) ?_; go_frame)
          | (refine ld_ev Hf (by rfl) _ (by rfl) (by rfl) ?_; go_frame)
          | (refine sv_st Nb (by rfl) (by rfl) _ _ (by rfl) (by rfl) (by rfl) ?_; intro U5 hbk5 hBk5 hsk5; replace Hs := Aside0.mk (blk_below Hs.out hBk5); replace Ns := Aside0.mk (Ns.out.below hBk5); replace Ho := Aside0.mk (blk_below Ho.out hBk5); replace Hp := Aside0.mk (blk_below Hp.out hBk5); replace He := Aside0.mk (blk_below He.out hBk5); replace Hf := Aside0.mk (blk_below Hf.out hBk5); replace Ha := Aside0.mk (blk_below Ha.out hBk5); replace Na := Aside0.mk (Na.out.below hBk5); replace Nb := Aside0.mk (Nb.out.below hBk5); replace HB := Aside0.mk (below_step HB.out hBk5); have Hb := Aside0.mk hbk5; clear hbk5 hBk5 hsk5; go_frame)
          | (refine ld_st Hb Nb (by rfl) _ (by rfl) (by rfl) ?_; go_frame)
          | (refine ld_on Hb Nb (by rfl) _ (by rfl) (by rfl) ?_; go_frame))
        go_ret
        exact ⟨rfl, HB.out⟩
      | true =>
        have hl := Fs.out.1.2.2
        have gS : Good s := ⟨(can_iff.1 c1).1, os, is, by omega⟩
        have gA := op_good gS c1 (by omega)
        have gB := op_good gS c2 (by omega)
        have B1 := both gS (by omega) c1 c2 HK1.out HK2.out HN.out.1 HN.out.2
        have B2 := both gS (by omega) c2 c1 HK2.out HK1.out HN.out.2 HN.out.1
        have lA := (do_fit k1 n1 6 1 gen (key := x1) (elem := y1) Fs.out)
        have lB := (do_fit k2 n2 7 1 gen (key := x2) (elem := y2) Fs.out)
        have q1 := doS_ok c1
        have q2 := doS_ok c2
        rw [q1] at lA
        rw [q2] at lB
        dsimp only at lA lB
        obtain ⟨A, hA⟩ : ∃ A, A = (opS s k1 x1 y1 n1 6 1 gen) := ⟨_, rfl⟩
        obtain ⟨B, hB⟩ : ∃ B, B = (opS s k2 x2 y2 n2 7 1 gen) := ⟨_, rfl⟩
        rw [← hA] at gA B1 B2 lA q1
        rw [← hB] at gB B1 B2 lB q2
        rw [mrg_comm gS gB gA] at B2
        have q3 := mergeS_ok gS.1 gA.1 gB.1
        have lO := merge_fit (Fs.out.up (show 30 ≤ 31 by decide)) lA lB
        rw [q3] at lO
        dsimp only at lO
        have q4 := doS_ok (can_iff.2 ⟨gA.1, (can_iff.1 c2).2⟩)
        have q5 := doS_ok (can_iff.2 ⟨gB.1, (can_iff.1 c1).2⟩)
        rw [← B1] at q4
        rw [← B2] at q5
        have E1 := Aside0.mk q1
        have E2 := Aside0.mk q2
        have E3 := Aside0.mk q3
        have E4 := Aside0.mk q4
        have E5 := Aside0.mk q5
        have FA := Aside0.mk (lA.up (show 31 ≤ 500 by decide))
        have FB := Aside0.mk (lB.up (show 31 ≤ 500 by decide))
        have FO := Aside0.mk (lO.up (show 93 ≤ 1000 by decide))
        obtain ⟨O, hO⟩ : ∃ O, O = mrg s A B := ⟨_, rfl⟩
        rw [← hO] at E3 E4 E5 FO
        have S1 : Aside0 (sameS O O = true) := ⟨sameS_iff.2 rfl⟩
        clear c1 c2 hl gS gA gB B1 B2 lA lB q1 q2 q3 q4 q5 hA hB hO lO
        go_wp2_with (first
          | (refine ld_st Hs Ns (by rfl) _ (by rfl) (by rfl) ?_; go_frame)
          | (refine ld_on Hs Ns (by rfl) _ (by rfl) (by rfl) ?_; go_frame)
          | (refine ld_op Ho (by rfl) _ (by rfl) (by rfl) ?_; go_frame)
          | (refine ld_op Hp (by rfl) _ (by rfl) (by rfl) ?_; go_frame)
          | (refine ld_ev He (by rfl) _ (by rfl) (by rfl) ?_; go_frame)
          | (refine ld_ev Hf (by rfl) _ (by rfl) (by rfl) ?_; go_frame))
        have hcn := do_calls k1 n1 6 1 gen Ns.out (F5.out) wx1 wy1
        rw [E1.out] at hcn
        try dsimp only at hcn
        refine hcn.mono ?_
        rintro e V2 ⟨csa, rfl, hN2, hb2⟩
        clear hcn
        replace Hs := Aside0.mk (blk_below Hs.out hb2)
        replace Ns := Aside0.mk (Ns.out.below hb2)
        replace Ho := Aside0.mk (blk_below Ho.out hb2)
        replace Hp := Aside0.mk (blk_below Hp.out hb2)
        replace He := Aside0.mk (blk_below He.out hb2)
        replace Hf := Aside0.mk (blk_below Hf.out hb2)
        replace HB := Aside0.mk (below_step HB.out hb2)
        have Na := Aside0.mk hN2
        clear hN2 hb2
        go_wp2_with (first
          | (refine ld_st Hs Ns (by rfl) _ (by rfl) (by rfl) ?_; go_frame)
          | (refine ld_on Hs Ns (by rfl) _ (by rfl) (by rfl) ?_; go_frame)
          | (refine ld_op Ho (by rfl) _ (by rfl) (by rfl) ?_; go_frame)
          | (refine ld_op Hp (by rfl) _ (by rfl) (by rfl) ?_; go_frame)
          | (refine ld_ev He (by rfl) _ (by rfl) (by rfl) ?_; go_frame)
          | (refine ld_ev Hf (by rfl) _ (by rfl) (by rfl) ?_; go_frame)
          | (refine sv_st Na (by rfl) (by rfl) _ _ (by rfl) (by rfl) (by rfl) ?_; intro U3 hbk3 hBk3 hsk3; replace Hs := Aside0.mk (blk_below Hs.out hBk3); replace Ns := Aside0.mk (Ns.out.below hBk3); replace Ho := Aside0.mk (blk_below Ho.out hBk3); replace Hp := Aside0.mk (blk_below Hp.out hBk3); replace He := Aside0.mk (blk_below He.out hBk3); replace Hf := Aside0.mk (blk_below Hf.out hBk3); replace Na := Aside0.mk (Na.out.below hBk3); replace HB := Aside0.mk (below_step HB.out hBk3); have Ha := Aside0.mk hbk3; clear hbk3 hBk3 hsk3; go_frame)
          | (refine ld_st Ha Na (by rfl) _ (by rfl) (by rfl) ?_; go_frame)
          | (refine ld_on Ha Na (by rfl) _ (by rfl) (by rfl) ?_; go_frame))
        have hcn := do_calls k2 n2 7 1 gen Ns.out (F5.out) wx2 wy2
        rw [E2.out] at hcn
        try dsimp only at hcn
        refine hcn.mono ?_
        rintro e V4 ⟨csb, rfl, hN4, hb4⟩
        clear hcn
        replace Hs := Aside0.mk (blk_below Hs.out hb4)
        replace Ns := Aside0.mk (Ns.out.below hb4)
        replace Ho := Aside0.mk (blk_below Ho.out hb4)
        replace Hp := Aside0.mk (blk_below Hp.out hb4)
        replace He := Aside0.mk (blk_below He.out hb4)
        replace Hf := Aside0.mk (blk_below Hf.out hb4)
        replace Ha := Aside0.mk (blk_below Ha.out hb4)
        replace Na := Aside0.mk (Na.out.below hb4)
        replace HB := Aside0.mk (below_step HB.out hb4)
        have Nb := Aside0.mk hN4
        clear hN4 hb4
        go_wp2_with (first
          | (refine ld_st Hs Ns (by rfl) _ (by rfl) (by rfl) ?_; go_frame)
          | (refine ld_on Hs Ns (by rfl) _ (by rfl) (by rfl) ?_; go_frame)
          | (refine ld_st Ha Na (by rfl) _ (by rfl) (by rfl) ?_; go_frame)
          | (refine ld_on Ha Na (by rfl) _ (by rfl) (by rfl) ?_; go_frame)
          | (refine ld_op Ho (by rfl) _ (by rfl) (by rfl) ?_; go_frame)
          | (refine ld_op Hp (by rfl) _ (by rfl) (by rfl) ?_; go_frame)
          | (refine ld_ev He (by rfl) _ (by rfl) (by rfl) ?_; go_frame)
          | (refine ld_ev Hf (by rfl) _ (by rfl) (by rfl) ?_; go_frame)
          | (refine sv_st Nb (by rfl) (by rfl) _ _ (by rfl) (by rfl) (by rfl) ?_; intro U5 hbk5 hBk5 hsk5; replace Hs := Aside0.mk (blk_below Hs.out hBk5); replace Ns := Aside0.mk (Ns.out.below hBk5); replace Ho := Aside0.mk (blk_below Ho.out hBk5); replace Hp := Aside0.mk (blk_below Hp.out hBk5); replace He := Aside0.mk (blk_below He.out hBk5); replace Hf := Aside0.mk (blk_below Hf.out hBk5); replace Ha := Aside0.mk (blk_below Ha.out hBk5); replace Na := Aside0.mk (Na.out.below hBk5); replace Nb := Aside0.mk (Nb.out.below hBk5); replace HB := Aside0.mk (below_step HB.out hBk5); have Hb := Aside0.mk hbk5; clear hbk5 hBk5 hsk5; go_frame)
          | (refine ld_st Hb Nb (by rfl) _ (by rfl) (by rfl) ?_; go_frame)
          | (refine ld_on Hb Nb (by rfl) _ (by rfl) (by rfl) ?_; go_frame))
        have hcn := merge_calls Ns.out Na.out Nb.out (Fs.out.up (show 30 ≤ 1000 by decide)) (FA.out.up (show 500 ≤ 1000 by decide)) (FB.out.up (show 500 ≤ 1000 by decide))
        rw [E3.out] at hcn
        try dsimp only at hcn
        refine hcn.mono ?_
        rintro e V6 ⟨csm, rfl, hN6, hb6⟩
        clear hcn
        replace Hs := Aside0.mk (blk_below Hs.out hb6)
        replace Ns := Aside0.mk (Ns.out.below hb6)
        replace Ho := Aside0.mk (blk_below Ho.out hb6)
        replace Hp := Aside0.mk (blk_below Hp.out hb6)
        replace He := Aside0.mk (blk_below He.out hb6)
        replace Hf := Aside0.mk (blk_below Hf.out hb6)
        replace Ha := Aside0.mk (blk_below Ha.out hb6)
        replace Na := Aside0.mk (Na.out.below hb6)
        replace Hb := Aside0.mk (blk_below Hb.out hb6)
        replace Nb := Aside0.mk (Nb.out.below hb6)
        replace HB := Aside0.mk (below_step HB.out hb6)
        have Nm := Aside0.mk hN6
        clear hN6 hb6
        go_wp2_with (first
          | (refine ld_st Hs Ns (by rfl) _ (by rfl) (by rfl) ?_; go_frame)
          | (refine ld_on Hs Ns (by rfl) _ (by rfl) (by rfl) ?_; go_frame)
          | (refine ld_st Ha Na (by rfl) _ (by rfl) (by rfl) ?_; go_frame)
          | (refine ld_on Ha Na (by rfl) _ (by rfl) (by rfl) ?_; go_frame)
          | (refine ld_st Hb Nb (by rfl) _ (by rfl) (by rfl) ?_; go_frame)
          | (refine ld_on Hb Nb (by rfl) _ (by rfl) (by rfl) ?_; go_frame)
          | (refine ld_op Ho (by rfl) _ (by rfl) (by rfl) ?_; go_frame)
          | (refine ld_op Hp (by rfl) _ (by rfl) (by rfl) ?_; go_frame)
          | (refine ld_ev He (by rfl) _ (by rfl) (by rfl) ?_; go_frame)
          | (refine ld_ev Hf (by rfl) _ (by rfl) (by rfl) ?_; go_frame)
          | (refine sv_st Nm (by rfl) (by rfl) _ _ (by rfl) (by rfl) (by rfl) ?_; intro U7 hbk7 hBk7 hsk7; replace Hs := Aside0.mk (blk_below Hs.out hBk7); replace Ns := Aside0.mk (Ns.out.below hBk7); replace Ho := Aside0.mk (blk_below Ho.out hBk7); replace Hp := Aside0.mk (blk_below Hp.out hBk7); replace He := Aside0.mk (blk_below He.out hBk7); replace Hf := Aside0.mk (blk_below Hf.out hBk7); replace Ha := Aside0.mk (blk_below Ha.out hBk7); replace Na := Aside0.mk (Na.out.below hBk7); replace Hb := Aside0.mk (blk_below Hb.out hBk7); replace Nb := Aside0.mk (Nb.out.below hBk7); replace Nm := Aside0.mk (Nm.out.below hBk7); replace HB := Aside0.mk (below_step HB.out hBk7); have Hm := Aside0.mk hbk7; clear hbk7 hBk7 hsk7; go_frame)
          | (refine ld_st Hm Nm (by rfl) _ (by rfl) (by rfl) ?_; go_frame)
          | (refine ld_on Hm Nm (by rfl) _ (by rfl) (by rfl) ?_; go_frame))
        have hcn := do_calls k2 n2 7 1 gen Na.out (FA.out) wx2 wy2
        rw [E4.out] at hcn
        try dsimp only at hcn
        refine hcn.mono ?_
        rintro e V8 ⟨csc, rfl, hN8, hb8⟩
        clear hcn
        replace Hs := Aside0.mk (blk_below Hs.out hb8)
        replace Ns := Aside0.mk (Ns.out.below hb8)
        replace Ho := Aside0.mk (blk_below Ho.out hb8)
        replace Hp := Aside0.mk (blk_below Hp.out hb8)
        replace He := Aside0.mk (blk_below He.out hb8)
        replace Hf := Aside0.mk (blk_below Hf.out hb8)
        replace Ha := Aside0.mk (blk_below Ha.out hb8)
        replace Na := Aside0.mk (Na.out.below hb8)
        replace Hb := Aside0.mk (blk_below Hb.out hb8)
        replace Nb := Aside0.mk (Nb.out.below hb8)
        replace Hm := Aside0.mk (blk_below Hm.out hb8)
        replace Nm := Aside0.mk (Nm.out.below hb8)
        replace HB := Aside0.mk (below_step HB.out hb8)
        have Nc := Aside0.mk hN8
        clear hN8 hb8
        go_wp2_with (first
          | (refine ld_st Hs Ns (by rfl) _ (by rfl) (by rfl) ?_; go_frame)
          | (refine ld_on Hs Ns (by rfl) _ (by rfl) (by rfl) ?_; go_frame)
          | (refine ld_st Ha Na (by rfl) _ (by rfl) (by rfl) ?_; go_frame)
          | (refine ld_on Ha Na (by rfl) _ (by rfl) (by rfl) ?_; go_frame)
          | (refine ld_st Hb Nb (by rfl) _ (by rfl) (by rfl) ?_; go_frame)
          | (refine ld_on Hb Nb (by rfl) _ (by rfl) (by rfl) ?_; go_frame)
          | (refine ld_st Hm Nm (by rfl) _ (by rfl) (by rfl) ?_; go_frame)
          | (refine ld_on Hm Nm (by rfl) _ (by rfl) (by rfl) ?_; go_frame)
          | (refine ld_op Ho (by rfl) _ (by rfl) (by rfl) ?_; go_frame)
          | (refine ld_op Hp (by rfl) _ (by rfl) (by rfl) ?_; go_frame)
          | (refine ld_ev He (by rfl) _ (by rfl) (by rfl) ?_; go_frame)
          | (refine ld_ev Hf (by rfl) _ (by rfl) (by rfl) ?_; go_frame)
          | (refine sv_st Nc (by rfl) (by rfl) _ _ (by rfl) (by rfl) (by rfl) ?_; intro U9 hbk9 hBk9 hsk9; replace Hs := Aside0.mk (blk_below Hs.out hBk9); replace Ns := Aside0.mk (Ns.out.below hBk9); replace Ho := Aside0.mk (blk_below Ho.out hBk9); replace Hp := Aside0.mk (blk_below Hp.out hBk9); replace He := Aside0.mk (blk_below He.out hBk9); replace Hf := Aside0.mk (blk_below Hf.out hBk9); replace Ha := Aside0.mk (blk_below Ha.out hBk9); replace Na := Aside0.mk (Na.out.below hBk9); replace Hb := Aside0.mk (blk_below Hb.out hBk9); replace Nb := Aside0.mk (Nb.out.below hBk9); replace Hm := Aside0.mk (blk_below Hm.out hBk9); replace Nm := Aside0.mk (Nm.out.below hBk9); replace Nc := Aside0.mk (Nc.out.below hBk9); replace HB := Aside0.mk (below_step HB.out hBk9); have Hc := Aside0.mk hbk9; clear hbk9 hBk9 hsk9; go_frame)
          | (refine ld_st Hc Nc (by rfl) _ (by rfl) (by rfl) ?_; go_frame)
          | (refine ld_on Hc Nc (by rfl) _ (by rfl) (by rfl) ?_; go_frame))
        have hcn := do_calls k1 n1 6 1 gen Nb.out (FB.out) wx1 wy1
        rw [E5.out] at hcn
        try dsimp only at hcn
        refine hcn.mono ?_
        rintro e V10 ⟨csd, rfl, hN10, hb10⟩
        clear hcn
        replace Hs := Aside0.mk (blk_below Hs.out hb10)
        replace Ns := Aside0.mk (Ns.out.below hb10)
        replace Ho := Aside0.mk (blk_below Ho.out hb10)
        replace Hp := Aside0.mk (blk_below Hp.out hb10)
        replace He := Aside0.mk (blk_below He.out hb10)
        replace Hf := Aside0.mk (blk_below Hf.out hb10)
        replace Ha := Aside0.mk (blk_below Ha.out hb10)
        replace Na := Aside0.mk (Na.out.below hb10)
        replace Hb := Aside0.mk (blk_below Hb.out hb10)
        replace Nb := Aside0.mk (Nb.out.below hb10)
        replace Hm := Aside0.mk (blk_below Hm.out hb10)
        replace Nm := Aside0.mk (Nm.out.below hb10)
        replace Hc := Aside0.mk (blk_below Hc.out hb10)
        replace Nc := Aside0.mk (Nc.out.below hb10)
        replace HB := Aside0.mk (below_step HB.out hb10)
        have Nd := Aside0.mk hN10
        clear hN10 hb10
        go_wp2_with (first
          | (refine ld_st Hs Ns (by rfl) _ (by rfl) (by rfl) ?_; go_frame)
          | (refine ld_on Hs Ns (by rfl) _ (by rfl) (by rfl) ?_; go_frame)
          | (refine ld_st Ha Na (by rfl) _ (by rfl) (by rfl) ?_; go_frame)
          | (refine ld_on Ha Na (by rfl) _ (by rfl) (by rfl) ?_; go_frame)
          | (refine ld_st Hb Nb (by rfl) _ (by rfl) (by rfl) ?_; go_frame)
          | (refine ld_on Hb Nb (by rfl) _ (by rfl) (by rfl) ?_; go_frame)
          | (refine ld_st Hm Nm (by rfl) _ (by rfl) (by rfl) ?_; go_frame)
          | (refine ld_on Hm Nm (by rfl) _ (by rfl) (by rfl) ?_; go_frame)
          | (refine ld_st Hc Nc (by rfl) _ (by rfl) (by rfl) ?_; go_frame)
          | (refine ld_on Hc Nc (by rfl) _ (by rfl) (by rfl) ?_; go_frame)
          | (refine ld_op Ho (by rfl) _ (by rfl) (by rfl) ?_; go_frame)
          | (refine ld_op Hp (by rfl) _ (by rfl) (by rfl) ?_; go_frame)
          | (refine ld_ev He (by rfl) _ (by rfl) (by rfl) ?_; go_frame)
          | (refine ld_ev Hf (by rfl) _ (by rfl) (by rfl) ?_; go_frame)
          | (refine sv_st Nd (by rfl) (by rfl) _ _ (by rfl) (by rfl) (by rfl) ?_; intro U11 hbk11 hBk11 hsk11; replace Hs := Aside0.mk (blk_below Hs.out hBk11); replace Ns := Aside0.mk (Ns.out.below hBk11); replace Ho := Aside0.mk (blk_below Ho.out hBk11); replace Hp := Aside0.mk (blk_below Hp.out hBk11); replace He := Aside0.mk (blk_below He.out hBk11); replace Hf := Aside0.mk (blk_below Hf.out hBk11); replace Ha := Aside0.mk (blk_below Ha.out hBk11); replace Na := Aside0.mk (Na.out.below hBk11); replace Hb := Aside0.mk (blk_below Hb.out hBk11); replace Nb := Aside0.mk (Nb.out.below hBk11); replace Hm := Aside0.mk (blk_below Hm.out hBk11); replace Nm := Aside0.mk (Nm.out.below hBk11); replace Hc := Aside0.mk (blk_below Hc.out hBk11); replace Nc := Aside0.mk (Nc.out.below hBk11); replace Nd := Aside0.mk (Nd.out.below hBk11); replace HB := Aside0.mk (below_step HB.out hBk11); have Hd := Aside0.mk hbk11; clear hbk11 hBk11 hsk11; go_frame)
          | (refine ld_st Hd Nd (by rfl) _ (by rfl) (by rfl) ?_; go_frame)
          | (refine ld_on Hd Nd (by rfl) _ (by rfl) (by rfl) ?_; go_frame))
        have hcn := same_calls Nm.out Nc.out FO.out
        rw [S1.out] at hcn
        refine hcn.mono ?_
        rintro e V12 ⟨rfl, hb12⟩
        clear hcn
        replace Hs := Aside0.mk (blk_below Hs.out hb12)
        replace Ns := Aside0.mk (Ns.out.below hb12)
        replace Ho := Aside0.mk (blk_below Ho.out hb12)
        replace Hp := Aside0.mk (blk_below Hp.out hb12)
        replace He := Aside0.mk (blk_below He.out hb12)
        replace Hf := Aside0.mk (blk_below Hf.out hb12)
        replace Ha := Aside0.mk (blk_below Ha.out hb12)
        replace Na := Aside0.mk (Na.out.below hb12)
        replace Hb := Aside0.mk (blk_below Hb.out hb12)
        replace Nb := Aside0.mk (Nb.out.below hb12)
        replace Hm := Aside0.mk (blk_below Hm.out hb12)
        replace Nm := Aside0.mk (Nm.out.below hb12)
        replace Hc := Aside0.mk (blk_below Hc.out hb12)
        replace Nc := Aside0.mk (Nc.out.below hb12)
        replace Hd := Aside0.mk (blk_below Hd.out hb12)
        replace Nd := Aside0.mk (Nd.out.below hb12)
        replace HB := Aside0.mk (below_step HB.out hb12)
        clear hb12
        go_wp2_with (first
          | (refine ld_st Hs Ns (by rfl) _ (by rfl) (by rfl) ?_; go_frame)
          | (refine ld_on Hs Ns (by rfl) _ (by rfl) (by rfl) ?_; go_frame)
          | (refine ld_st Ha Na (by rfl) _ (by rfl) (by rfl) ?_; go_frame)
          | (refine ld_on Ha Na (by rfl) _ (by rfl) (by rfl) ?_; go_frame)
          | (refine ld_st Hb Nb (by rfl) _ (by rfl) (by rfl) ?_; go_frame)
          | (refine ld_on Hb Nb (by rfl) _ (by rfl) (by rfl) ?_; go_frame)
          | (refine ld_st Hm Nm (by rfl) _ (by rfl) (by rfl) ?_; go_frame)
          | (refine ld_on Hm Nm (by rfl) _ (by rfl) (by rfl) ?_; go_frame)
          | (refine ld_st Hc Nc (by rfl) _ (by rfl) (by rfl) ?_; go_frame)
          | (refine ld_on Hc Nc (by rfl) _ (by rfl) (by rfl) ?_; go_frame)
          | (refine ld_st Hd Nd (by rfl) _ (by rfl) (by rfl) ?_; go_frame)
          | (refine ld_on Hd Nd (by rfl) _ (by rfl) (by rfl) ?_; go_frame)
          | (refine ld_op Ho (by rfl) _ (by rfl) (by rfl) ?_; go_frame)
          | (refine ld_op Hp (by rfl) _ (by rfl) (by rfl) ?_; go_frame)
          | (refine ld_ev He (by rfl) _ (by rfl) (by rfl) ?_; go_frame)
          | (refine ld_ev Hf (by rfl) _ (by rfl) (by rfl) ?_; go_frame))
        have hcn := same_calls Nm.out Nd.out FO.out
        rw [S1.out] at hcn
        refine hcn.mono ?_
        rintro e V13 ⟨rfl, hb13⟩
        clear hcn
        replace Hs := Aside0.mk (blk_below Hs.out hb13)
        replace Ns := Aside0.mk (Ns.out.below hb13)
        replace Ho := Aside0.mk (blk_below Ho.out hb13)
        replace Hp := Aside0.mk (blk_below Hp.out hb13)
        replace He := Aside0.mk (blk_below He.out hb13)
        replace Hf := Aside0.mk (blk_below Hf.out hb13)
        replace Ha := Aside0.mk (blk_below Ha.out hb13)
        replace Na := Aside0.mk (Na.out.below hb13)
        replace Hb := Aside0.mk (blk_below Hb.out hb13)
        replace Nb := Aside0.mk (Nb.out.below hb13)
        replace Hm := Aside0.mk (blk_below Hm.out hb13)
        replace Nm := Aside0.mk (Nm.out.below hb13)
        replace Hc := Aside0.mk (blk_below Hc.out hb13)
        replace Nc := Aside0.mk (Nc.out.below hb13)
        replace Hd := Aside0.mk (blk_below Hd.out hb13)
        replace Nd := Aside0.mk (Nd.out.below hb13)
        replace HB := Aside0.mk (below_step HB.out hb13)
        clear hb13
        go_wp2
        go_ret
        exact ⟨rfl, HB.out⟩
end Go.Proofs.YtmcddoolniaehaaGreat.S
end
