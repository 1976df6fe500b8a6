/- Several of the walk's texts in one: SLaw, SAwk, SBox, SBothP, SKeepP. -/
import Derived.Test.YtmcddoolniaehaaGreatMK16
import Derived.Test.YtmcddoolniaehaaGreatMK18
import Derived.Test.YtmcddoolniaehaaGreatMK20
section
namespace Go.Proofs.YtmcddoolniaehaaGreat.S
open Go.RowKit Go.Proofs.YtmcddoolniaehaaGreatW.PrintWords Go.Proofs.YtmcddoolniaehaaGreatW.PrintLast Go.Proofs.YtmcddoolniaehaaGreatW.PrintMore Go.Proofs.YtmcddoolniaehaaGreatW
set_option linter.unusedVariables false
set_option linter.unusedSimpArgs false
theorem fold_up {a b : List Rg} (h : mayB a = true) (hb : mayB b = true) : mayB (mergeO a b) = true := by
  unfold mergeO
  rw [h, hb]
  exact may_fold h ((mayB_iff b).1 hb).1
theorem getR_mergeO {a b : List Rg} (h : mayB a = true) (hb : mayB b = true) (k : ByteArray) : getR (mergeO a b) k = joinO (getR a k) (getR b k) := by
  unfold mergeO
  rw [h, hb]
  exact getR_fold b a k ((mayB_iff a).1 h).2 ((mayB_iff b).1 hb).2
theorem same_of {a b : List Rg} (h : mayB a = true) (hb : mayB b = true) (e : ∀ k, getR a k = getR b k) : a = b := reg_same a b ((mayB_iff a).1 h).2 ((mayB_iff b).1 hb).2 e
theorem mayS_iff {s : St} : mayS s = true ↔ mayC s.c = true ∧ mayB s.r = true ∧ mayP s.p = true := by unfold mayS; simp
theorem st_ext {a b : St} (h0 : a.c = b.c) (h1 : a.r = b.r) (h2 : a.p = b.p) : a = b := by cases a; cases b; simp_all
def mrg (l a b : St) : St := ⟨mergeC l.c a.c b.c, mergeO a.r b.r, mergeP l.p a.p b.p⟩
theorem mergeS_ok {l a b : St} (ml : mayS l = true) (ma : mayS a = true) (mb : mayS b = true) : mergeS l a b = (mrg l a b, 0) := by
  unfold mergeS
  rw [ml, ma, mb]
  rfl
def Good (s : St) : Prop := mayS s = true ∧ okL s.p ∧ inL s.c ∧ s.p.length < 1000
theorem getC_up : ∀ (l : List Ct), l.Pairwise cLt → ∀ x ∈ l, getC l x.f0 = x.f1
  | [], _, x, hx => by cases hx
  | y :: l, hp, x, hx => by
    rcases List.mem_cons.1 hx with rfl | hx
    · exact getC_head _ _
    · have hne := cLt_ne ((List.pairwise_cons.1 hp).1 x hx)
      rw [getC_cons, if_neg hne]
      exact getC_up l (List.pairwise_cons.1 hp).2 x hx
theorem getC_of {l : List Ct} (h : mayC l = true) {x : Ct} (hx : x ∈ l) : getC l x.f0 = x.f1 := getC_up l (may_up h) x hx
theorem in_merge {l a b : List Ct} (h0 : mayC l = true) (h1 : mayC a = true) (h2 : mayC b = true) : inL (mergeC l a b) := fun x hx => by
  have hm := may_merge h0 h1 h2
  have hg := get_merge h0 h1 h2 x.f0
  have : getC (mergeC l a b) x.f0 = x.f1 := getC_of hm hx
  rw [← this, hg]
  exact wrap_in _
theorem mrg_may {l a b : St} (hl : Good l) (ha : Good a) (hb : Good b) : mayS (mrg l a b) = true := by
  obtain ⟨l0, l1, l2⟩ := mayS_iff.1 hl.1
  obtain ⟨a0, a1, a2⟩ := mayS_iff.1 ha.1
  obtain ⟨b0, b1, b2⟩ := mayS_iff.1 hb.1
  exact mayS_iff.2 ⟨may_merge l0 a0 b0, fold_up a1 b1, mergeP_may ha.2.1 hb.2.1 a2 b2⟩
theorem mrg_good {l a b : St} (hl : Good l) (ha : Good a) (hb : Good b) (h : a.p.length + b.p.length < 1000) : Good (mrg l a b) := by
  obtain ⟨l0, l1, l2⟩ := mayS_iff.1 hl.1
  obtain ⟨a0, a1, a2⟩ := mayS_iff.1 ha.1
  obtain ⟨b0, b1, b2⟩ := mayS_iff.1 hb.1
  have := mergeP_len l.p a.p b.p
  exact ⟨mrg_may hl ha hb, mergeP_ok ha.2.1 hb.2.1, in_merge l0 a0 b0, by show (mergeP l.p a.p b.p).length < _; omega⟩
theorem mrg_comm {l a b : St} (hl : Good l) (ha : Good a) (hb : Good b) : mrg l a b = mrg l b a := by
  obtain ⟨l0, l1, l2⟩ := mayS_iff.1 hl.1
  obtain ⟨a0, a1, a2⟩ := mayS_iff.1 ha.1
  obtain ⟨b0, b1, b2⟩ := mayS_iff.1 hb.1
  have hl4 := hl.2.2.2
  have ha4 := ha.2.2.2
  have hb4 := hb.2.2.2
  refine st_ext ?_ ?_ ?_
  · exact same_may (may_merge l0 a0 b0) (may_merge l0 b0 a0) fun q => by
      show getC (mergeC l.c a.c b.c) q = getC (mergeC l.c b.c a.c) q
      rw [get_merge l0 a0 b0, get_merge l0 b0 a0]
      generalize getC a.c q = x
      generalize getC b.c q = y
      generalize getC l.c q = u
      unfold wrap64; omega
  · exact same_of (fold_up a1 b1) (fold_up b1 a1) fun q => by
      show getR (mergeO a.r b.r) q = getR (mergeO b.r a.r) q
      rw [getR_mergeO a1 b1, getR_mergeO b1 a1, joinO_comm (getR_keyed a.r q) (getR_keyed b.r q)]
  · refine up_ext (mergeP_up _ _ _) (mergeP_up _ _ _) fun x => ?_
    show x ∈ mergeP l.p a.p b.p ↔ x ∈ mergeP l.p b.p a.p
    rw [mergeP_mem hl.2.1 ha.2.1 hb.2.1 (by omega) (by omega) (by omega) l2 a2 b2, mergeP_mem hl.2.1 hb.2.1 ha.2.1 (by omega) (by omega) (by omega) l2 b2 a2]
    by_cases h1 : x ∈ l.p <;> by_cases h2 : x ∈ a.p <;> by_cases h3 : x ∈ b.p <;> simp [h1, h2, h3]
theorem mrg_assoc {l a b c : St} (hl : Good l) (ha : Good a) (hb : Good b) (hc : Good c) (h1 : a.p.length + b.p.length < 1000) (h2 : b.p.length + c.p.length < 1000) : mrg l (mrg l a b) c = mrg l a (mrg l b c) := by
  have gab := mrg_good hl ha hb h1
  have gbc := mrg_good hl hb hc h2
  obtain ⟨l0, l1, l2⟩ := mayS_iff.1 hl.1
  obtain ⟨a0, a1, a2⟩ := mayS_iff.1 ha.1
  obtain ⟨b0, b1, b2⟩ := mayS_iff.1 hb.1
  obtain ⟨c0, c1, c2⟩ := mayS_iff.1 hc.1
  have hl4 := hl.2.2.2
  have ha4 := ha.2.2.2
  have hb4 := hb.2.2.2
  have hc4 := hc.2.2.2
  have i1 := mergeP_len l.p a.p b.p
  have i2 := mergeP_len l.p b.p c.p
  refine st_ext ?_ ?_ ?_
  · exact same_may (may_merge l0 (may_merge l0 a0 b0) c0) (may_merge l0 a0 (may_merge l0 b0 c0)) fun q => by
      show getC (mergeC l.c (mergeC l.c a.c b.c) c.c) q = getC (mergeC l.c a.c (mergeC l.c b.c c.c)) q
      rw [get_merge l0 (may_merge l0 a0 b0) c0, get_merge l0 a0 b0, get_merge l0 a0 (may_merge l0 b0 c0), get_merge l0 b0 c0]
      generalize getC a.c q = x
      generalize getC b.c q = y
      generalize getC c.c q = z
      generalize getC l.c q = u
      unfold wrap64; omega
  · refine same_of (fold_up (fold_up a1 b1) c1) (fold_up a1 (fold_up b1 c1)) fun q => ?_
    show getR (mergeO (mergeO a.r b.r) c.r) q = getR (mergeO a.r (mergeO b.r c.r)) q
    rw [getR_mergeO (fold_up a1 b1) c1, getR_mergeO a1 b1, getR_mergeO a1 (fold_up b1 c1), getR_mergeO b1 c1, joinO_assoc (getR_keyed a.r q) (getR_keyed b.r q)]
  · refine up_ext (mergeP_up _ _ _) (mergeP_up _ _ _) fun x => ?_
    show x ∈ mergeP l.p (mergeP l.p a.p b.p) c.p ↔ x ∈ mergeP l.p a.p (mergeP l.p b.p c.p)
    rw [mergeP_mem hl.2.1 (mergeP_ok ha.2.1 hb.2.1) hc.2.1 (by omega) (by omega) (by omega) l2 (mergeP_may ha.2.1 hb.2.1 a2 b2) c2, mergeP_mem hl.2.1 ha.2.1 hb.2.1 (by omega) (by omega) (by omega) l2 a2 b2,
      mergeP_mem hl.2.1 ha.2.1 (mergeP_ok hb.2.1 hc.2.1) (by omega) (by omega) (by omega) l2 a2 (mergeP_may hb.2.1 hc.2.1 b2 c2), mergeP_mem hl.2.1 hb.2.1 hc.2.1 (by omega) (by omega) (by omega) l2 b2 c2]
    by_cases h1 : x ∈ l.p <;> by_cases h2 : x ∈ a.p <;> by_cases h3 : x ∈ b.p <;> by_cases h4 : x ∈ c.p <;> simp [h1, h2, h3, h4]
theorem mrg_base {l b : St} (hl : Good l) (hb : Good b) : (mrg l l b).c = b.c ∧ (mrg l l b).p = b.p := by
  obtain ⟨l0, l1, l2⟩ := mayS_iff.1 hl.1
  obtain ⟨b0, b1, b2⟩ := mayS_iff.1 hb.1
  have hl4 := hl.2.2.2
  have hb4 := hb.2.2.2
  refine ⟨?_, ?_⟩
  · exact same_may (may_merge l0 l0 b0) b0 fun q => by
      show getC (mergeC l.c l.c b.c) q = getC b.c q
      rw [get_merge l0 l0 b0]
      have h := getC_in hb.2.2.1 q
      unfold inR at h
      generalize getC b.c q = y at h
      generalize getC l.c q = u
      unfold wrap64; omega
  · refine up_ext (mergeP_up _ _ _) (may_upP b2) fun x => ?_
    show x ∈ mergeP l.p l.p b.p ↔ x ∈ b.p
    rw [mergeP_mem hl.2.1 hl.2.1 hb.2.1 (by omega) (by omega) (by omega) l2 l2 b2]
    by_cases h1 : x ∈ l.p <;> by_cases h3 : x ∈ b.p <;> simp [h1, h3]
theorem mrg_self {a : St} (ha : Good a) : mrg a a a = a := by
  obtain ⟨a0, a1, a2⟩ := mayS_iff.1 ha.1
  obtain ⟨h1, h2⟩ := mrg_base ha ha
  refine st_ext h1 ?_ h2
  exact same_of (fold_up a1 a1) a1 fun q => by show getR (mergeO a.r a.r) q = getR a.r q; rw [getR_mergeO a1 a1, joinO_idem]
end Go.Proofs.YtmcddoolniaehaaGreat.S
end
section
namespace Go.Proofs.YtmcddoolniaehaaGreat.S
open Go.RowKit Go.Proofs.YtmcddoolniaehaaGreatW.PrintWords Go.Proofs.YtmcddoolniaehaaGreatW.PrintLast Go.Proofs.YtmcddoolniaehaaGreatW.PrintMore Go.Proofs.YtmcddoolniaehaaGreatW
set_option linter.unusedVariables false
set_option linter.unusedSimpArgs false
def rA : Rg := ⟨⟨#[97]⟩, ⟨#[120]⟩, 1, ⟨0, 1⟩⟩
def sA : St := ⟨[], [rA], []⟩
theorem fit0 {n : Nat} : FitS n noS := ⟨⟨Nat.zero_le _, Nat.zero_le _, Nat.zero_le _⟩, fun x hx => (by cases hx), fun x hx => (by cases hx), fun x hx => (by cases hx)⟩
theorem fitA : FitS 1000 sA := ⟨⟨Nat.zero_le _, by decide, Nat.zero_le _⟩, fun x hx => (by cases hx), fun x hx => (by rw [List.mem_singleton.1 hx]; exact ⟨by decide, by decide⟩), fun x hx => (by cases hx)⟩
theorem awk_can : canS noS 1 ⟨#[97]⟩ ⟨#[120]⟩ 0 0 1 1 = true := by decide +kernel
theorem awk_do : doS noS 1 ⟨#[97]⟩ ⟨#[120]⟩ 0 0 1 1 = (sA, 0) := by
  unfold doS
  rw [if_pos awk_can]
  unfold opS
  rw [if_neg (by decide), if_pos rfl]
  rfl
theorem awk_may : mayS sA = true := by decide +kernel
theorem awk_merge : mergeS noS sA noS = (sA, 0) := by
  unfold mergeS
  rw [if_pos (by decide +kernel)]
  have h0 : mergeC noS.c sA.c noS.c = [] := List.eq_nil_of_length_eq_zero (Nat.le_zero.1 (mergeC_len [] [] []))
  have h1 : mergeO sA.r noS.r = sA.r := by unfold mergeO; rw [if_pos (by decide +kernel)]; rfl
  have h2 : mergeP noS.p sA.p noS.p = [] := List.eq_nil_of_length_eq_zero (Nat.le_zero.1 (mergeP_len [] [] []))
  rw [h0, h1, h2]
  rfl
theorem awk_same : sameS sA sA = true := sameS_iff.2 rfl
theorem awk_put : putS noS.c noS.r noS.p = [0, 0, 0] := by
  have h : numI 0 = [0] := numL_small (by decide)
  unfold putS
  simp [noS, h]
theorem awk_diff : sameS sA noS = false := by
  cases h : sameS sA noS with
  | false => rfl
  | true => exact absurd (congrArg (fun s => s.r.length) (sameS_iff.1 h)) (by decide)
set_option maxHeartbeats 4000000 in
set_option maxRecDepth 100000 in
theorem awake_calls (w : World) : Calls Tryz.prog 9 #[] w fun e w' => e = .returned (.bool true) ∧ Below w.heap.size w w' := by
  have HB := Aside0.mk (Below.refl w.heap.size w)
  go_enter Tryz.func9, Tryz.ntmps9
  go_wp2_with fail
  have hcn := do_calls (key := ⟨#[97]⟩) (elem := ⟨#[120]⟩) 1 0 0 1 1 (zero_is w) fit0 (ok_small (by decide)) (ok_small (by decide))
  rw [awk_do] at hcn
  dsimp only at hcn
  refine hcn.mono ?_
  rintro e V1 ⟨css, rfl, hN1, hb1⟩
  clear hcn
  replace HB := Aside0.mk (below_step HB.out hb1)
  have Ns := Aside0.mk hN1
  clear hN1 hb1
  obtain ⟨A0, c0, A1, c1, A2, c2, hcs, _⟩ := Ns.out
  have HCS := Aside0.mk hcs
  clear hcs
  go_wp2_with (first
    | (refine sv_st Ns (by rfl) (by rfl) _ _ (by rfl) (by rfl) (by rfl) ?_; intro U2 hbk2 hBk2 hsk2; replace Ns := Aside0.mk (Ns.out.below hBk2); replace HB := Aside0.mk (below_step HB.out hBk2); have Hs := Aside0.mk hbk2; clear hbk2 hBk2 hsk2; have cs0 : U2.cell? ⟨V1.heap.size, 0, none⟩ = some (.slice A0 0 c0) := (by have h := Hs.out; rw [HCS.out] at h; exact blk_cell h 0); have cs1 : U2.cell? ⟨V1.heap.size, 1, none⟩ = some (.slice A1 1 c1) := (by have h := Hs.out; rw [HCS.out] at h; exact blk_cell h 1); have cs2 : U2.cell? ⟨V1.heap.size, 2, none⟩ = some (.slice A2 0 c2) := (by have h := Hs.out; rw [HCS.out] at h; exact blk_cell h 2); go_frame)
    | (refine ld_st Hs Ns (by rfl) _ (by rfl) (by rfl) ?_; go_frame)
    | (refine ld_on Hs Ns (by rfl) _ (by rfl) (by rfl) ?_; go_frame))
  have hcn := merge_calls (zero_is _) Ns.out (zero_is _) fit0 fitA fit0
  rw [awk_merge] at hcn
  dsimp only at hcn
  refine hcn.mono ?_
  rintro e V3 ⟨csm, rfl, hN3, hb3⟩
  clear hcn
  replace Hs := Aside0.mk (blk_below Hs.out hb3)
  replace Ns := Aside0.mk (Ns.out.below hb3)
  replace HB := Aside0.mk (below_step HB.out hb3)
  have Nm := Aside0.mk hN3
  clear hN3 hb3
  go_wp2_with (first
    | (refine ld_st Hs Ns (by rfl) _ (by rfl) (by rfl) ?_; go_frame)
    | (refine ld_on Hs Ns (by rfl) _ (by rfl) (by rfl) ?_; go_frame)
    | (refine sv_st Nm (by rfl) (by rfl) _ _ (by rfl) (by rfl) (by rfl) ?_; intro U4 hbk4 hBk4 hsk4; replace Hs := Aside0.mk (blk_below Hs.out hBk4); replace Ns := Aside0.mk (Ns.out.below hBk4); replace Nm := Aside0.mk (Nm.out.below hBk4); replace HB := Aside0.mk (below_step HB.out hBk4); have Hm := Aside0.mk hbk4; clear hbk4 hBk4 hsk4; have cs0 : U4.cell? ⟨V1.heap.size, 0, none⟩ = some (.slice A0 0 c0) := (by have h := Hs.out; rw [HCS.out] at h; exact blk_cell h 0); have cs1 : U4.cell? ⟨V1.heap.size, 1, none⟩ = some (.slice A1 1 c1) := (by have h := Hs.out; rw [HCS.out] at h; exact blk_cell h 1); have cs2 : U4.cell? ⟨V1.heap.size, 2, none⟩ = some (.slice A2 0 c2) := (by have h := Hs.out; rw [HCS.out] at h; exact blk_cell h 2); go_frame)
    | (refine ld_st Hm Nm (by rfl) _ (by rfl) (by rfl) ?_; go_frame)
    | (refine ld_on Hm Nm (by rfl) _ (by rfl) (by rfl) ?_; go_frame))
  have hcn := may_calls Ns.out (fitA.up (by decide))
  rw [awk_may] at hcn
  refine hcn.mono ?_
  rintro e V5 ⟨rfl, hb5⟩
  clear hcn
  replace Hs := Aside0.mk (blk_below Hs.out hb5)
  replace Ns := Aside0.mk (Ns.out.below hb5)
  replace Hm := Aside0.mk (blk_below Hm.out hb5)
  replace Nm := Aside0.mk (Nm.out.below hb5)
  replace HB := Aside0.mk (below_step HB.out hb5)
  clear hb5
  go_wp2_with (first
    | (refine ld_st Hs Ns (by rfl) _ (by rfl) (by rfl) ?_; go_frame)
    | (refine ld_on Hs Ns (by rfl) _ (by rfl) (by rfl) ?_; go_frame)
    | (refine ld_st Hm Nm (by rfl) _ (by rfl) (by rfl) ?_; go_frame)
    | (refine ld_on Hm Nm (by rfl) _ (by rfl) (by rfl) ?_; go_frame))
  have hcn := same_calls Ns.out Nm.out fitA
  rw [awk_same] at hcn
  refine hcn.mono ?_
  rintro e V6 ⟨rfl, hb6⟩
  clear hcn
  replace Hs := Aside0.mk (blk_below Hs.out hb6)
  replace Ns := Aside0.mk (Ns.out.below hb6)
  replace Hm := Aside0.mk (blk_below Hm.out hb6)
  replace Nm := Aside0.mk (Nm.out.below hb6)
  replace HB := Aside0.mk (below_step HB.out hb6)
  clear hb6
  go_wp2_with (first
    | (refine ld_st Hs Ns (by rfl) _ (by rfl) (by rfl) ?_; go_frame)
    | (refine ld_on Hs Ns (by rfl) _ (by rfl) (by rfl) ?_; go_frame)
    | (refine ld_st Hm Nm (by rfl) _ (by rfl) (by rfl) ?_; go_frame)
    | (refine ld_on Hm Nm (by rfl) _ (by rfl) (by rfl) ?_; go_frame))
  have hcn := put_calls2 (zero_is V6) fit0 (by intro x hx; cases hx)
  rw [awk_put] at hcn
  refine hcn.mono ?_
  rintro e V7 ⟨AP, cp, rfl, _, hb7⟩
  clear hcn
  replace Hs := Aside0.mk (blk_below Hs.out hb7)
  replace Ns := Aside0.mk (Ns.out.below hb7)
  replace Hm := Aside0.mk (blk_below Hm.out hb7)
  replace Nm := Aside0.mk (Nm.out.below hb7)
  replace HB := Aside0.mk (below_step HB.out hb7)
  clear hb7
  go_wp2_with (first
    | (refine ld_st Hs Ns (by rfl) _ (by rfl) (by rfl) ?_; go_frame)
    | (refine ld_on Hs Ns (by rfl) _ (by rfl) (by rfl) ?_; go_frame)
    | (refine ld_st Hm Nm (by rfl) _ (by rfl) (by rfl) ?_; go_frame)
    | (refine ld_on Hm Nm (by rfl) _ (by rfl) (by rfl) ?_; go_frame))
  have hcn := same_calls Ns.out (zero_is _) fitA
  rw [awk_diff] at hcn
  refine hcn.mono ?_
  rintro e V8 ⟨rfl, hb8⟩
  clear hcn
  replace Hs := Aside0.mk (blk_below Hs.out hb8)
  replace Ns := Aside0.mk (Ns.out.below hb8)
  replace Hm := Aside0.mk (blk_below Hm.out hb8)
  replace Nm := Aside0.mk (Nm.out.below hb8)
  replace HB := Aside0.mk (below_step HB.out hb8)
  clear hb8
  go_wp2
  go_ret
  exact ⟨rfl, HB.out⟩
end Go.Proofs.YtmcddoolniaehaaGreat.S
end
section
namespace Go.Proofs.YtmcddoolniaehaaGreat.S
open Go.RowKit Go.Proofs.YtmcddoolniaehaaGreatW.PrintWords Go.Proofs.YtmcddoolniaehaaGreatW.PrintLast Go.Proofs.YtmcddoolniaehaaGreatW.PrintMore Go.Proofs.YtmcddoolniaehaaGreatW
set_option linter.unusedVariables false
set_option linter.unusedSimpArgs false
theorem box1 (w : World) (o0 : Obj) : Below w.heap.size w (w.alloc o0) ∧ (w.alloc o0).heap[w.heap.size]? = some o0 := by
  exact ⟨below_alloc (Below.refl _ w) _, blk_new w o0⟩
theorem box2 (w : World) (o0 o1 : Obj) : Below w.heap.size w ((w.alloc o0).alloc o1) ∧ ((w.alloc o0).alloc o1).heap[w.heap.size]? = some o0 ∧ ((w.alloc o0).alloc o1).heap[w.heap.size + 1]? = some o1 := by
  have h1 := blk_new (w.alloc o0) o1
  simp only [World.size_alloc, Nat.add_assoc, Nat.reduceAdd] at h1
  exact ⟨below_alloc (below_alloc (Below.refl _ w) _) _, blk_alloc (blk_new w o0) _, h1⟩
theorem box3 (w : World) (o0 o1 o2 : Obj) : Below w.heap.size w (((w.alloc o0).alloc o1).alloc o2) ∧ (((w.alloc o0).alloc o1).alloc o2).heap[w.heap.size]? = some o0 ∧ (((w.alloc o0).alloc o1).alloc o2).heap[w.heap.size + 1]? = some o1 ∧ (((w.alloc o0).alloc o1).alloc o2).heap[w.heap.size + 2]? = some o2 := by
  have h1 := blk_new (w.alloc o0) o1
  have h2 := blk_new ((w.alloc o0).alloc o1) o2
  simp only [World.size_alloc, Nat.add_assoc, Nat.reduceAdd] at h1 h2
  exact ⟨below_alloc (below_alloc (below_alloc (Below.refl _ w) _) _) _, blk_alloc (blk_alloc (blk_new w o0) _) _, blk_alloc (h1) _, h2⟩
theorem box4 (w : World) (o0 o1 o2 o3 : Obj) : Below w.heap.size w ((((w.alloc o0).alloc o1).alloc o2).alloc o3) ∧ ((((w.alloc o0).alloc o1).alloc o2).alloc o3).heap[w.heap.size]? = some o0 ∧ ((((w.alloc o0).alloc o1).alloc o2).alloc o3).heap[w.heap.size + 1]? = some o1 ∧ ((((w.alloc o0).alloc o1).alloc o2).alloc o3).heap[w.heap.size + 2]? = some o2 ∧ ((((w.alloc o0).alloc o1).alloc o2).alloc o3).heap[w.heap.size + 3]? = some o3 := by
  have h1 := blk_new (w.alloc o0) o1
  have h2 := blk_new ((w.alloc o0).alloc o1) o2
  have h3 := blk_new (((w.alloc o0).alloc o1).alloc o2) o3
  simp only [World.size_alloc, Nat.add_assoc, Nat.reduceAdd] at h1 h2 h3
  exact ⟨below_alloc (below_alloc (below_alloc (below_alloc (Below.refl _ w) _) _) _) _, blk_alloc (blk_alloc (blk_alloc (blk_new w o0) _) _) _, blk_alloc (blk_alloc (h1) _) _, blk_alloc (h2) _, h3⟩
theorem box5 (w : World) (o0 o1 o2 o3 o4 : Obj) : Below w.heap.size w (((((w.alloc o0).alloc o1).alloc o2).alloc o3).alloc o4) ∧ (((((w.alloc o0).alloc o1).alloc o2).alloc o3).alloc o4).heap[w.heap.size]? = some o0 ∧ (((((w.alloc o0).alloc o1).alloc o2).alloc o3).alloc o4).heap[w.heap.size + 1]? = some o1 ∧ (((((w.alloc o0).alloc o1).alloc o2).alloc o3).alloc o4).heap[w.heap.size + 2]? = some o2 ∧ (((((w.alloc o0).alloc o1).alloc o2).alloc o3).alloc o4).heap[w.heap.size + 3]? = some o3 ∧ (((((w.alloc o0).alloc o1).alloc o2).alloc o3).alloc o4).heap[w.heap.size + 4]? = some o4 := by
  have h1 := blk_new (w.alloc o0) o1
  have h2 := blk_new ((w.alloc o0).alloc o1) o2
  have h3 := blk_new (((w.alloc o0).alloc o1).alloc o2) o3
  have h4 := blk_new ((((w.alloc o0).alloc o1).alloc o2).alloc o3) o4
  simp only [World.size_alloc, Nat.add_assoc, Nat.reduceAdd] at h1 h2 h3 h4
  exact ⟨below_alloc (below_alloc (below_alloc (below_alloc (below_alloc (Below.refl _ w) _) _) _) _) _, blk_alloc (blk_alloc (blk_alloc (blk_alloc (blk_new w o0) _) _) _) _, blk_alloc (blk_alloc (blk_alloc (h1) _) _) _, blk_alloc (blk_alloc (h2) _) _, blk_alloc (h3) _, h4⟩
end Go.Proofs.YtmcddoolniaehaaGreat.S
end
section
namespace Go.Proofs.YtmcddoolniaehaaGreat.S
open Go.RowKit Go.Proofs.YtmcddoolniaehaaGreatW.PrintWords Go.Proofs.YtmcddoolniaehaaGreatW.PrintLast Go.Proofs.YtmcddoolniaehaaGreatW.PrintMore Go.Proofs.YtmcddoolniaehaaGreatW
set_option linter.unusedVariables false
set_option linter.unusedSimpArgs false
theorem can_iff {s : St} {k : Int} {key elem : ByteArray} {n node seq gen : Int} : canS s k key elem n node seq gen = true ↔ mayS s = true ∧ opB k key elem n = true ∧ eventB node seq = true ∧ 1 ≤ gen := by unfold canS; simp
theorem doS_ok {s : St} {k : Int} {key elem : ByteArray} {n node seq gen : Int} (h : canS s k key elem n node seq gen = true) : doS s k key elem n node seq gen = (opS s k key elem n node seq gen, 0) := by unfold doS; rw [if_pos h]
theorem doS_bad {s : St} {k : Int} {key elem : ByteArray} {n node seq gen : Int} (h : canS s k key elem n node seq gen = false) : doS s k key elem n node seq gen = (noS, 1) := by unfold doS; rw [h]; rfl
theorem one_reg {key elem : ByteArray} {gen node seq : Int} (h1 : keyB key.data.toList = true) (h2 : keyB elem.data.toList = true) (h3 : 1 ≤ gen) (he : eventB node seq = true) : oneB (⟨key, elem, gen, ⟨node, seq⟩⟩ : Rg) = true := by
  obtain ⟨a, b, c, d⟩ := event_in he
  have h4 : 0 < gen := by omega
  simp [oneB, h1, h2, h4, a, b, c]
theorem put_merge {l : List Rg} {r : Rg} (h : mayB l = true) (hr : oneB r = true) : putO l r = mergeO l [r] ∧ mayB [r] = true := by
  have h1 : mayB [r] = true := (mayB_iff [r]).2 ⟨fun x hx => by rw [List.mem_singleton.1 hx]; exact hr, List.pairwise_singleton _ _⟩
  refine ⟨?_, h1⟩
  unfold putO mergeO
  rw [h, hr, h1]
  rfl
theorem one_pair {key elem : ByteArray} {node seq : Int} (h1 : keyB key.data.toList = true) (h2 : keyB elem.data.toList = true) (he : eventB node seq = true) : mayP [(⟨key, elem, ⟨node, seq⟩⟩ : Pr)] = true ∧ okPair (⟨key, elem, ⟨node, seq⟩⟩ : Pr) := by
  obtain ⟨a, b, c, d⟩ := event_in he
  have k1 := key_size h1
  have k2 := key_size h2
  have c' : 1 ≤ seq := by omega
  refine ⟨?_, ok_small (by show key.size ≤ 1000; omega), ok_small (by show elem.size ≤ 1000; omega), ⟨by show -9223372036854775808 ≤ node; omega, by show node ≤ 9223372036854775807; omega⟩, ⟨by show -9223372036854775808 ≤ seq; omega, by show seq ≤ 9223372036854775807; omega⟩⟩
  simp [mayP, mayPP, oneP, h1, h2, a, b, c']
theorem op_good {s : St} {k : Int} {key elem : ByteArray} {n node seq gen : Int} (hs : Good s) (h : canS s k key elem n node seq gen = true) (hl : s.p.length < 999) : Good (opS s k key elem n node seq gen) := by
  obtain ⟨m, o, e, g⟩ := can_iff.1 h
  obtain ⟨o1, o2, o3, o4⟩ := opB_keys o
  obtain ⟨m0, m1, m2⟩ := mayS_iff.1 m
  obtain ⟨_, h1, h2, h3⟩ := hs
  unfold opS
  by_cases k0 : k = 0
  · rw [if_pos k0]
    refine ⟨mayS_iff.2 ⟨may_inc m0 o1, m1, m2⟩, h1, fun x hx => ?_, h3⟩
    have hm := may_inc (n := n) m0 o1
    rw [← getC_of hm hx, get_inc m0 o1]
    split <;> exact wrap_in _
  rw [if_neg k0]
  have hel := (o3 k0).1
  by_cases k1 : k = 1
  · rw [if_pos k1]
    have hp := put_merge m1 (one_reg o1 hel g e)
    exact ⟨mayS_iff.2 ⟨m0, by show mayB (putO s.r _) = true; rw [hp.1]; exact fold_up m1 hp.2, m2⟩, h1, h2, h3⟩
  rw [if_neg k1]
  by_cases k2 : k = 2
  · rw [if_pos k2]
    have hp := one_pair o1 hel e
    have := addP_len s.p ⟨key, elem, ⟨node, seq⟩⟩
    exact ⟨mayS_iff.2 ⟨m0, m1, addP_may h1 hp.2 m2 hp.1⟩, addP_ok h1 hp.2, h2, by show (addP s.p _).length < 1000; omega⟩
  · rw [if_neg k2]
    have := delP_len s.p key elem
    exact ⟨mayS_iff.2 ⟨m0, m1, delP_may m2⟩, delP_ok h1, h2, by show (delP s.p _ _).length < 1000; omega⟩
theorem inc_inc {l : List Ct} {k1 k2 : ByteArray} (a b : Int) (ml : mayC l = true) (h1 : keyB k1.data.toList = true) (h2 : keyB k2.data.toList = true) (hi : inL l) : mergeC l (incO l k1 a) (incO l k2 b) = incO (incO l k1 a) k2 b := by
  have m1 := may_inc (n := a) ml h1
  have m2 := may_inc (n := b) ml h2
  refine same_may (may_merge ml m1 m2) (may_inc m1 h2) fun q => ?_
  rw [get_merge ml m1 m2, get_inc m1 h2, get_inc ml h1, get_inc ml h2, get_inc ml h1]
  have hq := getC_in hi q
  unfold inR at hq
  by_cases e2 : q = k2
  · subst e2
    simp only [if_true]
    by_cases e1 : q = k1
    · subst e1
      simp only [if_true]
      generalize getC l q = x
      unfold wrap64; omega
    · simp only [if_neg e1]
      generalize getC l q = x at hq
      unfold wrap64; omega
  · simp only [if_neg e2]
    by_cases e1 : q = k1
    · subst e1
      simp only [if_true]
      generalize getC l q = x at hq
      unfold wrap64; omega
    · simp only [if_neg e1]
      generalize getC l q = x at hq
      unfold wrap64; omega
theorem inc_l {l : List Ct} {k1 : ByteArray} (a : Int) (ml : mayC l = true) (h1 : keyB k1.data.toList = true) (hi : inL l) : mergeC l (incO l k1 a) l = incO l k1 a ∧ mergeC l l (incO l k1 a) = incO l k1 a := by
  have m1 := may_inc (n := a) ml h1
  have key : ∀ q, wrap64 (getC (incO l k1 a) q) = getC (incO l k1 a) q := fun q => by
    rw [get_inc ml h1]
    split <;> (unfold wrap64; omega)
  refine ⟨same_may (may_merge ml m1 ml) m1 fun q => ?_, same_may (may_merge ml ml m1) m1 fun q => ?_⟩
  · rw [get_merge ml m1 ml, ← key q]
    generalize getC (incO l k1 a) q = x
    generalize getC l q = y
    unfold wrap64; omega
  · rw [get_merge ml ml m1, ← key q]
    generalize getC (incO l k1 a) q = x
    generalize getC l q = y
    unfold wrap64; omega
theorem reg3 {l a b : List Rg} (ml : mayB l = true) (ma : mayB a = true) (mb : mayB b = true) : mergeO (mergeO l a) (mergeO l b) = mergeO (mergeO l a) b := by
  refine same_of (fold_up (fold_up ml ma) (fold_up ml mb)) (fold_up (fold_up ml ma) mb) fun q => ?_
  rw [getR_mergeO (fold_up ml ma) (fold_up ml mb), getR_mergeO (fold_up ml ma) mb, getR_mergeO ml ma, getR_mergeO ml mb]
  have hl := getR_keyed l q
  have ha := getR_keyed a q
  have hb := getR_keyed b q
  generalize getR l q = x at *
  generalize getR a q = y at *
  generalize getR b q = z at *
  rw [← joinO_assoc (joinO_keyed hl ha) hl, joinO_assoc hl ha, joinO_comm ha hl, ← joinO_assoc hl hl, joinO_idem]
theorem reg2 {l a : List Rg} (ml : mayB l = true) (ma : mayB a = true) : mergeO (mergeO l a) l = mergeO l a ∧ mergeO l (mergeO l a) = mergeO l a := by
  refine ⟨same_of (fold_up (fold_up ml ma) ml) (fold_up ml ma) fun q => ?_, same_of (fold_up ml (fold_up ml ma)) (fold_up ml ma) fun q => ?_⟩
  · rw [getR_mergeO (fold_up ml ma) ml, getR_mergeO ml ma]
    have hl := getR_keyed l q
    have ha := getR_keyed a q
    generalize getR l q = x at *
    generalize getR a q = y at *
    rw [joinO_assoc hl ha, joinO_comm ha hl, ← joinO_assoc hl hl, joinO_idem]
  · rw [getR_mergeO ml (fold_up ml ma), getR_mergeO ml ma]
    have hl := getR_keyed l q
    generalize getR l q = x at *
    generalize getR a q = y at *
    rw [← joinO_assoc hl hl, joinO_idem]
theorem fresh {l : List Pr} {key elem : ByteArray} {node seq : Int} (h : ∀ x ∈ l, ¬ (x.f2.f0 = node ∧ x.f2.f1 = seq)) : (⟨key, elem, ⟨node, seq⟩⟩ : Pr) ∉ l := fun hm => h _ hm ⟨rfl, rfl⟩
theorem both {s : St} {k1 k2 : Int} {key1 elem1 key2 elem2 : ByteArray} {n1 n2 a1 b1 a2 b2 gen : Int} (hs : Good s) (hl : s.p.length < 900) (h1 : canS s k1 key1 elem1 n1 a1 b1 gen = true) (h2 : canS s k2 key2 elem2 n2 a2 b2 gen = true) (d1 : k1 ≠ 3) (d2 : k2 ≠ 3)
    (f1 : ∀ x ∈ s.p, ¬ (x.f2.f0 = a1 ∧ x.f2.f1 = b1)) (f2 : ∀ x ∈ s.p, ¬ (x.f2.f0 = a2 ∧ x.f2.f1 = b2)) :
    mrg s (opS s k1 key1 elem1 n1 a1 b1 gen) (opS s k2 key2 elem2 n2 a2 b2 gen) = opS (opS s k1 key1 elem1 n1 a1 b1 gen) k2 key2 elem2 n2 a2 b2 gen := by
  obtain ⟨m, o, e, g⟩ := can_iff.1 h1
  obtain ⟨_, o', e', _⟩ := can_iff.1 h2
  obtain ⟨p1, p2, p3, p4⟩ := opB_keys o
  obtain ⟨q1, q2, q3, q4⟩ := opB_keys o'
  obtain ⟨m0, m1, m2⟩ := mayS_iff.1 m
  have hbase := mrg_self hs
  have cC : mergeC s.c s.c s.c = s.c := congrArg St.c hbase
  have cR : mergeO s.r s.r = s.r := congrArg St.r hbase
  have cP : mergeP s.p s.p s.p = s.p := congrArg St.p hbase
  have hk1 : k1 = 0 ∨ k1 = 1 ∨ k1 = 2 := by rcases p2 with h | h | h | h <;> first | exact .inl h | exact .inr (.inl h) | exact .inr (.inr h) | exact absurd h d1
  have hk2 : k2 = 0 ∨ k2 = 1 ∨ k2 = 2 := by rcases q2 with h | h | h | h <;> first | exact .inl h | exact .inr (.inl h) | exact .inr (.inr h) | exact absurd h d2
  have okl := hs.2.1
  have R : ∀ (hk : k1 ≠ 0), putO s.r ⟨key1, elem1, gen, ⟨a1, b1⟩⟩ = mergeO s.r [⟨key1, elem1, gen, ⟨a1, b1⟩⟩] ∧ mayB [(⟨key1, elem1, gen, ⟨a1, b1⟩⟩ : Rg)] = true := fun hk => put_merge m1 (one_reg p1 (p3 hk).1 g e)
  have R' : ∀ (hk : k2 ≠ 0) (l : List Rg) (ml : mayB l = true), putO l ⟨key2, elem2, gen, ⟨a2, b2⟩⟩ = mergeO l [⟨key2, elem2, gen, ⟨a2, b2⟩⟩] ∧ mayB [(⟨key2, elem2, gen, ⟨a2, b2⟩⟩ : Rg)] = true := fun hk l ml => put_merge ml (one_reg q1 (q3 hk).1 g e')
  have P1 : ∀ (hk : k1 ≠ 0), mayP [(⟨key1, elem1, ⟨a1, b1⟩⟩ : Pr)] = true ∧ okPair (⟨key1, elem1, ⟨a1, b1⟩⟩ : Pr) := fun hk => one_pair p1 (p3 hk).1 e
  have P2 : ∀ (hk : k2 ≠ 0), mayP [(⟨key2, elem2, ⟨a2, b2⟩⟩ : Pr)] = true ∧ okPair (⟨key2, elem2, ⟨a2, b2⟩⟩ : Pr) := fun hk => one_pair q1 (q3 hk).1 e'
  have AL := fun (x : Pr) => addP_len s.p x
  have fr1 := fresh (key := key1) (elem := elem1) f1
  have fr2 := fresh (key := key2) (elem := elem2) f2
  have addl : ∀ {x : Pr}, mayP [x] = true → okPair x → x ∉ s.p → mergeP s.p (addP s.p x) s.p = addP s.p x ∧ mergeP s.p s.p (addP s.p x) = addP s.p x := fun {x} hm ho hn => by
    have hlen := AL x
    refine ⟨up_ext (mergeP_up _ _ _) (addP_up _ _) fun y => ?_, up_ext (mergeP_up _ _ _) (addP_up _ _) fun y => ?_⟩
    · rw [mergeP_mem okl (addP_ok okl ho) okl (by omega) (by omega) (by omega) m2 (addP_may okl ho m2 hm) m2, addP_mem okl ho m2 hm]
      by_cases e1 : y ∈ s.p <;> by_cases e2 : y = x <;> simp_all
    · rw [mergeP_mem okl okl (addP_ok okl ho) (by omega) (by omega) (by omega) m2 m2 (addP_may okl ho m2 hm), addP_mem okl ho m2 hm]
      by_cases e1 : y ∈ s.p <;> by_cases e2 : y = x <;> simp_all
  rcases hk1 with rfl | rfl | rfl <;> rcases hk2 with rfl | rfl | rfl
  · exact st_ext (inc_inc n1 n2 m0 p1 q1 hs.2.2.1) cR cP
  · exact st_ext (inc_l n1 m0 p1 hs.2.2.1).1 (by show mergeO s.r (putO s.r _) = putO s.r _; rw [(R' (by decide) s.r m1).1]; exact (reg2 m1 (R' (by decide) s.r m1).2).2) cP
  · exact st_ext (inc_l n1 m0 p1 hs.2.2.1).1 cR (addl (P2 (by decide)).1 (P2 (by decide)).2 fr2).2
  · exact st_ext (inc_l n2 m0 q1 hs.2.2.1).2 (by show mergeO (putO s.r _) s.r = putO s.r _; rw [(R (by decide)).1]; exact (reg2 m1 (R (by decide)).2).1) cP
  · refine st_ext cC ?_ cP
    show mergeO (putO s.r _) (putO s.r _) = putO (putO s.r _) _
    have h := R (by decide)
    rw [h.1, (R' (by decide) s.r m1).1, (R' (by decide) _ (fold_up m1 h.2)).1]
    exact reg3 m1 h.2 (R' (by decide) s.r m1).2
  · exact st_ext cC (by show mergeO (putO s.r _) s.r = putO s.r _; rw [(R (by decide)).1]; exact (reg2 m1 (R (by decide)).2).1) (addl (P2 (by decide)).1 (P2 (by decide)).2 fr2).2
  · exact st_ext (inc_l n2 m0 q1 hs.2.2.1).2 cR (addl (P1 (by decide)).1 (P1 (by decide)).2 fr1).1
  · exact st_ext cC (by show mergeO s.r (putO s.r _) = putO s.r _; rw [(R' (by decide) s.r m1).1]; exact (reg2 m1 (R' (by decide) s.r m1).2).2) (addl (P1 (by decide)).1 (P1 (by decide)).2 fr1).1
  · refine st_ext cC cR ?_
    obtain ⟨u1, u2⟩ := P1 (by decide)
    obtain ⟨v1, v2⟩ := P2 (by decide)
    have l1 := AL ⟨key1, elem1, ⟨a1, b1⟩⟩
    have l2 := AL ⟨key2, elem2, ⟨a2, b2⟩⟩
    have mA := addP_may okl u2 m2 u1
    have oA := addP_ok okl u2
    refine up_ext (mergeP_up _ _ _) (addP_up _ _) fun y => ?_
    show y ∈ mergeP s.p (addP s.p ⟨key1, elem1, ⟨a1, b1⟩⟩) (addP s.p ⟨key2, elem2, ⟨a2, b2⟩⟩) ↔ y ∈ addP (addP s.p ⟨key1, elem1, ⟨a1, b1⟩⟩) ⟨key2, elem2, ⟨a2, b2⟩⟩
    rw [mergeP_mem okl oA (addP_ok okl v2) (by omega) (by omega) (by omega) m2 mA (addP_may okl v2 m2 v1), addP_mem okl u2 m2 u1, addP_mem okl v2 m2 v1, addP_mem oA v2 mA v1, addP_mem okl u2 m2 u1]
    by_cases e1 : y ∈ s.p <;> by_cases e2 : y = ⟨key1, elem1, ⟨a1, b1⟩⟩ <;> by_cases e3 : y = ⟨key2, elem2, ⟨a2, b2⟩⟩ <;> simp_all
end Go.Proofs.YtmcddoolniaehaaGreat.S
end
section
namespace Go.Proofs.YtmcddoolniaehaaGreat.S
open Go.RowKit Go.Proofs.YtmcddoolniaehaaGreatW.PrintWords Go.Proofs.YtmcddoolniaehaaGreatW.PrintLast Go.Proofs.YtmcddoolniaehaaGreatW.PrintMore Go.Proofs.YtmcddoolniaehaaGreatW
set_option linter.unusedVariables false
set_option linter.unusedSimpArgs false
theorem keyIs_iff {key : ByteArray} {x : Pr} : keyIs key x = true ↔ x.f0 = key := by
  unfold keyIs
  rw [beq_iff_eq]
  exact ⟨fun h => toList_inj h, fun h => by rw [h]⟩
theorem gone_key {key elem : ByteArray} {x : Pr} (h : goneB key elem x = true) : x.f0 = key := by
  unfold goneB at h
  rw [Bool.and_eq_true] at h
  exact keyIs_iff.1 h.1
theorem elems_same {l l' : List Pr} {key : ByteArray} (h : l.Pairwise pLt) (h' : l'.Pairwise pLt) (e : ∀ x, x.f0 = key → (x ∈ l ↔ x ∈ l')) : elemsP l key = elemsP l' key := by
  have hf : l.filter (keyIs key) = l'.filter (keyIs key) := by
    refine up_ext (h.filter _) (h'.filter _) fun x => ?_
    rw [List.mem_filter, List.mem_filter]
    constructor
    · rintro ⟨h1, h2⟩
      exact ⟨(e x (keyIs_iff.1 h2)).1 h1, h2⟩
    · rintro ⟨h1, h2⟩
      exact ⟨(e x (keyIs_iff.1 h2)).2 h1, h2⟩
  unfold elemsP elemL
  rw [hf]
theorem keep_ok {s : St} {k : Int} {x y : ByteArray} {n node seq gen : Int} {key : ByteArray} (hs : Good s) (hl : s.p.length < 900) (h : canS s k x y n node seq gen = true) (hne : key ≠ x) :
    getC (opS s k x y n node seq gen).c key = getC s.c key ∧ getR (opS s k x y n node seq gen).r key = getR s.r key ∧ elemsP (opS s k x y n node seq gen).p key = elemsP s.p key := by
  obtain ⟨m, o, e, g⟩ := can_iff.1 h
  obtain ⟨o1, o2, o3, o4⟩ := opB_keys o
  obtain ⟨m0, m1, m2⟩ := mayS_iff.1 m
  unfold opS
  by_cases k0 : k = 0
  · rw [if_pos k0]
    exact ⟨by rw [get_inc m0 o1, if_neg hne, wrap_id (getC_in hs.2.2.1 key)], rfl, rfl⟩
  rw [if_neg k0]
  have hel := (o3 k0).1
  by_cases k1 : k = 1
  · rw [if_pos k1]
    have hp := put_merge m1 (one_reg o1 hel g e)
    refine ⟨rfl, ?_, rfl⟩
    show getR (putO s.r _) key = _
    rw [hp.1, getR_mergeO m1 hp.2, getR_cons, if_neg (fun q => hne q.symm), getR_nil, joinO_none_right]
  rw [if_neg k1]
  by_cases k2 : k = 2
  · rw [if_pos k2]
    have hp := one_pair o1 hel e
    refine ⟨rfl, rfl, elems_same (addP_up _ _) (may_upP m2) fun z hz => ?_⟩
    rw [addP_mem hs.2.1 hp.2 m2 hp.1]
    constructor
    · rintro (q | q)
      · exact q
      · subst q; exact absurd hz.symm hne
    · exact .inl
  · rw [if_neg k2]
    refine ⟨rfl, rfl, elems_same (may_upP (delP_may m2)) (may_upP m2) fun z hz => ?_⟩
    rw [delP_mem m2]
    refine ⟨fun q => q.1, fun q => ⟨q, ?_⟩⟩
    cases hg : goneB x y z with
    | false => rfl
    | true => exact absurd (hz.symm.trans (gone_key hg)) hne
theorem keep_parts {s : St} {k : Int} {x y : ByteArray} {n node seq gen : Int} : (k = 0 → (opS s k x y n node seq gen).r = s.r ∧ (opS s k x y n node seq gen).p = s.p) ∧ (k = 1 → (opS s k x y n node seq gen).c = s.c ∧ (opS s k x y n node seq gen).p = s.p) ∧ (k ≠ 0 → k ≠ 1 → (opS s k x y n node seq gen).c = s.c ∧ (opS s k x y n node seq gen).r = s.r) := by
  unfold opS
  refine ⟨fun h => ?_, fun h => ?_, fun h h' => ?_⟩
  · subst h; exact ⟨rfl, rfl⟩
  · subst h; exact ⟨rfl, rfl⟩
  · rw [if_neg h, if_neg h']
    split <;> exact ⟨rfl, rfl⟩
section
variable {W : World} {A0 A1 A2 : Option Addr} {c0 c1 c2 : Nat} {s : St} {key : ByteArray}
theorem regget_calls (hv : StV W [.slice A0 s.c.length c0, .slice A1 s.r.length c1, .slice A2 s.p.length c2] s) {r1 r2 : ByteArray} {r3 r4 r5 : Int} {r6 : Bool} (h : getA (getR s.r key) = (r1, r2, r3, r4, r5, r6)) :
    Calls Tryz.prog 21 #[.slice A1 s.r.length c1, .string key] W fun e w' => e = .returned (.tuple #[.agg #[.string r1, .string r2, .int .i64 r3, .int .i64 r4, .int .i64 r5], .bool r6]) ∧ Below W.heap.size W w' := by
  obtain ⟨B0, d0, B1, d1, B2, d2, e, g1, g2, g3, g4, g5, g6⟩ := hv
  cases e
  exact reg_Get.calls A1 c1 s.r key r1 r2 r3 r4 r5 r6 W g3 g4 (by rw [get_f, h])
theorem ctrget_calls (hv : StV W [.slice A0 s.c.length c0, .slice A1 s.r.length c1, .slice A2 s.p.length c2] s) {z : Int} (h : getC s.c key = z) :
    Calls Tryz.prog 23 #[.slice A0 s.c.length c0, .string key] W fun e w' => e = .returned (.int .i64 z) ∧ Below W.heap.size W w' := by
  obtain ⟨B0, d0, B1, d1, B2, d2, e, g1, g2, g3, g4, g5, g6⟩ := hv
  cases e
  exact ctr_Get.calls A0 c0 s.c key z W g1 g2 (by rw [getC_f, h])
theorem elems_calls (hv : StV W [.slice A0 s.c.length c0, .slice A1 s.r.length c1, .slice A2 s.p.length c2] s) {l : List ByteArray} (ho : okL s.p) (hl : s.p.length ≤ 1000) (h : elemsP s.p key = l) :
    Calls Tryz.prog 22 #[.slice A2 s.p.length c2, .string key] W fun e w' => ∃ B c, e = .returned (.slice B l.length c) ∧ Below W.heap.size W w' := by
  obtain ⟨B0, d0, B1, d1, B2, d2, e, g1, g2, g3, g4, g5, g6⟩ := hv
  cases e
  refine (pair_Elems.calls A2 c2 s.p key l W g5 g6 (by rw [elemsP_f ho hl, h])).mono ?_
  rintro e w' ⟨v, rfl, hr, hb⟩
  obtain ⟨B, c, rfl, _, _⟩ := Kd.R_reads hr
  exact ⟨B, c, rfl, hb⟩
end

theorem cells5 {w : World} {g t : Nat} {v0 v1 v2 v3 v4 : Value} (h : w.heap[g]? = some (.cells #[v0, v1, v2, v3, v4] t (0, 0))) : w.cell? ⟨g, 0, none⟩ = some v0 ∧ w.cell? ⟨g, 1, none⟩ = some v1 ∧ w.cell? ⟨g, 2, none⟩ = some v2 ∧ w.cell? ⟨g, 3, none⟩ = some v3 ∧ w.cell? ⟨g, 4, none⟩ = some v4 := ⟨blk_cell h 0, blk_cell h 1, blk_cell h 2, blk_cell h 3, blk_cell h 4⟩
section
variable {W : World} {A0 A1 A2 B0 B1 B2 : Option Addr} {c0 c1 c2 d0 d1 d2 : Nat} {s t : St}
theorem mix0 (hs : StV W [.slice A0 s.c.length c0, .slice A1 s.r.length c1, .slice A2 s.p.length c2] s) (ht : StV W [.slice B0 t.c.length d0, .slice B1 t.r.length d1, .slice B2 t.p.length d2] t) (h : t.r = s.r ∧ t.p = s.p) : StV W [.slice A0 s.c.length c0, .slice B1 t.r.length d1, .slice B2 t.p.length d2] s := by
  obtain ⟨_, _, _, _, _, _, e, g1, g2, g3, g4, g5, g6⟩ := hs
  obtain ⟨_, _, _, _, _, _, e', i1, i2, i3, i4, i5, i6⟩ := ht
  cases e; cases e'
  rw [h.1] at i3 i4
  rw [h.2] at i5 i6
  exact ⟨_, _, _, _, _, _, by rw [h.1, h.2], g1, g2, i3, i4, i5, i6⟩
theorem mix1 (hs : StV W [.slice A0 s.c.length c0, .slice A1 s.r.length c1, .slice A2 s.p.length c2] s) (ht : StV W [.slice B0 t.c.length d0, .slice B1 t.r.length d1, .slice B2 t.p.length d2] t) (h : t.c = s.c ∧ t.p = s.p) : StV W [.slice B0 t.c.length d0, .slice A1 s.r.length c1, .slice B2 t.p.length d2] s := by
  obtain ⟨_, _, _, _, _, _, e, g1, g2, g3, g4, g5, g6⟩ := hs
  obtain ⟨_, _, _, _, _, _, e', i1, i2, i3, i4, i5, i6⟩ := ht
  cases e; cases e'
  rw [h.1] at i1 i2
  rw [h.2] at i5 i6
  exact ⟨_, _, _, _, _, _, by rw [h.1, h.2], i1, i2, g3, g4, i5, i6⟩
theorem mix2 (hs : StV W [.slice A0 s.c.length c0, .slice A1 s.r.length c1, .slice A2 s.p.length c2] s) (ht : StV W [.slice B0 t.c.length d0, .slice B1 t.r.length d1, .slice B2 t.p.length d2] t) (h : t.c = s.c ∧ t.r = s.r) : StV W [.slice B0 t.c.length d0, .slice B1 t.r.length d1, .slice A2 s.p.length c2] s := by
  obtain ⟨_, _, _, _, _, _, e, g1, g2, g3, g4, g5, g6⟩ := hs
  obtain ⟨_, _, _, _, _, _, e', i1, i2, i3, i4, i5, i6⟩ := ht
  cases e; cases e'
  rw [h.1] at i1 i2
  rw [h.2] at i3 i4
  exact ⟨_, _, _, _, _, _, by rw [h.1, h.2], i1, i2, i3, i4, g5, g6⟩
end
end Go.Proofs.YtmcddoolniaehaaGreat.S
end
