/- Several of the walk's texts in one: SSd, SLaw, SAwk, SBox. -/
import Derived.Test.YtmcddoolniaehaaGreatMT23
section
namespace Go.Proofs.YtmcddoolniaehaaGreat.S
open Go.RowKit Go.Proofs.YtmcddoolniaehaaGreatW.PrintWords Go.Proofs.YtmcddoolniaehaaGreatW.PrintLast Go.Proofs.YtmcddoolniaehaaGreatW.PrintMore Go.Proofs.YtmcddoolniaehaaGreatW
set_option linter.unusedVariables false
set_option linter.unusedSimpArgs false
def eventB (node seq : Int) : Bool := decide (0 ≤ node) && (decide (node < 8) && (decide (0 < seq) && decide (seq ≤ 1048576)))
theorem event_f (node seq : Int) : state_event.f node seq = some (eventB node seq) := by
  unfold state_event.f eventB
  by_cases h0 : node ≥ 0
  · rw [if_pos h0]
    by_cases h1 : node < 8
    · rw [if_pos h1]
      by_cases h2 : seq > 0
      · rw [if_pos h2]; simp [h0, h1, h2]
      · rw [if_neg h2]
        have : ¬ 0 < seq := by omega
        simp [this]
    · rw [if_neg h1]; simp [h1]
  · rw [if_neg h0]
    have : ¬ 0 ≤ node := by omega
    simp [this]
theorem event_in {node seq : Int} (h : eventB node seq = true) : 0 ≤ node ∧ node < 8 ∧ 0 < seq ∧ seq ≤ 1048576 := by
  unfold eventB at h
  simpa using h
def opS (s : St) (k : Int) (key elem : ByteArray) (n node seq gen : Int) : St :=
  if k = 0 then ⟨incO s.c key n, s.r, s.p⟩ else if k = 1 then ⟨s.c, putO s.r ⟨key, elem, gen, ⟨node, seq⟩⟩, s.p⟩ else if k = 2 then ⟨s.c, s.r, addP s.p ⟨key, elem, ⟨node, seq⟩⟩⟩ else ⟨s.c, s.r, delP s.p key elem⟩
def canS (s : St) (k : Int) (key elem : ByteArray) (n node seq gen : Int) : Bool := mayS s && (opB k key elem n && (eventB node seq && decide (1 ≤ gen)))
def doS (s : St) (k : Int) (key elem : ByteArray) (n node seq gen : Int) : St × Int := if canS s k key elem n node seq gen then (opS s k key elem n node seq gen, 0) else (noS, 1)
theorem opB_keys {k : Int} {key elem : ByteArray} {n : Int} (h : opB k key elem n = true) : keyB key.data.toList = true ∧ (k = 0 ∨ k = 1 ∨ k = 2 ∨ k = 3) ∧ (k ≠ 0 → keyB elem.data.toList = true ∧ n = 0) ∧ (k = 0 → incB elem n = true) := by
  have hk := op_known h
  unfold opB at h
  by_cases h0 : k = 0
  · rw [if_pos h0] at h
    simp only [Bool.and_eq_true] at h
    exact ⟨h.1, hk, fun q => absurd h0 q, fun _ => h.2⟩
  · rw [if_neg h0] at h
    split at h
    · unfold nameB at h
      simp only [Bool.and_eq_true, decide_eq_true_eq] at h
      exact ⟨h.1, hk, fun _ => ⟨h.2.2, h.2.1⟩, fun q => absurd q h0⟩
    · cases h
theorem ok_small {a : ByteArray} (h : a.size ≤ 1000) : okT a := by unfold okT maxLen; omega
theorem do_f {s : St} {key elem : ByteArray} (k n node seq gen : Int) (h : FitS 500 s) (h1 : okT key) (h2 : okT elem) :
    state_Do.f s.c s.r s.p k key elem n node seq gen = some ((doS s k key elem n node seq gen).1.c, (doS s k key elem n node seq gen).1.r, (doS s k key elem n node seq gen).1.p, (doS s k key elem n node seq gen).2) := by
  have hl := h.1
  have hd : doFuel s.c s.r s.p = s.c.length + s.r.length + s.p.length + 100 := rfl
  unfold state_Do.f
  rw [mayS_f (doFuel s.c s.r s.p) (h.up (by omega)) (by omega), Option.bind_some, show ops_May.f k key elem n = some (opB k key elem n) by unfold ops_May.f; rw [if_pos ⟨h1, h2⟩], Option.bind_some, event_f, Option.bind_some,
    show state_own.f s.c s.r s.p = some (s.c, s.r, s.p) by unfold state_own.f; rw [if_pos (by omega)], Option.bind_some]
  unfold doS
  by_cases hc : canS s k key elem n node seq gen = true
  · have hc2 := hc
    unfold canS at hc2
    simp only [Bool.and_eq_true, decide_eq_true_eq] at hc2
    obtain ⟨c1, c2, c3, c4⟩ := hc2
    rw [if_pos hc, if_pos ⟨c1, c2, c3, c4⟩]
    have hev := event_in c3
    have hks := key_size (opB_keys c2).1
    unfold opS
    by_cases k0 : k = 0
    · rw [if_pos k0, if_pos k0, inc_f n h.2.1 (by omega) (by omega)]; rfl
    rw [if_neg k0, if_neg k0]
    by_cases k1 : k = 1
    · rw [if_pos k1, if_pos k1]
      have := put_f (doFuel s.c s.r s.p) s.r ⟨key, elem, gen, ⟨node, seq⟩⟩ (by omega) (by omega) (ok_all h.2.2.1) ⟨h1, h2⟩
      rw [show reg_Put.f (doFuel s.c s.r s.p) s.r key elem gen node seq = some (putO s.r ⟨key, elem, gen, ⟨node, seq⟩⟩) from this]; rfl
    rw [if_neg k1, if_neg k1]
    by_cases k2 : k = 2
    · rw [if_pos k2, if_pos k2]
      have := addP_f (l := s.p) (p := ⟨key, elem, ⟨node, seq⟩⟩) h.2.2.2 ⟨h1, h2, ⟨by show -9223372036854775808 ≤ node; omega, by show node ≤ 9223372036854775807; omega⟩, ⟨by show -9223372036854775808 ≤ seq; omega, by show seq ≤ 9223372036854775807; omega⟩⟩ (by omega)
      rw [show pair_Add.f s.p key elem node seq = some (addP s.p ⟨key, elem, ⟨node, seq⟩⟩) from this]; rfl
    · rw [if_neg k2, if_neg k2, delP_f h.2.2.2 (by omega)]; rfl
  · rw [if_neg hc, if_neg (fun ⟨c1, c2, c3, c4⟩ => hc (by unfold canS; simp [c1, c2, c3, c4]))]; rfl
theorem do_calls {W : World} {cs : List Value} {s : St} {key elem : ByteArray} (k n node seq gen : Int) (hv : StV W cs s) (h : FitS 500 s) (h1 : okT key) (h2 : okT elem) :
    Calls Tryz.prog 11 #[.agg cs.toArray, .agg #[.int .i64 k, .string key, .string elem, .int .i64 n], .agg #[.int .i64 node, .int .i64 seq], .int .i64 gen] W fun e w' => ∃ rs : List Value, e = .returned (.tuple #[.agg rs.toArray, .int .i64 (doS s k key elem n node seq gen).2]) ∧ StV w' rs (doS s k key elem n node seq gen).1 ∧ Below W.heap.size W w' := by
  obtain ⟨A0, c0, A1, c1, A2, c2, rfl, g1, g2, g3, g4, g5, g6⟩ := hv
  refine (state_Do.calls A0 c0 s.c A1 c1 s.r A2 c2 s.p k key elem n node seq gen _ _ _ _ W g1 g2 g3 g4 g5 g6 (do_f k n node seq gen h h1 h2)).mono ?_
  rintro e w' ⟨v0, v1, v2, rfl, r0, r1, r2, hb⟩
  exact ⟨[v0, v1, v2], rfl, StV_of r0 r1 r2, hb⟩
theorem do_fit {s : St} {key elem : ByteArray} {n0 : Nat} (k n node seq gen : Int) (h : FitS n0 s) : FitS (n0 + 1) (doS s k key elem n node seq gen).1 := by
  unfold doS
  split
  · rename_i hc
    unfold canS at hc
    simp only [Bool.and_eq_true, decide_eq_true_eq] at hc
    obtain ⟨c1, c2, c3, c4⟩ := hc
    obtain ⟨o1, o2, o3, o4⟩ := opB_keys c2
    have e1 := key_size o1
    have hev := event_in c3
    obtain ⟨⟨l0, l1, l2⟩, q0, q1, q2⟩ := h
    show FitS (n0 + 1) (opS s k key elem n node seq gen)
    unfold opS
    by_cases k0 : k = 0
    · rw [if_pos k0]
      have := incO_len s.c key n
      exact ⟨⟨by show (incO s.c key n).length ≤ _; omega, by show s.r.length ≤ _; omega, by show s.p.length ≤ _; omega⟩, incO_kS _ _ _, q1, q2⟩
    have e2 := key_size (o3 k0).1
    rw [if_neg k0]
    by_cases k1 : k = 1
    · rw [if_pos k1]
      have := putO_len s.r ⟨key, elem, gen, ⟨node, seq⟩⟩
      exact ⟨⟨by show s.c.length ≤ _; omega, by show (putO s.r _).length ≤ _; omega, by show s.p.length ≤ _; omega⟩, q0, putO_small q1 ⟨by show key.size ≤ 100; omega, by show elem.size ≤ 100; omega⟩, q2⟩
    rw [if_neg k1]
    by_cases k2 : k = 2
    · rw [if_pos k2]
      have := addP_len s.p ⟨key, elem, ⟨node, seq⟩⟩
      exact ⟨⟨by show s.c.length ≤ _; omega, by show s.r.length ≤ _; omega, by show (addP s.p _).length ≤ _; omega⟩, q0, q1, addP_ok q2 ⟨ok_small (by show key.size ≤ 1000; omega), ok_small (by show elem.size ≤ 1000; omega), ⟨by show -9223372036854775808 ≤ node; omega, by show node ≤ 9223372036854775807; omega⟩, ⟨by show -9223372036854775808 ≤ seq; omega, by show seq ≤ 9223372036854775807; omega⟩⟩⟩
    · rw [if_neg k2]
      have := delP_len s.p key elem
      exact ⟨⟨by show s.c.length ≤ _; omega, by show s.r.length ≤ _; omega, by show (delP s.p _ _).length ≤ _; omega⟩, q0, q1, delP_ok q2⟩
  · exact ⟨⟨by simp [noS], by simp [noS], by simp [noS]⟩, fun x hx => by simp [noS] at hx, fun x hx => by simp [noS] at hx, fun x hx => by simp [noS] at hx⟩
theorem put_calls2 {W : World} {cs : List Value} {s : St} (hv : StV W cs s) (h : FitS 1000 s) (hp : ∀ x ∈ s.p, x.f0.size ≤ 1000 ∧ x.f1.size ≤ 1000) :
    Calls Tryz.prog 16 #[.agg cs.toArray] W fun e w' => ∃ A c, e = .returned (.slice A (putS s.c s.r s.p).length c) ∧ Kd.R (Kd.int .u8) 5 w' W.heap.size (fun _ => True) (.slice A (putS s.c s.r s.p).length c) (putS s.c s.r s.p) ∧ Below W.heap.size W w' := by
  obtain ⟨A0, c0, A1, c1, A2, c2, rfl, g1, g2, g3, g4, g5, g6⟩ := hv
  obtain ⟨⟨l0, l1, l2⟩, q0, q1, q2⟩ := h
  refine (state_Put.calls A0 c0 s.c A1 c1 s.r A2 c2 s.p _ W g1 g2 g3 g4 g5 g6 (by unfold state_Put.f; rw [if_pos ⟨⟨l0, fun x hx => by have := q0 x hx; omega⟩, ⟨l1, fun x hx => by have := q1 x hx; unfold smallR at this; omega⟩, ⟨l2, hp⟩⟩])).mono ?_
  rintro e w' ⟨v, rfl, hr, hb⟩
  obtain ⟨A, c, rfl, _, _⟩ := Kd.R_reads hr
  exact ⟨A, c, rfl, hr, hb⟩
end Go.Proofs.YtmcddoolniaehaaGreat.S
end
section
namespace Go.Proofs.YtmcddoolniaehaaGreat.S
open Go.RowKit Go.Proofs.YtmcddoolniaehaaGreatW.PrintWords Go.Proofs.YtmcddoolniaehaaGreatW.PrintLast Go.Proofs.YtmcddoolniaehaaGreatW.PrintMore Go.Proofs.YtmcddoolniaehaaGreatW
set_option linter.unusedVariables false
set_option linter.unusedSimpArgs false
theorem fold_up {a b : List Rg} (h : mayB a = true) (hb : mayB b = true) : mayB (mergeO a b) = true := by
  unfold mergeO
  rw [h, hb]
  exact may_fold h ((mayB_iff b).1 hb).1
theorem getR_mergeO {a b : List Rg} (h : mayB a = true) (hb : mayB b = true) (k : ByteArray) : getR (mergeO a b) k = joinO (getR a k) (getR b k) := by
  unfold mergeO
  rw [h, hb]
  exact getR_fold b a k ((mayB_iff a).1 h).2 ((mayB_iff b).1 hb).2
theorem same_of {a b : List Rg} (h : mayB a = true) (hb : mayB b = true) (e : ∀ k, getR a k = getR b k) : a = b := reg_same a b ((mayB_iff a).1 h).2 ((mayB_iff b).1 hb).2 e
theorem mayS_iff {s : St} : mayS s = true ↔ mayC s.c = true ∧ mayB s.r = true ∧ mayP s.p = true := by unfold mayS; simp
theorem st_ext {a b : St} (h0 : a.c = b.c) (h1 : a.r = b.r) (h2 : a.p = b.p) : a = b := by cases a; cases b; simp_all
def mrg (l a b : St) : St := ⟨mergeC l.c a.c b.c, mergeO a.r b.r, mergeP l.p a.p b.p⟩
theorem mergeS_ok {l a b : St} (ml : mayS l = true) (ma : mayS a = true) (mb : mayS b = true) : mergeS l a b = (mrg l a b, 0) := by
  unfold mergeS
  rw [ml, ma, mb]
  rfl
def Good (s : St) : Prop := mayS s = true ∧ okL s.p ∧ inL s.c ∧ s.p.length < 1000
theorem getC_up : ∀ (l : List Ct), l.Pairwise cLt → ∀ x ∈ l, getC l x.f0 = x.f1
  | [], _, x, hx => by cases hx
  | y :: l, hp, x, hx => by
    rcases List.mem_cons.1 hx with rfl | hx
    · exact getC_head _ _
    · have hne := cLt_ne ((List.pairwise_cons.1 hp).1 x hx)
      rw [getC_cons, if_neg hne]
      exact getC_up l (List.pairwise_cons.1 hp).2 x hx
theorem getC_of {l : List Ct} (h : mayC l = true) {x : Ct} (hx : x ∈ l) : getC l x.f0 = x.f1 := getC_up l (may_up h) x hx
theorem in_merge {l a b : List Ct} (h0 : mayC l = true) (h1 : mayC a = true) (h2 : mayC b = true) : inL (mergeC l a b) := fun x hx => by
  have hm := may_merge h0 h1 h2
  have hg := get_merge h0 h1 h2 x.f0
  have : getC (mergeC l a b) x.f0 = x.f1 := getC_of hm hx
  rw [← this, hg]
  exact wrap_in _
theorem mrg_may {l a b : St} (hl : Good l) (ha : Good a) (hb : Good b) : mayS (mrg l a b) = true := by
  obtain ⟨l0, l1, l2⟩ := mayS_iff.1 hl.1
  obtain ⟨a0, a1, a2⟩ := mayS_iff.1 ha.1
  obtain ⟨b0, b1, b2⟩ := mayS_iff.1 hb.1
  exact mayS_iff.2 ⟨may_merge l0 a0 b0, fold_up a1 b1, mergeP_may ha.2.1 hb.2.1 a2 b2⟩
theorem mrg_good {l a b : St} (hl : Good l) (ha : Good a) (hb : Good b) (h : a.p.length + b.p.length < 1000) : Good (mrg l a b) := by
  obtain ⟨l0, l1, l2⟩ := mayS_iff.1 hl.1
  obtain ⟨a0, a1, a2⟩ := mayS_iff.1 ha.1
  obtain ⟨b0, b1, b2⟩ := mayS_iff.1 hb.1
  have := mergeP_len l.p a.p b.p
  exact ⟨mrg_may hl ha hb, mergeP_ok ha.2.1 hb.2.1, in_merge l0 a0 b0, by show (mergeP l.p a.p b.p).length < _; omega⟩
theorem mrg_comm {l a b : St} (hl : Good l) (ha : Good a) (hb : Good b) : mrg l a b = mrg l b a := by
  obtain ⟨l0, l1, l2⟩ := mayS_iff.1 hl.1
  obtain ⟨a0, a1, a2⟩ := mayS_iff.1 ha.1
  obtain ⟨b0, b1, b2⟩ := mayS_iff.1 hb.1
  have hl4 := hl.2.2.2
  have ha4 := ha.2.2.2
  have hb4 := hb.2.2.2
  refine st_ext ?_ ?_ ?_
  · exact same_may (may_merge l0 a0 b0) (may_merge l0 b0 a0) fun q => by
      show getC (mergeC l.c a.c b.c) q = getC (mergeC l.c b.c a.c) q
      rw [get_merge l0 a0 b0, get_merge l0 b0 a0]
      generalize getC a.c q = x
      generalize getC b.c q = y
      generalize getC l.c q = u
      unfold wrap64; omega
  · exact same_of (fold_up a1 b1) (fold_up b1 a1) fun q => by
      show getR (mergeO a.r b.r) q = getR (mergeO b.r a.r) q
      rw [getR_mergeO a1 b1, getR_mergeO b1 a1, joinO_comm (getR_keyed a.r q) (getR_keyed b.r q)]
  · refine up_ext (mergeP_up _ _ _) (mergeP_up _ _ _) fun x => ?_
    show x ∈ mergeP l.p a.p b.p ↔ x ∈ mergeP l.p b.p a.p
    rw [mergeP_mem hl.2.1 ha.2.1 hb.2.1 (by omega) (by omega) (by omega) l2 a2 b2, mergeP_mem hl.2.1 hb.2.1 ha.2.1 (by omega) (by omega) (by omega) l2 b2 a2]
    by_cases h1 : x ∈ l.p <;> by_cases h2 : x ∈ a.p <;> by_cases h3 : x ∈ b.p <;> simp [h1, h2, h3]
theorem mrg_assoc {l a b c : St} (hl : Good l) (ha : Good a) (hb : Good b) (hc : Good c) (h1 : a.p.length + b.p.length < 1000) (h2 : b.p.length + c.p.length < 1000) : mrg l (mrg l a b) c = mrg l a (mrg l b c) := by
  have gab := mrg_good hl ha hb h1
  have gbc := mrg_good hl hb hc h2
  obtain ⟨l0, l1, l2⟩ := mayS_iff.1 hl.1
  obtain ⟨a0, a1, a2⟩ := mayS_iff.1 ha.1
  obtain ⟨b0, b1, b2⟩ := mayS_iff.1 hb.1
  obtain ⟨c0, c1, c2⟩ := mayS_iff.1 hc.1
  have hl4 := hl.2.2.2
  have ha4 := ha.2.2.2
  have hb4 := hb.2.2.2
  have hc4 := hc.2.2.2
  have i1 := mergeP_len l.p a.p b.p
  have i2 := mergeP_len l.p b.p c.p
  refine st_ext ?_ ?_ ?_
  · exact same_may (may_merge l0 (may_merge l0 a0 b0) c0) (may_merge l0 a0 (may_merge l0 b0 c0)) fun q => by
      show getC (mergeC l.c (mergeC l.c a.c b.c) c.c) q = getC (mergeC l.c a.c (mergeC l.c b.c c.c)) q
      rw [get_merge l0 (may_merge l0 a0 b0) c0, get_merge l0 a0 b0, get_merge l0 a0 (may_merge l0 b0 c0), get_merge l0 b0 c0]
      generalize getC a.c q = x
      generalize getC b.c q = y
      generalize getC c.c q = z
      generalize getC l.c q = u
      unfold wrap64; omega
  · refine same_of (fold_up (fold_up a1 b1) c1) (fold_up a1 (fold_up b1 c1)) fun q => ?_
    show getR (mergeO (mergeO a.r b.r) c.r) q = getR (mergeO a.r (mergeO b.r c.r)) q
    rw [getR_mergeO (fold_up a1 b1) c1, getR_mergeO a1 b1, getR_mergeO a1 (fold_up b1 c1), getR_mergeO b1 c1, joinO_assoc (getR_keyed a.r q) (getR_keyed b.r q)]
  · refine up_ext (mergeP_up _ _ _) (mergeP_up _ _ _) fun x => ?_
    show x ∈ mergeP l.p (mergeP l.p a.p b.p) c.p ↔ x ∈ mergeP l.p a.p (mergeP l.p b.p c.p)
    rw [mergeP_mem hl.2.1 (mergeP_ok ha.2.1 hb.2.1) hc.2.1 (by omega) (by omega) (by omega) l2 (mergeP_may ha.2.1 hb.2.1 a2 b2) c2, mergeP_mem hl.2.1 ha.2.1 hb.2.1 (by omega) (by omega) (by omega) l2 a2 b2,
      mergeP_mem hl.2.1 ha.2.1 (mergeP_ok hb.2.1 hc.2.1) (by omega) (by omega) (by omega) l2 a2 (mergeP_may hb.2.1 hc.2.1 b2 c2), mergeP_mem hl.2.1 hb.2.1 hc.2.1 (by omega) (by omega) (by omega) l2 b2 c2]
    by_cases h1 : x ∈ l.p <;> by_cases h2 : x ∈ a.p <;> by_cases h3 : x ∈ b.p <;> by_cases h4 : x ∈ c.p <;> simp [h1, h2, h3, h4]
theorem mrg_base {l b : St} (hl : Good l) (hb : Good b) : (mrg l l b).c = b.c ∧ (mrg l l b).p = b.p := by
  obtain ⟨l0, l1, l2⟩ := mayS_iff.1 hl.1
  obtain ⟨b0, b1, b2⟩ := mayS_iff.1 hb.1
  have hl4 := hl.2.2.2
  have hb4 := hb.2.2.2
  refine ⟨?_, ?_⟩
  · exact same_may (may_merge l0 l0 b0) b0 fun q => by
      show getC (mergeC l.c l.c b.c) q = getC b.c q
      rw [get_merge l0 l0 b0]
      have h := getC_in hb.2.2.1 q
      unfold inR at h
      generalize getC b.c q = y at h
      generalize getC l.c q = u
      unfold wrap64; omega
  · refine up_ext (mergeP_up _ _ _) (may_upP b2) fun x => ?_
    show x ∈ mergeP l.p l.p b.p ↔ x ∈ b.p
    rw [mergeP_mem hl.2.1 hl.2.1 hb.2.1 (by omega) (by omega) (by omega) l2 l2 b2]
    by_cases h1 : x ∈ l.p <;> by_cases h3 : x ∈ b.p <;> simp [h1, h3]
theorem mrg_self {a : St} (ha : Good a) : mrg a a a = a := by
  obtain ⟨a0, a1, a2⟩ := mayS_iff.1 ha.1
  obtain ⟨h1, h2⟩ := mrg_base ha ha
  refine st_ext h1 ?_ h2
  exact same_of (fold_up a1 a1) a1 fun q => by show getR (mergeO a.r a.r) q = getR a.r q; rw [getR_mergeO a1 a1, joinO_idem]
end Go.Proofs.YtmcddoolniaehaaGreat.S
end
section
namespace Go.Proofs.YtmcddoolniaehaaGreat.S
open Go.RowKit Go.Proofs.YtmcddoolniaehaaGreatW.PrintWords Go.Proofs.YtmcddoolniaehaaGreatW.PrintLast Go.Proofs.YtmcddoolniaehaaGreatW.PrintMore Go.Proofs.YtmcddoolniaehaaGreatW
set_option linter.unusedVariables false
set_option linter.unusedSimpArgs false
def rA : Rg := ⟨⟨#[97]⟩, ⟨#[120]⟩, 1, ⟨0, 1⟩⟩
def sA : St := ⟨[], [rA], []⟩
theorem fit0 {n : Nat} : FitS n noS := ⟨⟨Nat.zero_le _, Nat.zero_le _, Nat.zero_le _⟩, fun x hx => (by cases hx), fun x hx => (by cases hx), fun x hx => (by cases hx)⟩
theorem fitA : FitS 1000 sA := ⟨⟨Nat.zero_le _, by decide, Nat.zero_le _⟩, fun x hx => (by cases hx), fun x hx => (by rw [List.mem_singleton.1 hx]; exact ⟨by decide, by decide⟩), fun x hx => (by cases hx)⟩
theorem awk_can : canS noS 1 ⟨#[97]⟩ ⟨#[120]⟩ 0 0 1 1 = true := by decide +kernel
theorem awk_do : doS noS 1 ⟨#[97]⟩ ⟨#[120]⟩ 0 0 1 1 = (sA, 0) := by
  unfold doS
  rw [if_pos awk_can]
  unfold opS
  rw [if_neg (by decide), if_pos rfl]
  rfl
theorem awk_may : mayS sA = true := by decide +kernel
theorem awk_merge : mergeS noS sA noS = (sA, 0) := by
  unfold mergeS
  rw [if_pos (by decide +kernel)]
  have h0 : mergeC noS.c sA.c noS.c = [] := List.eq_nil_of_length_eq_zero (Nat.le_zero.1 (mergeC_len [] [] []))
  have h1 : mergeO sA.r noS.r = sA.r := by unfold mergeO; rw [if_pos (by decide +kernel)]; rfl
  have h2 : mergeP noS.p sA.p noS.p = [] := List.eq_nil_of_length_eq_zero (Nat.le_zero.1 (mergeP_len [] [] []))
  rw [h0, h1, h2]
  rfl
theorem awk_same : sameS sA sA = true := sameS_iff.2 rfl
theorem awk_put : putS noS.c noS.r noS.p = [0, 0, 0] := by
  have h : numI 0 = [0] := numL_small (by decide)
  unfold putS
  simp [noS, h]
theorem awk_diff : sameS sA noS = false := by
  cases h : sameS sA noS with
  | false => rfl
  | true => exact absurd (congrArg (fun s => s.r.length) (sameS_iff.1 h)) (by decide)
set_option maxHeartbeats 4000000 in
set_option maxRecDepth 100000 in
theorem awake_calls (w : World) : Calls Tryz.prog 9 #[] w fun e w' => e = .returned (.bool true) ∧ Below w.heap.size w w' := by
  have HB := Aside0.mk (Below.refl w.heap.size w)
  go_enter Tryz.func9, Tryz.ntmps9
  go_wp2_with fail
  have hcn := do_calls (key := ⟨#[97]⟩) (elem := ⟨#[120]⟩) 1 0 0 1 1 (zero_is w) fit0 (ok_small (by decide)) (ok_small (by decide))
  rw [awk_do] at hcn
  dsimp only at hcn
  refine hcn.mono ?_
  rintro e V1 ⟨css, rfl, hN1, hb1⟩
  clear hcn
  replace HB := Aside0.mk (below_step HB.out hb1)
  have Ns := Aside0.mk hN1
  clear hN1 hb1
  obtain ⟨A0, c0, A1, c1, A2, c2, hcs, _⟩ := Ns.out
  have HCS := Aside0.mk hcs
  clear hcs
  go_wp2_with (first
    | (refine sv_st Ns (by rfl) (by rfl) _ _ (by rfl) (by rfl) (by rfl) ?_; intro U2 hbk2 hBk2 hsk2; replace Ns := Aside0.mk (Ns.out.below hBk2); replace HB := Aside0.mk (below_step HB.out hBk2); have Hs := Aside0.mk hbk2; clear hbk2 hBk2 hsk2; have cs0 : U2.cell? ⟨V1.heap.size, 0, none⟩ = some (.slice A0 0 c0) := (by have h := Hs.out; rw [HCS.out] at h; exact blk_cell h 0); have cs1 : U2.cell? ⟨V1.heap.size, 1, none⟩ = some (.slice A1 1 c1) := (by have h := Hs.out; rw [HCS.out] at h; exact blk_cell h 1); have cs2 : U2.cell? ⟨V1.heap.size, 2, none⟩ = some (.slice A2 0 c2) := (by have h := Hs.out; rw [HCS.out] at h; exact blk_cell h 2); go_frame)
    | (refine ld_st Hs Ns (by rfl) _ (by rfl) (by rfl) ?_; go_frame)
    | (refine ld_on Hs Ns (by rfl) _ (by rfl) (by rfl) ?_; go_frame))
  have hcn := merge_calls (zero_is _) Ns.out (zero_is _) fit0 fitA fit0
  rw [awk_merge] at hcn
  dsimp only at hcn
  refine hcn.mono ?_
  rintro e V3 ⟨csm, rfl, hN3, hb3⟩
  clear hcn
  replace Hs := Aside0.mk (blk_below Hs.out hb3)
  replace Ns := Aside0.mk (Ns.out.below hb3)
  replace HB := Aside0.mk (below_step HB.out hb3)
  have Nm := Aside0.mk hN3
  clear hN3 hb3
  go_wp2_with (first
    | (refine ld_st Hs Ns (by rfl) _ (by rfl) (by rfl) ?_; go_frame)
    | (refine ld_on Hs Ns (by rfl) _ (by rfl) (by rfl) ?_; go_frame)
    | (refine sv_st Nm (by rfl) (by rfl) _ _ (by rfl) (by rfl) (by rfl) ?_; intro U4 hbk4 hBk4 hsk4; replace Hs := Aside0.mk (blk_below Hs.out hBk4); replace Ns := Aside0.mk (Ns.out.below hBk4); replace Nm := Aside0.mk (Nm.out.below hBk4); replace HB := Aside0.mk (below_step HB.out hBk4); have Hm := Aside0.mk hbk4; clear hbk4 hBk4 hsk4; have cs0 : U4.cell? ⟨V1.heap.size, 0, none⟩ = some (.slice A0 0 c0) := (by have h := Hs.out; rw [HCS.out] at h; exact blk_cell h 0); have cs1 : U4.cell? ⟨V1.heap.size, 1, none⟩ = some (.slice A1 1 c1) := (by have h := Hs.out; rw [HCS.out] at h; exact blk_cell h 1); have cs2 : U4.cell? ⟨V1.heap.size, 2, none⟩ = some (.slice A2 0 c2) := (by have h := Hs.out; rw [HCS.out] at h; exact blk_cell h 2); go_frame)
    | (refine ld_st Hm Nm (by rfl) _ (by rfl) (by rfl) ?_; go_frame)
    | (refine ld_on Hm Nm (by rfl) _ (by rfl) (by rfl) ?_; go_frame))
  have hcn := may_calls Ns.out (fitA.up (by decide))
  rw [awk_may] at hcn
  refine hcn.mono ?_
  rintro e V5 ⟨rfl, hb5⟩
  clear hcn
  replace Hs := Aside0.mk (blk_below Hs.out hb5)
  replace Ns := Aside0.mk (Ns.out.below hb5)
  replace Hm := Aside0.mk (blk_below Hm.out hb5)
  replace Nm := Aside0.mk (Nm.out.below hb5)
  replace HB := Aside0.mk (below_step HB.out hb5)
  clear hb5
  go_wp2_with (first
    | (refine ld_st Hs Ns (by rfl) _ (by rfl) (by rfl) ?_; go_frame)
    | (refine ld_on Hs Ns (by rfl) _ (by rfl) (by rfl) ?_; go_frame)
    | (refine ld_st Hm Nm (by rfl) _ (by rfl) (by rfl) ?_; go_frame)
    | (refine ld_on Hm Nm (by rfl) _ (by rfl) (by rfl) ?_; go_frame))
  have hcn := same_calls Ns.out Nm.out fitA
  rw [awk_same] at hcn
  refine hcn.mono ?_
  rintro e V6 ⟨rfl, hb6⟩
  clear hcn
  replace Hs := Aside0.mk (blk_below Hs.out hb6)
  replace Ns := Aside0.mk (Ns.out.below hb6)
  replace Hm := Aside0.mk (blk_below Hm.out hb6)
  replace Nm := Aside0.mk (Nm.out.below hb6)
  replace HB := Aside0.mk (below_step HB.out hb6)
  clear hb6
  go_wp2_with (first
    | (refine ld_st Hs Ns (by rfl) _ (by rfl) (by rfl) ?_; go_frame)
    | (refine ld_on Hs Ns (by rfl) _ (by rfl) (by rfl) ?_; go_frame)
    | (refine ld_st Hm Nm (by rfl) _ (by rfl) (by rfl) ?_; go_frame)
    | (refine ld_on Hm Nm (by rfl) _ (by rfl) (by rfl) ?_; go_frame))
  have hcn := put_calls2 (zero_is V6) fit0 (by intro x hx; cases hx)
  rw [awk_put] at hcn
  refine hcn.mono ?_
  rintro e V7 ⟨AP, cp, rfl, _, hb7⟩
  clear hcn
  replace Hs := Aside0.mk (blk_below Hs.out hb7)
  replace Ns := Aside0.mk (Ns.out.below hb7)
  replace Hm := Aside0.mk (blk_below Hm.out hb7)
  replace Nm := Aside0.mk (Nm.out.below hb7)
  replace HB := Aside0.mk (below_step HB.out hb7)
  clear hb7
  go_wp2_with (first
    | (refine ld_st Hs Ns (by rfl) _ (by rfl) (by rfl) ?_; go_frame)
    | (refine ld_on Hs Ns (by rfl) _ (by rfl) (by rfl) ?_; go_frame)
    | (refine ld_st Hm Nm (by rfl) _ (by rfl) (by rfl) ?_; go_frame)
    | (refine ld_on Hm Nm (by rfl) _ (by rfl) (by rfl) ?_; go_frame))
  have hcn := same_calls Ns.out (zero_is _) fitA
  rw [awk_diff] at hcn
  refine hcn.mono ?_
  rintro e V8 ⟨rfl, hb8⟩
  clear hcn
  replace Hs := Aside0.mk (blk_below Hs.out hb8)
  replace Ns := Aside0.mk (Ns.out.below hb8)
  replace Hm := Aside0.mk (blk_below Hm.out hb8)
  replace Nm := Aside0.mk (Nm.out.below hb8)
  replace HB := Aside0.mk (below_step HB.out hb8)
  clear hb8
  go_wp2
  go_ret
  exact ⟨rfl, HB.out⟩
end Go.Proofs.YtmcddoolniaehaaGreat.S
end
section
namespace Go.Proofs.YtmcddoolniaehaaGreat.S
open Go.RowKit Go.Proofs.YtmcddoolniaehaaGreatW.PrintWords Go.Proofs.YtmcddoolniaehaaGreatW.PrintLast Go.Proofs.YtmcddoolniaehaaGreatW.PrintMore Go.Proofs.YtmcddoolniaehaaGreatW
set_option linter.unusedVariables false
set_option linter.unusedSimpArgs false
theorem box1 (w : World) (o0 : Obj) : Below w.heap.size w (w.alloc o0) ∧ (w.alloc o0).heap[w.heap.size]? = some o0 := by
  exact ⟨below_alloc (Below.refl _ w) _, blk_new w o0⟩
theorem box2 (w : World) (o0 o1 : Obj) : Below w.heap.size w ((w.alloc o0).alloc o1) ∧ ((w.alloc o0).alloc o1).heap[w.heap.size]? = some o0 ∧ ((w.alloc o0).alloc o1).heap[w.heap.size + 1]? = some o1 := by
  have h1 := blk_new (w.alloc o0) o1
  simp only [World.size_alloc, Nat.add_assoc, Nat.reduceAdd] at h1
  exact ⟨below_alloc (below_alloc (Below.refl _ w) _) _, blk_alloc (blk_new w o0) _, h1⟩
theorem box3 (w : World) (o0 o1 o2 : Obj) : Below w.heap.size w (((w.alloc o0).alloc o1).alloc o2) ∧ (((w.alloc o0).alloc o1).alloc o2).heap[w.heap.size]? = some o0 ∧ (((w.alloc o0).alloc o1).alloc o2).heap[w.heap.size + 1]? = some o1 ∧ (((w.alloc o0).alloc o1).alloc o2).heap[w.heap.size + 2]? = some o2 := by
  have h1 := blk_new (w.alloc o0) o1
  have h2 := blk_new ((w.alloc o0).alloc o1) o2
  simp only [World.size_alloc, Nat.add_assoc, Nat.reduceAdd] at h1 h2
  exact ⟨below_alloc (below_alloc (below_alloc (Below.refl _ w) _) _) _, blk_alloc (blk_alloc (blk_new w o0) _) _, blk_alloc (h1) _, h2⟩
theorem box4 (w : World) (o0 o1 o2 o3 : Obj) : Below w.heap.size w ((((w.alloc o0).alloc o1).alloc o2).alloc o3) ∧ ((((w.alloc o0).alloc o1).alloc o2).alloc o3).heap[w.heap.size]? = some o0 ∧ ((((w.alloc o0).alloc o1).alloc o2).alloc o3).heap[w.heap.size + 1]? = some o1 ∧ ((((w.alloc o0).alloc o1).alloc o2).alloc o3).heap[w.heap.size + 2]? = some o2 ∧ ((((w.alloc o0).alloc o1).alloc o2).alloc o3).heap[w.heap.size + 3]? = some o3 := by
  have h1 := blk_new (w.alloc o0) o1
  have h2 := blk_new ((w.alloc o0).alloc o1) o2
  have h3 := blk_new (((w.alloc o0).alloc o1).alloc o2) o3
  simp only [World.size_alloc, Nat.add_assoc, Nat.reduceAdd] at h1 h2 h3
  exact ⟨below_alloc (below_alloc (below_alloc (below_alloc (Below.refl _ w) _) _) _) _, blk_alloc (blk_alloc (blk_alloc (blk_new w o0) _) _) _, blk_alloc (blk_alloc (h1) _) _, blk_alloc (h2) _, h3⟩
theorem box5 (w : World) (o0 o1 o2 o3 o4 : Obj) : Below w.heap.size w (((((w.alloc o0).alloc o1).alloc o2).alloc o3).alloc o4) ∧ (((((w.alloc o0).alloc o1).alloc o2).alloc o3).alloc o4).heap[w.heap.size]? = some o0 ∧ (((((w.alloc o0).alloc o1).alloc o2).alloc o3).alloc o4).heap[w.heap.size + 1]? = some o1 ∧ (((((w.alloc o0).alloc o1).alloc o2).alloc o3).alloc o4).heap[w.heap.size + 2]? = some o2 ∧ (((((w.alloc o0).alloc o1).alloc o2).alloc o3).alloc o4).heap[w.heap.size + 3]? = some o3 ∧ (((((w.alloc o0).alloc o1).alloc o2).alloc o3).alloc o4).heap[w.heap.size + 4]? = some o4 := by
  have h1 := blk_new (w.alloc o0) o1
  have h2 := blk_new ((w.alloc o0).alloc o1) o2
  have h3 := blk_new (((w.alloc o0).alloc o1).alloc o2) o3
  have h4 := blk_new ((((w.alloc o0).alloc o1).alloc o2).alloc o3) o4
  simp only [World.size_alloc, Nat.add_assoc, Nat.reduceAdd] at h1 h2 h3 h4
  exact ⟨below_alloc (below_alloc (below_alloc (below_alloc (below_alloc (Below.refl _ w) _) _) _) _) _, blk_alloc (blk_alloc (blk_alloc (blk_alloc (blk_new w o0) _) _) _) _, blk_alloc (blk_alloc (blk_alloc (h1) _) _) _, blk_alloc (blk_alloc (h2) _) _, blk_alloc (h3) _, h4⟩
end Go.Proofs.YtmcddoolniaehaaGreat.S
end
