/- Several of the walk's texts in one: SSRow, SSd, SLaw, SAwk, SBox, Sx25, SRK. -/
import Derived.Test.YtmcddoolniaehaaGreatMM04
import Derived.Test.YtmcddoolniaehaaGreatMM16
import Derived.Test.YtmcddoolniaehaaGreatMM20
section
namespace Go.Proofs.YtmcddoolniaehaaGreat.S
open Go.RowKit Go.ChangeShapes Go.WideShapes Go.ChangeAt Go.Deep Go.Proofs.YtmcddoolniaehaaGreatW.PrintWords Go.Proofs.YtmcddoolniaehaaGreatW.PrintLast Go.Proofs.YtmcddoolniaehaaGreatW.PrintMore Go.Proofs.YtmcddoolniaehaaGreatW
set_option linter.unusedVariables false
set_option linter.unusedSimpArgs false
section
variable {H : Type} {enc : TypeId × Value → H} {w : World} {base : Nat} {spare : Nat → Bool} {held : Bool}
theorem open_rowF {α : Type} [Inhabited α] {d : Kd α} {ok : α → Prop} {t e : TypeId} (hu : Tryz.prog.underlying t = some (.slice e)) (hc : Tryz.prog.cellsOf e = d.sz) (hop : ∀ (fuel : Nat) (cs : List Value) (x : DataW H × List MemPlace), DataW.trod enc Tryz.prog w base spare held fuel e cs = some x → ∃ a, d.K w a cs ∧ ok a)
    {fuel : Nat} {cs : List Value} {x : DataW H × List MemPlace} (hf : DataW.trod enc Tryz.prog w base spare held fuel t cs = some x) : ∃ A cap xs, cs = [.slice A xs.length cap] ∧ xs.length ≤ cap ∧ d.C w A xs.length xs ∧ ∀ x ∈ xs, ok x := by
  rcases open_slice hu hf with ⟨hcs, _⟩ | ⟨a, len, cap, m, n, D, Pl, hcs, _, hl, hm, hmm, _, hx⟩
  · exact ⟨none, 0, [], hcs, Nat.le_refl _, Kd.C_nil d w, fun x hx => by cases hx⟩
  · have hle : len ≤ m := by rw [hmm]; split <;> omega
    obtain ⟨f, hf'⟩ := choose_lt (α := α) (n := len) (p := fun i a' => ∃ cs', w.cells? base (a.add (i * d.sz)) d.sz = some cs' ∧ d.K w a' cs' ∧ ok a') (fun i hi => by
      obtain ⟨cs', h1, h2⟩ := hx i (by omega)
      obtain ⟨a', h3, h4⟩ := hop _ _ _ h2
      rw [hc] at h1
      exact ⟨a', cs', h1, h3, h4⟩)
    have hlen : ((List.range len).map f).length = len := by simp
    refine ⟨some a, cap, (List.range len).map f, by rw [hlen]; exact hcs, by rw [hlen]; exact hl, ⟨rfl, by rw [hlen]; unfold maxLen at hm; omega, fun _ => ⟨a, rfl, fun j p hp => ?_⟩⟩, ?_⟩
    rotate_left
    · intro x hx
      obtain ⟨i, hi, rfl⟩ := List.mem_map.1 hx
      obtain ⟨_, _, _, h⟩ := hf' i (by simpa using hi)
      exact h
    have hj : j < len := by
      have := (List.getElem?_eq_some_iff.1 hp).1
      simpa using this
    have hp' : f j = p := by
      rw [List.getElem?_map, List.getElem?_range hj] at hp
      simpa using hp
    subst hp'
    obtain ⟨cs', h1, h2, _⟩ := hf' j hj
    obtain ⟨_, h5, h6⟩ := World.cells?_some h1
    refine ⟨cs', h5, h2, fun i u hu => ?_⟩
    have hi := (List.getElem?_eq_some_iff.1 hu).1
    rw [← Deep.add_add, h6 i (by omega), hu]
theorem open_op {fuel : Nat} {cs : List Value} {x : DataW H × List MemPlace} (h : DataW.trod enc Tryz.prog w base spare held fuel 28 cs = some x) : ∃ a b c d, cs = [.int .i64 a, .string b, .string c, .int .i64 d] ∧ okI a ∧ okT b ∧ okT c ∧ okI d := by
  obtain ⟨xs, n, _, _, hl, hlen, hf⟩ := DataW.trod_struct Tryz.underlying28 h
  rw [show Tryz.prog.cellsOf 28 = 4 by kernel_rfl] at hl
  have hi : Tryz.prog.cellsOf 3 = 1 := by kernel_rfl
  have hs : Tryz.prog.cellsOf 9 = 1 := by kernel_rfl
  have hlen : xs.length = 4 := hlen
  obtain ⟨c0, c1, c2, c3, rfl⟩ := len4 hl
  obtain ⟨y0, y1, y2, y3, rfl⟩ := len4 hlen
  have h0 := hf 0 _ rfl
  have h1 := hf 1 _ rfl
  have h2 := hf 2 _ rfl
  have h3 := hf 3 _ rfl
  simp only [List.getElem_toArray, List.getElem_cons_zero, List.getElem_cons_succ, hi, hs, List.drop_zero, List.drop_succ_cons, List.take_succ_cons, List.take_zero, List.getElem?_cons_zero, List.getElem?_cons_succ] at h0 h1 h2 h3
  obtain ⟨a, e0, _, w0⟩ := DataW.trod_int Tryz.underlying3 h0
  obtain ⟨b, e1, _, w1⟩ := DataW.trod_string Tryz.underlying9 h1
  obtain ⟨c, e2, _, w2⟩ := DataW.trod_string Tryz.underlying9 h2
  obtain ⟨d, e3, _, w3⟩ := DataW.trod_int Tryz.underlying3 h3
  cases e0; cases e1; cases e2; cases e3
  exact ⟨a, b, c, d, rfl, okI_of w0, w1, w2, okI_of w3⟩
theorem open_stR {fuel : Nat} {cs : List Value} {x : DataW H × List MemPlace} (h : DataW.trod enc Tryz.prog w base spare held fuel 26 cs = some x) : ∃ s : St, StV w cs s ∧ okL s.p ∧ inL s.c ∧ ∀ x ∈ s.r, inR x.f2 ∧ inR x.f3.f0 ∧ inR x.f3.f1 := by
  obtain ⟨xs, n, _, _, hl, hlen, hf⟩ := DataW.trod_struct Tryz.underlying26 h
  rw [show Tryz.prog.cellsOf 26 = 3 by kernel_rfl] at hl
  have hc : Tryz.prog.cellsOf 22 = 1 := by kernel_rfl
  have hr : Tryz.prog.cellsOf 23 = 1 := by kernel_rfl
  have hp : Tryz.prog.cellsOf 24 = 1 := by kernel_rfl
  have hlen : xs.length = 3 := hlen
  obtain ⟨c0, c1, c2, rfl⟩ := len3 hl
  obtain ⟨y0, y1, y2, rfl⟩ := len3 hlen
  have h0 := hf 0 _ rfl
  have h1 := hf 1 _ rfl
  have h2 := hf 2 _ rfl
  simp only [List.getElem_toArray, List.getElem_cons_zero, List.getElem_cons_succ, hc, hr, hp, List.drop_zero, List.drop_succ_cons, List.take_succ_cons, List.take_zero, List.getElem?_cons_zero, List.getElem?_cons_succ] at h0 h1 h2
  obtain ⟨A0, p0, l0, e0, q0, C0, g0⟩ := open_rowF (d := k73) (ok := okCtr) Tryz.underlying22 (by kernel_rfl) (fun _ _ _ h => by obtain ⟨r, rfl, ho⟩ := open_ctr h; exact ⟨r, k73_mk w r, ho⟩) h0
  obtain ⟨A1, p1, l1, e1, q1, C1, g1⟩ := open_rowF (d := k47) (ok := okReg) Tryz.underlying23 (by kernel_rfl) (fun _ _ _ h => by obtain ⟨r, rfl, ho⟩ := open_reg h; exact ⟨r, k47_mk w r, ho⟩) h1
  obtain ⟨A2, p2, l2, e2, q2, C2, g2⟩ := open_rowF (d := k43) (ok := okPair) Tryz.underlying24 (by kernel_rfl) (fun _ _ _ h => by obtain ⟨r, rfl, ho⟩ := open_pair h; exact ⟨r, k43_mk w r, ho⟩) h2
  cases e0; cases e1; cases e2
  exact ⟨⟨l0, l1, l2⟩, ⟨A0, p0, A1, p1, A2, p2, rfl, C0, q0, C1, q1, C2, q2⟩, g2, fun x hx => (g0 x hx).2, fun x hx => (g1 x hx).2.2⟩
theorem open_st {fuel : Nat} {cs : List Value} {x : DataW H × List MemPlace} (h : DataW.trod enc Tryz.prog w base spare held fuel 26 cs = some x) : ∃ s : St, StV w cs s ∧ okL s.p ∧ inL s.c := by
  obtain ⟨s, h1, h2, h3, _⟩ := open_stR h
  exact ⟨s, h1, h2, h3⟩
end
end Go.Proofs.YtmcddoolniaehaaGreat.S
end
section
namespace Go.Proofs.YtmcddoolniaehaaGreat.S
open Go.RowKit Go.Proofs.YtmcddoolniaehaaGreatW.PrintWords Go.Proofs.YtmcddoolniaehaaGreatW.PrintLast Go.Proofs.YtmcddoolniaehaaGreatW.PrintMore Go.Proofs.YtmcddoolniaehaaGreatW
set_option linter.unusedVariables false
set_option linter.unusedSimpArgs false
def eventB (node seq : Int) : Bool := decide (0 ≤ node) && (decide (node < 8) && (decide (0 < seq) && decide (seq ≤ 1048576)))
theorem event_f (node seq : Int) : state_event.f node seq = some (eventB node seq) := by
  unfold state_event.f eventB
  by_cases h0 : node ≥ 0
  · rw [if_pos h0]
    by_cases h1 : node < 8
    · rw [if_pos h1]
      by_cases h2 : seq > 0
      · rw [if_pos h2]; simp [h0, h1, h2]
      · rw [if_neg h2]
        have : ¬ 0 < seq := by omega
        simp [this]
    · rw [if_neg h1]; simp [h1]
  · rw [if_neg h0]
    have : ¬ 0 ≤ node := by omega
    simp [this]
theorem event_in {node seq : Int} (h : eventB node seq = true) : 0 ≤ node ∧ node < 8 ∧ 0 < seq ∧ seq ≤ 1048576 := by
  unfold eventB at h
  simpa using h
def opS (s : St) (k : Int) (key elem : ByteArray) (n node seq gen : Int) : St :=
  if k = 0 then ⟨incO s.c key n, s.r, s.p⟩ else if k = 1 then ⟨s.c, putO s.r ⟨key, elem, gen, ⟨node, seq⟩⟩, s.p⟩ else if k = 2 then ⟨s.c, s.r, addP s.p ⟨key, elem, ⟨node, seq⟩⟩⟩ else ⟨s.c, s.r, delP s.p key elem⟩
def canS (s : St) (k : Int) (key elem : ByteArray) (n node seq gen : Int) : Bool := mayS s && (opB k key elem n && (eventB node seq && decide (1 ≤ gen)))
def doS (s : St) (k : Int) (key elem : ByteArray) (n node seq gen : Int) : St × Int := if canS s k key elem n node seq gen then (opS s k key elem n node seq gen, 0) else (noS, 1)
theorem opB_keys {k : Int} {key elem : ByteArray} {n : Int} (h : opB k key elem n = true) : keyB key.data.toList = true ∧ (k = 0 ∨ k = 1 ∨ k = 2 ∨ k = 3) ∧ (k ≠ 0 → keyB elem.data.toList = true ∧ n = 0) ∧ (k = 0 → incB elem n = true) := by
  have hk := op_known h
  unfold opB at h
  by_cases h0 : k = 0
  · rw [if_pos h0] at h
    simp only [Bool.and_eq_true] at h
    exact ⟨h.1, hk, fun q => absurd h0 q, fun _ => h.2⟩
  · rw [if_neg h0] at h
    split at h
    · unfold nameB at h
      simp only [Bool.and_eq_true, decide_eq_true_eq] at h
      exact ⟨h.1, hk, fun _ => ⟨h.2.2, h.2.1⟩, fun q => absurd q h0⟩
    · cases h
theorem ok_small {a : ByteArray} (h : a.size ≤ 1000) : okT a := by unfold okT maxLen; omega
theorem do_f {s : St} {key elem : ByteArray} (k n node seq gen : Int) (h : FitS 500 s) (h1 : okT key) (h2 : okT elem) :
    state_Do.f s.c s.r s.p k key elem n node seq gen = some ((doS s k key elem n node seq gen).1.c, (doS s k key elem n node seq gen).1.r, (doS s k key elem n node seq gen).1.p, (doS s k key elem n node seq gen).2) := by
  have hl := h.1
  have hd : doFuel s.c s.r s.p = s.c.length + s.r.length + s.p.length + 100 := rfl
  unfold state_Do.f
  rw [mayS_f (doFuel s.c s.r s.p) (h.up (by omega)) (by omega), Option.bind_some, show ops_May.f k key elem n = some (opB k key elem n) by unfold ops_May.f; rw [if_pos ⟨h1, h2⟩], Option.bind_some, event_f, Option.bind_some,
    show state_own.f s.c s.r s.p = some (s.c, s.r, s.p) by unfold state_own.f; rw [if_pos (by omega)], Option.bind_some]
  unfold doS
  by_cases hc : canS s k key elem n node seq gen = true
  · have hc2 := hc
    unfold canS at hc2
    simp only [Bool.and_eq_true, decide_eq_true_eq] at hc2
    obtain ⟨c1, c2, c3, c4⟩ := hc2
    rw [if_pos hc, if_pos ⟨c1, c2, c3, c4⟩]
    have hev := event_in c3
    have hks := key_size (opB_keys c2).1
    unfold opS
    by_cases k0 : k = 0
    · rw [if_pos k0, if_pos k0, inc_f n h.2.1 (by omega) (by omega)]; rfl
    rw [if_neg k0, if_neg k0]
    by_cases k1 : k = 1
    · rw [if_pos k1, if_pos k1]
      have := put_f (doFuel s.c s.r s.p) s.r ⟨key, elem, gen, ⟨node, seq⟩⟩ (by omega) (by omega) (ok_all h.2.2.1) ⟨h1, h2⟩
      rw [show reg_Put.f (doFuel s.c s.r s.p) s.r key elem gen node seq = some (putO s.r ⟨key, elem, gen, ⟨node, seq⟩⟩) from this]; rfl
    rw [if_neg k1, if_neg k1]
    by_cases k2 : k = 2
    · rw [if_pos k2, if_pos k2]
      have := addP_f (l := s.p) (p := ⟨key, elem, ⟨node, seq⟩⟩) h.2.2.2 ⟨h1, h2, ⟨by show -9223372036854775808 ≤ node; omega, by show node ≤ 9223372036854775807; omega⟩, ⟨by show -9223372036854775808 ≤ seq; omega, by show seq ≤ 9223372036854775807; omega⟩⟩ (by omega)
      rw [show pair_Add.f s.p key elem node seq = some (addP s.p ⟨key, elem, ⟨node, seq⟩⟩) from this]; rfl
    · rw [if_neg k2, if_neg k2, delP_f h.2.2.2 (by omega)]; rfl
  · rw [if_neg hc, if_neg (fun ⟨c1, c2, c3, c4⟩ => hc (by unfold canS; simp [c1, c2, c3, c4]))]; rfl
theorem do_calls {W : World} {cs : List Value} {s : St} {key elem : ByteArray} (k n node seq gen : Int) (hv : StV W cs s) (h : FitS 500 s) (h1 : okT key) (h2 : okT elem) :
    Calls Tryz.prog 11 #[.agg cs.toArray, .agg #[.int .i64 k, .string key, .string elem, .int .i64 n], .agg #[.int .i64 node, .int .i64 seq], .int .i64 gen] W fun e w' => ∃ rs : List Value, e = .returned (.tuple #[.agg rs.toArray, .int .i64 (doS s k key elem n node seq gen).2]) ∧ StV w' rs (doS s k key elem n node seq gen).1 ∧ Below W.heap.size W w' := by
  obtain ⟨A0, c0, A1, c1, A2, c2, rfl, g1, g2, g3, g4, g5, g6⟩ := hv
  refine (state_Do.calls A0 c0 s.c A1 c1 s.r A2 c2 s.p k key elem n node seq gen _ _ _ _ W g1 g2 g3 g4 g5 g6 (do_f k n node seq gen h h1 h2)).mono ?_
  rintro e w' ⟨v0, v1, v2, rfl, r0, r1, r2, hb⟩
  exact ⟨[v0, v1, v2], rfl, StV_of r0 r1 r2, hb⟩
theorem do_fit {s : St} {key elem : ByteArray} {n0 : Nat} (k n node seq gen : Int) (h : FitS n0 s) : FitS (n0 + 1) (doS s k key elem n node seq gen).1 := by
  unfold doS
  split
  · rename_i hc
    unfold canS at hc
    simp only [Bool.and_eq_true, decide_eq_true_eq] at hc
    obtain ⟨c1, c2, c3, c4⟩ := hc
    obtain ⟨o1, o2, o3, o4⟩ := opB_keys c2
    have e1 := key_size o1
    have hev := event_in c3
    obtain ⟨⟨l0, l1, l2⟩, q0, q1, q2⟩ := h
    show FitS (n0 + 1) (opS s k key elem n node seq gen)
    unfold opS
    by_cases k0 : k = 0
    · rw [if_pos k0]
      have := incO_len s.c key n
      exact ⟨⟨by show (incO s.c key n).length ≤ _; omega, by show s.r.length ≤ _; omega, by show s.p.length ≤ _; omega⟩, incO_kS _ _ _, q1, q2⟩
    have e2 := key_size (o3 k0).1
    rw [if_neg k0]
    by_cases k1 : k = 1
    · rw [if_pos k1]
      have := putO_len s.r ⟨key, elem, gen, ⟨node, seq⟩⟩
      exact ⟨⟨by show s.c.length ≤ _; omega, by show (putO s.r _).length ≤ _; omega, by show s.p.length ≤ _; omega⟩, q0, putO_small q1 ⟨by show key.size ≤ 100; omega, by show elem.size ≤ 100; omega⟩, q2⟩
    rw [if_neg k1]
    by_cases k2 : k = 2
    · rw [if_pos k2]
      have := addP_len s.p ⟨key, elem, ⟨node, seq⟩⟩
      exact ⟨⟨by show s.c.length ≤ _; omega, by show s.r.length ≤ _; omega, by show (addP s.p _).length ≤ _; omega⟩, q0, q1, addP_ok q2 ⟨ok_small (by show key.size ≤ 1000; omega), ok_small (by show elem.size ≤ 1000; omega), ⟨by show -9223372036854775808 ≤ node; omega, by show node ≤ 9223372036854775807; omega⟩, ⟨by show -9223372036854775808 ≤ seq; omega, by show seq ≤ 9223372036854775807; omega⟩⟩⟩
    · rw [if_neg k2]
      have := delP_len s.p key elem
      exact ⟨⟨by show s.c.length ≤ _; omega, by show s.r.length ≤ _; omega, by show (delP s.p _ _).length ≤ _; omega⟩, q0, q1, delP_ok q2⟩
  · exact ⟨⟨by simp [noS], by simp [noS], by simp [noS]⟩, fun x hx => by simp [noS] at hx, fun x hx => by simp [noS] at hx, fun x hx => by simp [noS] at hx⟩
theorem put_calls2 {W : World} {cs : List Value} {s : St} (hv : StV W cs s) (h : FitS 1000 s) (hp : ∀ x ∈ s.p, x.f0.size ≤ 1000 ∧ x.f1.size ≤ 1000) :
    Calls Tryz.prog 16 #[.agg cs.toArray] W fun e w' => ∃ A c, e = .returned (.slice A (putS s.c s.r s.p).length c) ∧ Kd.R (Kd.int .u8) 5 w' W.heap.size (fun _ => True) (.slice A (putS s.c s.r s.p).length c) (putS s.c s.r s.p) ∧ Below W.heap.size W w' := by
  obtain ⟨A0, c0, A1, c1, A2, c2, rfl, g1, g2, g3, g4, g5, g6⟩ := hv
  obtain ⟨⟨l0, l1, l2⟩, q0, q1, q2⟩ := h
  refine (state_Put.calls A0 c0 s.c A1 c1 s.r A2 c2 s.p _ W g1 g2 g3 g4 g5 g6 (by unfold state_Put.f; rw [if_pos ⟨⟨l0, fun x hx => by have := q0 x hx; omega⟩, ⟨l1, fun x hx => by have := q1 x hx; unfold smallR at this; omega⟩, ⟨l2, hp⟩⟩])).mono ?_
  rintro e w' ⟨v, rfl, hr, hb⟩
  obtain ⟨A, c, rfl, _, _⟩ := Kd.R_reads hr
  exact ⟨A, c, rfl, hr, hb⟩
end Go.Proofs.YtmcddoolniaehaaGreat.S
end
section
namespace Go.Proofs.YtmcddoolniaehaaGreat.S
open Go.RowKit Go.Proofs.YtmcddoolniaehaaGreatW.PrintWords Go.Proofs.YtmcddoolniaehaaGreatW.PrintLast Go.Proofs.YtmcddoolniaehaaGreatW.PrintMore Go.Proofs.YtmcddoolniaehaaGreatW
set_option linter.unusedVariables false
set_option linter.unusedSimpArgs false
theorem fold_up {a b : List Rg} (h : mayB a = true) (hb : mayB b = true) : mayB (mergeO a b) = true := by
  unfold mergeO
  rw [h, hb]
  exact may_fold h ((mayB_iff b).1 hb).1
theorem getR_mergeO {a b : List Rg} (h : mayB a = true) (hb : mayB b = true) (k : ByteArray) : getR (mergeO a b) k = joinO (getR a k) (getR b k) := by
  unfold mergeO
  rw [h, hb]
  exact getR_fold b a k ((mayB_iff a).1 h).2 ((mayB_iff b).1 hb).2
theorem same_of {a b : List Rg} (h : mayB a = true) (hb : mayB b = true) (e : ∀ k, getR a k = getR b k) : a = b := reg_same a b ((mayB_iff a).1 h).2 ((mayB_iff b).1 hb).2 e
theorem mayS_iff {s : St} : mayS s = true ↔ mayC s.c = true ∧ mayB s.r = true ∧ mayP s.p = true := by unfold mayS; simp
theorem st_ext {a b : St} (h0 : a.c = b.c) (h1 : a.r = b.r) (h2 : a.p = b.p) : a = b := by cases a; cases b; simp_all
def mrg (l a b : St) : St := ⟨mergeC l.c a.c b.c, mergeO a.r b.r, mergeP l.p a.p b.p⟩
theorem mergeS_ok {l a b : St} (ml : mayS l = true) (ma : mayS a = true) (mb : mayS b = true) : mergeS l a b = (mrg l a b, 0) := by
  unfold mergeS
  rw [ml, ma, mb]
  rfl
def Good (s : St) : Prop := mayS s = true ∧ okL s.p ∧ inL s.c ∧ s.p.length < 1000
theorem getC_up : ∀ (l : List Ct), l.Pairwise cLt → ∀ x ∈ l, getC l x.f0 = x.f1
  | [], _, x, hx => by cases hx
  | y :: l, hp, x, hx => by
    rcases List.mem_cons.1 hx with rfl | hx
    · exact getC_head _ _
    · have hne := cLt_ne ((List.pairwise_cons.1 hp).1 x hx)
      rw [getC_cons, if_neg hne]
      exact getC_up l (List.pairwise_cons.1 hp).2 x hx
theorem getC_of {l : List Ct} (h : mayC l = true) {x : Ct} (hx : x ∈ l) : getC l x.f0 = x.f1 := getC_up l (may_up h) x hx
theorem in_merge {l a b : List Ct} (h0 : mayC l = true) (h1 : mayC a = true) (h2 : mayC b = true) : inL (mergeC l a b) := fun x hx => by
  have hm := may_merge h0 h1 h2
  have hg := get_merge h0 h1 h2 x.f0
  have : getC (mergeC l a b) x.f0 = x.f1 := getC_of hm hx
  rw [← this, hg]
  exact wrap_in _
theorem mrg_may {l a b : St} (hl : Good l) (ha : Good a) (hb : Good b) : mayS (mrg l a b) = true := by
  obtain ⟨l0, l1, l2⟩ := mayS_iff.1 hl.1
  obtain ⟨a0, a1, a2⟩ := mayS_iff.1 ha.1
  obtain ⟨b0, b1, b2⟩ := mayS_iff.1 hb.1
  exact mayS_iff.2 ⟨may_merge l0 a0 b0, fold_up a1 b1, mergeP_may ha.2.1 hb.2.1 a2 b2⟩
theorem mrg_good {l a b : St} (hl : Good l) (ha : Good a) (hb : Good b) (h : a.p.length + b.p.length < 1000) : Good (mrg l a b) := by
  obtain ⟨l0, l1, l2⟩ := mayS_iff.1 hl.1
  obtain ⟨a0, a1, a2⟩ := mayS_iff.1 ha.1
  obtain ⟨b0, b1, b2⟩ := mayS_iff.1 hb.1
  have := mergeP_len l.p a.p b.p
  exact ⟨mrg_may hl ha hb, mergeP_ok ha.2.1 hb.2.1, in_merge l0 a0 b0, by show (mergeP l.p a.p b.p).length < _; omega⟩
theorem mrg_comm {l a b : St} (hl : Good l) (ha : Good a) (hb : Good b) : mrg l a b = mrg l b a := by
  obtain ⟨l0, l1, l2⟩ := mayS_iff.1 hl.1
  obtain ⟨a0, a1, a2⟩ := mayS_iff.1 ha.1
  obtain ⟨b0, b1, b2⟩ := mayS_iff.1 hb.1
  have hl4 := hl.2.2.2
  have ha4 := ha.2.2.2
  have hb4 := hb.2.2.2
  refine st_ext ?_ ?_ ?_
  · exact same_may (may_merge l0 a0 b0) (may_merge l0 b0 a0) fun q => by
      show getC (mergeC l.c a.c b.c) q = getC (mergeC l.c b.c a.c) q
      rw [get_merge l0 a0 b0, get_merge l0 b0 a0]
      generalize getC a.c q = x
      generalize getC b.c q = y
      generalize getC l.c q = u
      unfold wrap64; omega
  · exact same_of (fold_up a1 b1) (fold_up b1 a1) fun q => by
      show getR (mergeO a.r b.r) q = getR (mergeO b.r a.r) q
      rw [getR_mergeO a1 b1, getR_mergeO b1 a1, joinO_comm (getR_keyed a.r q) (getR_keyed b.r q)]
  · refine up_ext (mergeP_up _ _ _) (mergeP_up _ _ _) fun x => ?_
    show x ∈ mergeP l.p a.p b.p ↔ x ∈ mergeP l.p b.p a.p
    rw [mergeP_mem hl.2.1 ha.2.1 hb.2.1 (by omega) (by omega) (by omega) l2 a2 b2, mergeP_mem hl.2.1 hb.2.1 ha.2.1 (by omega) (by omega) (by omega) l2 b2 a2]
    by_cases h1 : x ∈ l.p <;> by_cases h2 : x ∈ a.p <;> by_cases h3 : x ∈ b.p <;> simp [h1, h2, h3]
theorem mrg_assoc {l a b c : St} (hl : Good l) (ha : Good a) (hb : Good b) (hc : Good c) (h1 : a.p.length + b.p.length < 1000) (h2 : b.p.length + c.p.length < 1000) : mrg l (mrg l a b) c = mrg l a (mrg l b c) := by
  have gab := mrg_good hl ha hb h1
  have gbc := mrg_good hl hb hc h2
  obtain ⟨l0, l1, l2⟩ := mayS_iff.1 hl.1
  obtain ⟨a0, a1, a2⟩ := mayS_iff.1 ha.1
  obtain ⟨b0, b1, b2⟩ := mayS_iff.1 hb.1
  obtain ⟨c0, c1, c2⟩ := mayS_iff.1 hc.1
  have hl4 := hl.2.2.2
  have ha4 := ha.2.2.2
  have hb4 := hb.2.2.2
  have hc4 := hc.2.2.2
  have i1 := mergeP_len l.p a.p b.p
  have i2 := mergeP_len l.p b.p c.p
  refine st_ext ?_ ?_ ?_
  · exact same_may (may_merge l0 (may_merge l0 a0 b0) c0) (may_merge l0 a0 (may_merge l0 b0 c0)) fun q => by
      show getC (mergeC l.c (mergeC l.c a.c b.c) c.c) q = getC (mergeC l.c a.c (mergeC l.c b.c c.c)) q
      rw [get_merge l0 (may_merge l0 a0 b0) c0, get_merge l0 a0 b0, get_merge l0 a0 (may_merge l0 b0 c0), get_merge l0 b0 c0]
      generalize getC a.c q = x
      generalize getC b.c q = y
      generalize getC c.c q = z
      generalize getC l.c q = u
      unfold wrap64; omega
  · refine same_of (fold_up (fold_up a1 b1) c1) (fold_up a1 (fold_up b1 c1)) fun q => ?_
    show getR (mergeO (mergeO a.r b.r) c.r) q = getR (mergeO a.r (mergeO b.r c.r)) q
    rw [getR_mergeO (fold_up a1 b1) c1, getR_mergeO a1 b1, getR_mergeO a1 (fold_up b1 c1), getR_mergeO b1 c1, joinO_assoc (getR_keyed a.r q) (getR_keyed b.r q)]
  · refine up_ext (mergeP_up _ _ _) (mergeP_up _ _ _) fun x => ?_
    show x ∈ mergeP l.p (mergeP l.p a.p b.p) c.p ↔ x ∈ mergeP l.p a.p (mergeP l.p b.p c.p)
    rw [mergeP_mem hl.2.1 (mergeP_ok ha.2.1 hb.2.1) hc.2.1 (by omega) (by omega) (by omega) l2 (mergeP_may ha.2.1 hb.2.1 a2 b2) c2, mergeP_mem hl.2.1 ha.2.1 hb.2.1 (by omega) (by omega) (by omega) l2 a2 b2,
      mergeP_mem hl.2.1 ha.2.1 (mergeP_ok hb.2.1 hc.2.1) (by omega) (by omega) (by omega) l2 a2 (mergeP_may hb.2.1 hc.2.1 b2 c2), mergeP_mem hl.2.1 hb.2.1 hc.2.1 (by omega) (by omega) (by omega) l2 b2 c2]
    by_cases h1 : x ∈ l.p <;> by_cases h2 : x ∈ a.p <;> by_cases h3 : x ∈ b.p <;> by_cases h4 : x ∈ c.p <;> simp [h1, h2, h3, h4]
theorem mrg_base {l b : St} (hl : Good l) (hb : Good b) : (mrg l l b).c = b.c ∧ (mrg l l b).p = b.p := by
  obtain ⟨l0, l1, l2⟩ := mayS_iff.1 hl.1
  obtain ⟨b0, b1, b2⟩ := mayS_iff.1 hb.1
  have hl4 := hl.2.2.2
  have hb4 := hb.2.2.2
  refine ⟨?_, ?_⟩
  · exact same_may (may_merge l0 l0 b0) b0 fun q => by
      show getC (mergeC l.c l.c b.c) q = getC b.c q
      rw [get_merge l0 l0 b0]
      have h := getC_in hb.2.2.1 q
      unfold inR at h
      generalize getC b.c q = y at h
      generalize getC l.c q = u
      unfold wrap64; omega
  · refine up_ext (mergeP_up _ _ _) (may_upP b2) fun x => ?_
    show x ∈ mergeP l.p l.p b.p ↔ x ∈ b.p
    rw [mergeP_mem hl.2.1 hl.2.1 hb.2.1 (by omega) (by omega) (by omega) l2 l2 b2]
    by_cases h1 : x ∈ l.p <;> by_cases h3 : x ∈ b.p <;> simp [h1, h3]
theorem mrg_self {a : St} (ha : Good a) : mrg a a a = a := by
  obtain ⟨a0, a1, a2⟩ := mayS_iff.1 ha.1
  obtain ⟨h1, h2⟩ := mrg_base ha ha
  refine st_ext h1 ?_ h2
  exact same_of (fold_up a1 a1) a1 fun q => by show getR (mergeO a.r a.r) q = getR a.r q; rw [getR_mergeO a1 a1, joinO_idem]
end Go.Proofs.YtmcddoolniaehaaGreat.S
end
section
namespace Go.Proofs.YtmcddoolniaehaaGreat.S
open Go.RowKit Go.Proofs.YtmcddoolniaehaaGreatW.PrintWords Go.Proofs.YtmcddoolniaehaaGreatW.PrintLast Go.Proofs.YtmcddoolniaehaaGreatW.PrintMore Go.Proofs.YtmcddoolniaehaaGreatW
set_option linter.unusedVariables false
set_option linter.unusedSimpArgs false
def rA : Rg := ⟨⟨#[97]⟩, ⟨#[120]⟩, 1, ⟨0, 1⟩⟩
def sA : St := ⟨[], [rA], []⟩
theorem fit0 {n : Nat} : FitS n noS := ⟨⟨Nat.zero_le _, Nat.zero_le _, Nat.zero_le _⟩, fun x hx => (by cases hx), fun x hx => (by cases hx), fun x hx => (by cases hx)⟩
theorem fitA : FitS 1000 sA := ⟨⟨Nat.zero_le _, by decide, Nat.zero_le _⟩, fun x hx => (by cases hx), fun x hx => (by rw [List.mem_singleton.1 hx]; exact ⟨by decide, by decide⟩), fun x hx => (by cases hx)⟩
theorem awk_can : canS noS 1 ⟨#[97]⟩ ⟨#[120]⟩ 0 0 1 1 = true := by decide +kernel
theorem awk_do : doS noS 1 ⟨#[97]⟩ ⟨#[120]⟩ 0 0 1 1 = (sA, 0) := by
  unfold doS
  rw [if_pos awk_can]
  unfold opS
  rw [if_neg (by decide), if_pos rfl]
  rfl
theorem awk_may : mayS sA = true := by decide +kernel
theorem awk_merge : mergeS noS sA noS = (sA, 0) := by
  unfold mergeS
  rw [if_pos (by decide +kernel)]
  have h0 : mergeC noS.c sA.c noS.c = [] := List.eq_nil_of_length_eq_zero (Nat.le_zero.1 (mergeC_len [] [] []))
  have h1 : mergeO sA.r noS.r = sA.r := by unfold mergeO; rw [if_pos (by decide +kernel)]; rfl
  have h2 : mergeP noS.p sA.p noS.p = [] := List.eq_nil_of_length_eq_zero (Nat.le_zero.1 (mergeP_len [] [] []))
  rw [h0, h1, h2]
  rfl
theorem awk_same : sameS sA sA = true := sameS_iff.2 rfl
theorem awk_put : putS noS.c noS.r noS.p = [0, 0, 0] := by
  have h : numI 0 = [0] := numL_small (by decide)
  unfold putS
  simp [noS, h]
theorem awk_diff : sameS sA noS = false := by
  cases h : sameS sA noS with
  | false => rfl
  | true => exact absurd (congrArg (fun s => s.r.length) (sameS_iff.1 h)) (by decide)
set_option maxHeartbeats 4000000 in
set_option maxRecDepth 100000 in
theorem awake_calls (w : World) : Calls Tryz.prog 9 #[] w fun e w' => e = .returned (.bool true) ∧ Below w.heap.size w w' := by
  have HB := Aside0.mk (Below.refl w.heap.size w)
  go_enter Tryz.func9, Tryz.ntmps9
  go_wp2_with fail
  have hcn := do_calls (key := ⟨#[97]⟩) (elem := ⟨#[120]⟩) 1 0 0 1 1 (zero_is w) fit0 (ok_small (by decide)) (ok_small (by decide))
  rw [awk_do] at hcn
  dsimp only at hcn
  refine hcn.mono ?_
  rintro e V1 ⟨css, rfl, hN1, hb1⟩
  clear hcn
  replace HB := Aside0.mk (below_step HB.out hb1)
  have Ns := Aside0.mk hN1
  clear hN1 hb1
  obtain ⟨A0, c0, A1, c1, A2, c2, hcs, _⟩ := Ns.out
  have HCS := Aside0.mk hcs
  clear hcs
  go_wp2_with (first
    | (refine sv_st Ns (by rfl) (by rfl) _ _ (by rfl) (by rfl) (by rfl) ?_; intro U2 hbk2 hBk2 hsk2; replace Ns := Aside0.mk (Ns.out.below hBk2); replace HB := Aside0.mk (below_step HB.out hBk2); have Hs := Aside0.mk hbk2; clear hbk2 hBk2 hsk2; have cs0 : U2.cell? ⟨V1.heap.size, 0, none⟩ = some (.slice A0 0 c0) := (by have h := Hs.out; rw [HCS.out] at h; exact blk_cell h 0); have cs1 : U2.cell? ⟨V1.heap.size, 1, none⟩ = some (.slice A1 1 c1) := (by have h := Hs.out; rw [HCS.out] at h; exact blk_cell h 1); have cs2 : U2.cell? ⟨V1.heap.size, 2, none⟩ = some (.slice A2 0 c2) := (by have h := Hs.out; rw [HCS.out] at h; exact blk_cell h 2); go_frame)
    | (refine ld_st Hs Ns (by rfl) _ (by rfl) (by rfl) ?_; go_frame)
    | (refine ld_on Hs Ns (by rfl) _ (by rfl) (by rfl) ?_; go_frame))
  have hcn := merge_calls (zero_is _) Ns.out (zero_is _) fit0 fitA fit0
  rw [awk_merge] at hcn
  dsimp only at hcn
  refine hcn.mono ?_
  rintro e V3 ⟨csm, rfl, hN3, hb3⟩
  clear hcn
  replace Hs := Aside0.mk (blk_below Hs.out hb3)
  replace Ns := Aside0.mk (Ns.out.below hb3)
  replace HB := Aside0.mk (below_step HB.out hb3)
  have Nm := Aside0.mk hN3
  clear hN3 hb3
  go_wp2_with (first
    | (refine ld_st Hs Ns (by rfl) _ (by rfl) (by rfl) ?_; go_frame)
    | (refine ld_on Hs Ns (by rfl) _ (by rfl) (by rfl) ?_; go_frame)
    | (refine sv_st Nm (by rfl) (by rfl) _ _ (by rfl) (by rfl) (by rfl) ?_; intro U4 hbk4 hBk4 hsk4; replace Hs := Aside0.mk (blk_below Hs.out hBk4); replace Ns := Aside0.mk (Ns.out.below hBk4); replace Nm := Aside0.mk (Nm.out.below hBk4); replace HB := Aside0.mk (below_step HB.out hBk4); have Hm := Aside0.mk hbk4; clear hbk4 hBk4 hsk4; have cs0 : U4.cell? ⟨V1.heap.size, 0, none⟩ = some (.slice A0 0 c0) := (by have h := Hs.out; rw [HCS.out] at h; exact blk_cell h 0); have cs1 : U4.cell? ⟨V1.heap.size, 1, none⟩ = some (.slice A1 1 c1) := (by have h := Hs.out; rw [HCS.out] at h; exact blk_cell h 1); have cs2 : U4.cell? ⟨V1.heap.size, 2, none⟩ = some (.slice A2 0 c2) := (by have h := Hs.out; rw [HCS.out] at h; exact blk_cell h 2); go_frame)
    | (refine ld_st Hm Nm (by rfl) _ (by rfl) (by rfl) ?_; go_frame)
    | (refine ld_on Hm Nm (by rfl) _ (by rfl) (by rfl) ?_; go_frame))
  have hcn := may_calls Ns.out (fitA.up (by decide))
  rw [awk_may] at hcn
  refine hcn.mono ?_
  rintro e V5 ⟨rfl, hb5⟩
  clear hcn
  replace Hs := Aside0.mk (blk_below Hs.out hb5)
  replace Ns := Aside0.mk (Ns.out.below hb5)
  replace Hm := Aside0.mk (blk_below Hm.out hb5)
  replace Nm := Aside0.mk (Nm.out.below hb5)
  replace HB := Aside0.mk (below_step HB.out hb5)
  clear hb5
  go_wp2_with (first
    | (refine ld_st Hs Ns (by rfl) _ (by rfl) (by rfl) ?_; go_frame)
    | (refine ld_on Hs Ns (by rfl) _ (by rfl) (by rfl) ?_; go_frame)
    | (refine ld_st Hm Nm (by rfl) _ (by rfl) (by rfl) ?_; go_frame)
    | (refine ld_on Hm Nm (by rfl) _ (by rfl) (by rfl) ?_; go_frame))
  have hcn := same_calls Ns.out Nm.out fitA
  rw [awk_same] at hcn
  refine hcn.mono ?_
  rintro e V6 ⟨rfl, hb6⟩
  clear hcn
  replace Hs := Aside0.mk (blk_below Hs.out hb6)
  replace Ns := Aside0.mk (Ns.out.below hb6)
  replace Hm := Aside0.mk (blk_below Hm.out hb6)
  replace Nm := Aside0.mk (Nm.out.below hb6)
  replace HB := Aside0.mk (below_step HB.out hb6)
  clear hb6
  go_wp2_with (first
    | (refine ld_st Hs Ns (by rfl) _ (by rfl) (by rfl) ?_; go_frame)
    | (refine ld_on Hs Ns (by rfl) _ (by rfl) (by rfl) ?_; go_frame)
    | (refine ld_st Hm Nm (by rfl) _ (by rfl) (by rfl) ?_; go_frame)
    | (refine ld_on Hm Nm (by rfl) _ (by rfl) (by rfl) ?_; go_frame))
  have hcn := put_calls2 (zero_is V6) fit0 (by intro x hx; cases hx)
  rw [awk_put] at hcn
  refine hcn.mono ?_
  rintro e V7 ⟨AP, cp, rfl, _, hb7⟩
  clear hcn
  replace Hs := Aside0.mk (blk_below Hs.out hb7)
  replace Ns := Aside0.mk (Ns.out.below hb7)
  replace Hm := Aside0.mk (blk_below Hm.out hb7)
  replace Nm := Aside0.mk (Nm.out.below hb7)
  replace HB := Aside0.mk (below_step HB.out hb7)
  clear hb7
  go_wp2_with (first
    | (refine ld_st Hs Ns (by rfl) _ (by rfl) (by rfl) ?_; go_frame)
    | (refine ld_on Hs Ns (by rfl) _ (by rfl) (by rfl) ?_; go_frame)
    | (refine ld_st Hm Nm (by rfl) _ (by rfl) (by rfl) ?_; go_frame)
    | (refine ld_on Hm Nm (by rfl) _ (by rfl) (by rfl) ?_; go_frame))
  have hcn := same_calls Ns.out (zero_is _) fitA
  rw [awk_diff] at hcn
  refine hcn.mono ?_
  rintro e V8 ⟨rfl, hb8⟩
  clear hcn
  replace Hs := Aside0.mk (blk_below Hs.out hb8)
  replace Ns := Aside0.mk (Ns.out.below hb8)
  replace Hm := Aside0.mk (blk_below Hm.out hb8)
  replace Nm := Aside0.mk (Nm.out.below hb8)
  replace HB := Aside0.mk (below_step HB.out hb8)
  clear hb8
  go_wp2
  go_ret
  exact ⟨rfl, HB.out⟩
end Go.Proofs.YtmcddoolniaehaaGreat.S
end
section
namespace Go.Proofs.YtmcddoolniaehaaGreat.S
open Go.RowKit Go.Proofs.YtmcddoolniaehaaGreatW.PrintWords Go.Proofs.YtmcddoolniaehaaGreatW.PrintLast Go.Proofs.YtmcddoolniaehaaGreatW.PrintMore Go.Proofs.YtmcddoolniaehaaGreatW
set_option linter.unusedVariables false
set_option linter.unusedSimpArgs false
theorem box1 (w : World) (o0 : Obj) : Below w.heap.size w (w.alloc o0) ∧ (w.alloc o0).heap[w.heap.size]? = some o0 := by
  exact ⟨below_alloc (Below.refl _ w) _, blk_new w o0⟩
theorem box2 (w : World) (o0 o1 : Obj) : Below w.heap.size w ((w.alloc o0).alloc o1) ∧ ((w.alloc o0).alloc o1).heap[w.heap.size]? = some o0 ∧ ((w.alloc o0).alloc o1).heap[w.heap.size + 1]? = some o1 := by
  have h1 := blk_new (w.alloc o0) o1
  simp only [World.size_alloc, Nat.add_assoc, Nat.reduceAdd] at h1
  exact ⟨below_alloc (below_alloc (Below.refl _ w) _) _, blk_alloc (blk_new w o0) _, h1⟩
theorem box3 (w : World) (o0 o1 o2 : Obj) : Below w.heap.size w (((w.alloc o0).alloc o1).alloc o2) ∧ (((w.alloc o0).alloc o1).alloc o2).heap[w.heap.size]? = some o0 ∧ (((w.alloc o0).alloc o1).alloc o2).heap[w.heap.size + 1]? = some o1 ∧ (((w.alloc o0).alloc o1).alloc o2).heap[w.heap.size + 2]? = some o2 := by
  have h1 := blk_new (w.alloc o0) o1
  have h2 := blk_new ((w.alloc o0).alloc o1) o2
  simp only [World.size_alloc, Nat.add_assoc, Nat.reduceAdd] at h1 h2
  exact ⟨below_alloc (below_alloc (below_alloc (Below.refl _ w) _) _) _, blk_alloc (blk_alloc (blk_new w o0) _) _, blk_alloc (h1) _, h2⟩
theorem box4 (w : World) (o0 o1 o2 o3 : Obj) : Below w.heap.size w ((((w.alloc o0).alloc o1).alloc o2).alloc o3) ∧ ((((w.alloc o0).alloc o1).alloc o2).alloc o3).heap[w.heap.size]? = some o0 ∧ ((((w.alloc o0).alloc o1).alloc o2).alloc o3).heap[w.heap.size + 1]? = some o1 ∧ ((((w.alloc o0).alloc o1).alloc o2).alloc o3).heap[w.heap.size + 2]? = some o2 ∧ ((((w.alloc o0).alloc o1).alloc o2).alloc o3).heap[w.heap.size + 3]? = some o3 := by
  have h1 := blk_new (w.alloc o0) o1
  have h2 := blk_new ((w.alloc o0).alloc o1) o2
  have h3 := blk_new (((w.alloc o0).alloc o1).alloc o2) o3
  simp only [World.size_alloc, Nat.add_assoc, Nat.reduceAdd] at h1 h2 h3
  exact ⟨below_alloc (below_alloc (below_alloc (below_alloc (Below.refl _ w) _) _) _) _, blk_alloc (blk_alloc (blk_alloc (blk_new w o0) _) _) _, blk_alloc (blk_alloc (h1) _) _, blk_alloc (h2) _, h3⟩
theorem box5 (w : World) (o0 o1 o2 o3 o4 : Obj) : Below w.heap.size w (((((w.alloc o0).alloc o1).alloc o2).alloc o3).alloc o4) ∧ (((((w.alloc o0).alloc o1).alloc o2).alloc o3).alloc o4).heap[w.heap.size]? = some o0 ∧ (((((w.alloc o0).alloc o1).alloc o2).alloc o3).alloc o4).heap[w.heap.size + 1]? = some o1 ∧ (((((w.alloc o0).alloc o1).alloc o2).alloc o3).alloc o4).heap[w.heap.size + 2]? = some o2 ∧ (((((w.alloc o0).alloc o1).alloc o2).alloc o3).alloc o4).heap[w.heap.size + 3]? = some o3 ∧ (((((w.alloc o0).alloc o1).alloc o2).alloc o3).alloc o4).heap[w.heap.size + 4]? = some o4 := by
  have h1 := blk_new (w.alloc o0) o1
  have h2 := blk_new ((w.alloc o0).alloc o1) o2
  have h3 := blk_new (((w.alloc o0).alloc o1).alloc o2) o3
  have h4 := blk_new ((((w.alloc o0).alloc o1).alloc o2).alloc o3) o4
  simp only [World.size_alloc, Nat.add_assoc, Nat.reduceAdd] at h1 h2 h3 h4
  exact ⟨below_alloc (below_alloc (below_alloc (below_alloc (below_alloc (Below.refl _ w) _) _) _) _) _, blk_alloc (blk_alloc (blk_alloc (blk_alloc (blk_new w o0) _) _) _) _, blk_alloc (blk_alloc (blk_alloc (h1) _) _) _, blk_alloc (blk_alloc (h2) _) _, blk_alloc (h3) _, h4⟩
end Go.Proofs.YtmcddoolniaehaaGreat.S
end
section
namespace Go.Proofs.YtmcddoolniaehaaGreat.S
open Go.RowKit Go.Proofs.YtmcddoolniaehaaGreatW.PrintWords Go.Proofs.YtmcddoolniaehaaGreatW.PrintLast Go.Proofs.YtmcddoolniaehaaGreatW.PrintMore
attribute [local go_sem] max2_int min2_int max_two min_two max_three min_three max_four min_four   -- for this text's walks alone
set_option linter.unusedVariables false
set_option linter.unusedSimpArgs false

def ref05_Key.l0 : Nat → ByteArray → Int → Option (Bool)
 | 0, _, _ => none
 | k + 1, x0, x3 => if x3 < (x0.size : Int) then (if 0 ≤ x3 then (if (bt x0 x3) ≥ 97 then (if (bt x0 x3) ≤ 122 then (ref05_Key.l0 k x0 (wrap64 (x3 + 1))) else (if (bt x0 x3) ≥ 48 then (if ((bt x0 x3) ≤ 57) then (ref05_Key.l0 k x0 (wrap64 (x3 + 1))) else (some false)) else (some false))) else (if (bt x0 x3) ≥ 48 then (if ((bt x0 x3) ≤ 57) then (ref05_Key.l0 k x0 (wrap64 (x3 + 1))) else (some false)) else (some false))) else (none)) else (if (x0.size : Int) ≥ 1 then (some (decide ((x0.size : Int) ≤ 8))) else (some false))
def ref05_Key.f (k : Nat) (a0 : ByteArray) : Option (Bool) := ref05_Key.l0 k a0 0
theorem ref05_Key.mono_l : ∀ k, (∀ y0 y1, LeO (ref05_Key.l0 k y0 y1) (ref05_Key.l0 (k + 1) y0 y1))
 | 0 => fun _ _ r h => by simp [ref05_Key.l0] at h
 | k + 1 => by
  have ih0 := ref05_Key.mono_l k
  ·intro y0 y1
   unfold ref05_Key.l0
   repeat' first
   | (with_reducible exact ih0 _ _)
   | (with_reducible exact LeO.refl _)
   | (with_reducible exact LeO.none _)
   | (with_reducible refine LeO.ite ?_ ?_)
   | (with_reducible refine LeO.bind ?_ (fun _ => ?_))
   | exact ih0 _ _
   | exact LeO.none _
   | refine LeO.ite ?_ ?_
   | refine LeO.bind ?_ (fun _ => ?_)
theorem ref05_Key.mono : ∀ a0 k, LeO (ref05_Key.f k a0) (ref05_Key.f (k + 1) a0) := by
 intro a0 k
 have ih0 := ref05_Key.mono_l k
 unfold ref05_Key.f
 repeat' first
   | (with_reducible exact ih0 _ _)
   | (with_reducible exact LeO.refl _)
   | (with_reducible exact LeO.none _)
   | (with_reducible refine LeO.ite ?_ ?_)
   | (with_reducible refine LeO.bind ?_ (fun _ => ?_))
   | exact ih0 _ _
   | exact LeO.none _
   | refine LeO.ite ?_ ?_
   | refine LeO.bind ?_ (fun _ => ?_)
set_option maxHeartbeats 8000000 in
set_option maxRecDepth 100000 in
theorem ref05_Key.calls (k : Nat) (a0 : ByteArray) (r : Bool) (w : World) (h : ref05_Key.f k a0 = some r) :
  Calls Tryz.prog 88 #[.string a0] w fun e w' => e = .returned (.bool r) ∧ Drawn0 w w' := by
 have H : (ref05_Key.l0 k a0 0) = some r := h
 clear h
 have H' := Aside0.mk H
 clear H
 go_enter Tryz.func88, Tryz.ntmps88
 go_wp2
 go_loopg [3] k (fun kq v3 w' => ∃ (x3_1 : Int), v3 = .int .i64 x3_1 ∧ Aside0 (ref05_Key.l0 kq a0 x3_1 = some r) ∧ Aside0 (kq ≤ k) ∧ Drawn0 w w')
 case atStart => exact ⟨(0), (by first | rfl | (simp; done) | (simp [*]; done)), H', ⟨Nat.le_refl _⟩, by repeat (first | exact Drawn0.refl _ | apply Drawn0.step)⟩
 case round =>
  clear H'
  obtain ⟨x3_1, rfl, HA, HK1, ⟨m1, rfl⟩⟩ := hrel
  cases gk with
  | zero => exact absurd HA.out (by simp [ref05_Key.l0])
  | succ k1 =>
   have H := HA.out
   clear HA
   simp only [ref05_Key.l0] at H
   by_cases c2 : x3_1 < (a0.size : Int)
   ·rw [if_pos c2] at H
    have c2b0 : decide (x3_1 < (a0.size : Int)) = true := decide_eq_true c2
    clear c2
    by_cases c3 : 0 ≤ x3_1
    ·rw [if_pos c3] at H
     have c3b0 : decide (0 ≤ x3_1) = true := decide_eq_true c3
     clear c3
     by_cases c5 : (bt a0 x3_1) ≥ 97
     ·rw [if_pos c5] at H
      have c5b0 : decide (97 ≤ (bt a0 x3_1)) = true := decide_eq_true c5
      clear c5
      by_cases c7 : (bt a0 x3_1) ≤ 122
      ·rw [if_pos c7] at H
       have c7b0 : decide ((bt a0 x3_1) ≤ 122) = true := decide_eq_true c7
       clear c7
       have H' := Aside0.mk H
       clear H
       have p4 : 0 ≤ (x3_1 : Int) := of_decide_eq_true (by first | (with_reducible assumption) | assumption)
       have q4 : x3_1 < (a0.size : Int) := of_decide_eq_true (by first | (with_reducible assumption) | assumption)
       have hx4 := bt_at a0 x3_1
       replace p4 := eq_true p4
       replace q4 := eq_true q4
       have p6 : 0 ≤ (x3_1 : Int) := of_decide_eq_true (by first | (with_reducible assumption) | assumption)
       have q6 : x3_1 < (a0.size : Int) := of_decide_eq_true (by first | (with_reducible assumption) | assumption)
       have hx6 := bt_at a0 x3_1
       replace p6 := eq_true p6
       replace q6 := eq_true q6
       go_wp2
       go_roundg k1
       case measure => have := HK1.out; omega
       case rel => exact ⟨(wrap64 (x3_1 + 1)), (by first | rfl | (simp; done) | (simp [*]; done)), H', ⟨by have := HK1.out; omega⟩, by repeat (first | exact Drawn0.refl _ | apply Drawn0.step)⟩
      ·rw [if_neg c7] at H
       have c7b0 : decide ((bt a0 x3_1) ≤ 122) = false := decide_eq_false c7
       clear c7
       by_cases c9 : (bt a0 x3_1) ≥ 48
       ·rw [if_pos c9] at H
        have c9b0 : decide (48 ≤ (bt a0 x3_1)) = true := decide_eq_true c9
        clear c9
        by_cases c11 : ((bt a0 x3_1) ≤ 57)
        ·rw [if_pos c11] at H
         have c11b0 : decide ((bt a0 x3_1) ≤ 57) = true := decide_eq_true c11
         clear c11
         have H' := Aside0.mk H
         clear H
         have p4 : 0 ≤ (x3_1 : Int) := of_decide_eq_true (by first | (with_reducible assumption) | assumption)
         have q4 : x3_1 < (a0.size : Int) := of_decide_eq_true (by first | (with_reducible assumption) | assumption)
         have hx4 := bt_at a0 x3_1
         replace p4 := eq_true p4
         replace q4 := eq_true q4
         have p6 : 0 ≤ (x3_1 : Int) := of_decide_eq_true (by first | (with_reducible assumption) | assumption)
         have q6 : x3_1 < (a0.size : Int) := of_decide_eq_true (by first | (with_reducible assumption) | assumption)
         have hx6 := bt_at a0 x3_1
         replace p6 := eq_true p6
         replace q6 := eq_true q6
         have p8 : 0 ≤ (x3_1 : Int) := of_decide_eq_true (by first | (with_reducible assumption) | assumption)
         have q8 : x3_1 < (a0.size : Int) := of_decide_eq_true (by first | (with_reducible assumption) | assumption)
         have hx8 := bt_at a0 x3_1
         replace p8 := eq_true p8
         replace q8 := eq_true q8
         have p10 : 0 ≤ (x3_1 : Int) := of_decide_eq_true (by first | (with_reducible assumption) | assumption)
         have q10 : x3_1 < (a0.size : Int) := of_decide_eq_true (by first | (with_reducible assumption) | assumption)
         have hx10 := bt_at a0 x3_1
         replace p10 := eq_true p10
         replace q10 := eq_true q10
         go_wp2
         go_roundg k1
         case measure => have := HK1.out; omega
         case rel => exact ⟨(wrap64 (x3_1 + 1)), (by first | rfl | (simp; done) | (simp [*]; done)), H', ⟨by have := HK1.out; omega⟩, by repeat (first | exact Drawn0.refl _ | apply Drawn0.step)⟩
        ·rw [if_neg c11] at H
         have c11b0 : decide ((bt a0 x3_1) ≤ 57) = false := decide_eq_false c11
         clear c11
         obtain rfl := Option.some.inj H
         have p4 : 0 ≤ (x3_1 : Int) := of_decide_eq_true (by first | (with_reducible assumption) | assumption)
         have q4 : x3_1 < (a0.size : Int) := of_decide_eq_true (by first | (with_reducible assumption) | assumption)
         have hx4 := bt_at a0 x3_1
         replace p4 := eq_true p4
         replace q4 := eq_true q4
         have p6 : 0 ≤ (x3_1 : Int) := of_decide_eq_true (by first | (with_reducible assumption) | assumption)
         have q6 : x3_1 < (a0.size : Int) := of_decide_eq_true (by first | (with_reducible assumption) | assumption)
         have hx6 := bt_at a0 x3_1
         replace p6 := eq_true p6
         replace q6 := eq_true q6
         have p8 : 0 ≤ (x3_1 : Int) := of_decide_eq_true (by first | (with_reducible assumption) | assumption)
         have q8 : x3_1 < (a0.size : Int) := of_decide_eq_true (by first | (with_reducible assumption) | assumption)
         have hx8 := bt_at a0 x3_1
         replace p8 := eq_true p8
         replace q8 := eq_true q8
         have p10 : 0 ≤ (x3_1 : Int) := of_decide_eq_true (by first | (with_reducible assumption) | assumption)
         have q10 : x3_1 < (a0.size : Int) := of_decide_eq_true (by first | (with_reducible assumption) | assumption)
         have hx10 := bt_at a0 x3_1
         replace p10 := eq_true p10
         replace q10 := eq_true q10
         go_wp2
         go_ret
         exact ⟨by first | rfl | (simp; done) | (simp [*]; done), by repeat (first | exact Drawn0.refl _ | apply Drawn0.step)⟩
       ·rw [if_neg c9] at H
        have c9b0 : decide (48 ≤ (bt a0 x3_1)) = false := decide_eq_false c9
        clear c9
        obtain rfl := Option.some.inj H
        have p4 : 0 ≤ (x3_1 : Int) := of_decide_eq_true (by first | (with_reducible assumption) | assumption)
        have q4 : x3_1 < (a0.size : Int) := of_decide_eq_true (by first | (with_reducible assumption) | assumption)
        have hx4 := bt_at a0 x3_1
        replace p4 := eq_true p4
        replace q4 := eq_true q4
        have p6 : 0 ≤ (x3_1 : Int) := of_decide_eq_true (by first | (with_reducible assumption) | assumption)
        have q6 : x3_1 < (a0.size : Int) := of_decide_eq_true (by first | (with_reducible assumption) | assumption)
        have hx6 := bt_at a0 x3_1
        replace p6 := eq_true p6
        replace q6 := eq_true q6
        have p8 : 0 ≤ (x3_1 : Int) := of_decide_eq_true (by first | (with_reducible assumption) | assumption)
        have q8 : x3_1 < (a0.size : Int) := of_decide_eq_true (by first | (with_reducible assumption) | assumption)
        have hx8 := bt_at a0 x3_1
        replace p8 := eq_true p8
        replace q8 := eq_true q8
        go_wp2
        go_ret
        exact ⟨by first | rfl | (simp; done) | (simp [*]; done), by repeat (first | exact Drawn0.refl _ | apply Drawn0.step)⟩
     ·rw [if_neg c5] at H
      have c5b0 : decide (97 ≤ (bt a0 x3_1)) = false := decide_eq_false c5
      clear c5
      by_cases c13 : (bt a0 x3_1) ≥ 48
      ·rw [if_pos c13] at H
       have c13b0 : decide (48 ≤ (bt a0 x3_1)) = true := decide_eq_true c13
       clear c13
       by_cases c15 : ((bt a0 x3_1) ≤ 57)
       ·rw [if_pos c15] at H
        have c15b0 : decide ((bt a0 x3_1) ≤ 57) = true := decide_eq_true c15
        clear c15
        have H' := Aside0.mk H
        clear H
        have p4 : 0 ≤ (x3_1 : Int) := of_decide_eq_true (by first | (with_reducible assumption) | assumption)
        have q4 : x3_1 < (a0.size : Int) := of_decide_eq_true (by first | (with_reducible assumption) | assumption)
        have hx4 := bt_at a0 x3_1
        replace p4 := eq_true p4
        replace q4 := eq_true q4
        have p12 : 0 ≤ (x3_1 : Int) := of_decide_eq_true (by first | (with_reducible assumption) | assumption)
        have q12 : x3_1 < (a0.size : Int) := of_decide_eq_true (by first | (with_reducible assumption) | assumption)
        have hx12 := bt_at a0 x3_1
        replace p12 := eq_true p12
        replace q12 := eq_true q12
        have p14 : 0 ≤ (x3_1 : Int) := of_decide_eq_true (by first | (with_reducible assumption) | assumption)
        have q14 : x3_1 < (a0.size : Int) := of_decide_eq_true (by first | (with_reducible assumption) | assumption)
        have hx14 := bt_at a0 x3_1
        replace p14 := eq_true p14
        replace q14 := eq_true q14
        go_wp2
        go_roundg k1
        case measure => have := HK1.out; omega
        case rel => exact ⟨(wrap64 (x3_1 + 1)), (by first | rfl | (simp; done) | (simp [*]; done)), H', ⟨by have := HK1.out; omega⟩, by repeat (first | exact Drawn0.refl _ | apply Drawn0.step)⟩
       ·rw [if_neg c15] at H
        have c15b0 : decide ((bt a0 x3_1) ≤ 57) = false := decide_eq_false c15
        clear c15
        obtain rfl := Option.some.inj H
        have p4 : 0 ≤ (x3_1 : Int) := of_decide_eq_true (by first | (with_reducible assumption) | assumption)
        have q4 : x3_1 < (a0.size : Int) := of_decide_eq_true (by first | (with_reducible assumption) | assumption)
        have hx4 := bt_at a0 x3_1
        replace p4 := eq_true p4
        replace q4 := eq_true q4
        have p12 : 0 ≤ (x3_1 : Int) := of_decide_eq_true (by first | (with_reducible assumption) | assumption)
        have q12 : x3_1 < (a0.size : Int) := of_decide_eq_true (by first | (with_reducible assumption) | assumption)
        have hx12 := bt_at a0 x3_1
        replace p12 := eq_true p12
        replace q12 := eq_true q12
        have p14 : 0 ≤ (x3_1 : Int) := of_decide_eq_true (by first | (with_reducible assumption) | assumption)
        have q14 : x3_1 < (a0.size : Int) := of_decide_eq_true (by first | (with_reducible assumption) | assumption)
        have hx14 := bt_at a0 x3_1
        replace p14 := eq_true p14
        replace q14 := eq_true q14
        go_wp2
        go_ret
        exact ⟨by first | rfl | (simp; done) | (simp [*]; done), by repeat (first | exact Drawn0.refl _ | apply Drawn0.step)⟩
      ·rw [if_neg c13] at H
       have c13b0 : decide (48 ≤ (bt a0 x3_1)) = false := decide_eq_false c13
       clear c13
       obtain rfl := Option.some.inj H
       have p4 : 0 ≤ (x3_1 : Int) := of_decide_eq_true (by first | (with_reducible assumption) | assumption)
       have q4 : x3_1 < (a0.size : Int) := of_decide_eq_true (by first | (with_reducible assumption) | assumption)
       have hx4 := bt_at a0 x3_1
       replace p4 := eq_true p4
       replace q4 := eq_true q4
       have p12 : 0 ≤ (x3_1 : Int) := of_decide_eq_true (by first | (with_reducible assumption) | assumption)
       have q12 : x3_1 < (a0.size : Int) := of_decide_eq_true (by first | (with_reducible assumption) | assumption)
       have hx12 := bt_at a0 x3_1
       replace p12 := eq_true p12
       replace q12 := eq_true q12
       go_wp2
       go_ret
       exact ⟨by first | rfl | (simp; done) | (simp [*]; done), by repeat (first | exact Drawn0.refl _ | apply Drawn0.step)⟩
    ·rw [if_neg c3] at H
     exact absurd H (by simp)
   ·rw [if_neg c2] at H
    have c2b0 : decide (x3_1 < (a0.size : Int)) = false := decide_eq_false c2
    clear c2
    by_cases c16 : (a0.size : Int) ≥ 1
    ·rw [if_pos c16] at H
     have c16b0 : decide (1 ≤ (a0.size : Int)) = true := decide_eq_true c16
     have c16b1 : decide (1 ≤ a0.size) = true := decide_eq_true (by omega)
     clear c16
     obtain rfl := Option.some.inj H
     go_wp2
     go_ret
     exact ⟨by first | rfl | (simp; done) | (simp [*]; done), by repeat (first | exact Drawn0.refl _ | apply Drawn0.step)⟩
    ·rw [if_neg c16] at H
     have c16b0 : decide (1 ≤ (a0.size : Int)) = false := decide_eq_false c16
     have c16b1 : decide (1 ≤ a0.size) = false := decide_eq_false (by omega)
     clear c16
     obtain rfl := Option.some.inj H
     go_wp2
     go_ret
     exact ⟨by first | rfl | (simp; done) | (simp [*]; done), by repeat (first | exact Drawn0.refl _ | apply Drawn0.step)⟩

end Go.Proofs.YtmcddoolniaehaaGreat.S
end
section
namespace Go.Proofs.YtmcddoolniaehaaGreat.S
open Go.RowKit Go.Proofs.YtmcddoolniaehaaGreatW.PrintWords Go.Proofs.YtmcddoolniaehaaGreatW.PrintLast Go.Proofs.YtmcddoolniaehaaGreatW.PrintMore Go.Proofs.YtmcddoolniaehaaGreatW
set_option linter.unusedVariables false
set_option linter.unusedSimpArgs false
theorem bt_midS {a : ByteArray} {pre suf : List UInt8} {c : UInt8} (e : a.data.toList = pre ++ c :: suf) : bt a ((pre.length : Nat) : Int) = (c.toNat : Int) := by
  have hl : a.size = pre.length + (suf.length + 1) := by
    have h := congrArg List.length e
    simpa using h
  unfold bt
  have h : (((pre.length : Nat) : Int)).toNat < a.size := by simp; omega
  rw [dif_pos h]
  have h2 : pre.length < a.data.toList.length := by rw [e]; simp
  have : a[(((pre.length : Nat) : Int)).toNat]'h = a.data.toList[pre.length]'h2 := rfl
  rw [this]
  simp [e]
theorem wrapK {n : Nat} (h : n < 9223372036854775807) : wrap64 ((n : Int) + 1) = ((n + 1 : Nat) : Int) := by unfold wrap64; omega
theorem keyD_loop (a : ByteArray) (hs : a.size ≤ 9223372036854775807) : ∀ (suf pre : List UInt8) (k : Nat), a.data.toList = pre ++ suf → suf.length < k →
    ref05_Key.l0 k a ((pre.length : Nat) : Int) = some (suf.all keyChar && (decide (1 ≤ a.data.toList.length) && decide (a.data.toList.length ≤ 8)))
  | suf, pre, 0, _, hk => by omega
  | [], pre, k + 1, e, _ => by
    have hl : a.size = pre.length := by
      have h := congrArg List.length e
      simpa using h
    simp only [ref05_Key.l0]
    have hL : a.data.toList.length = a.size := by simp
    rw [if_neg (by omega), hL]
    by_cases h1 : 1 ≤ a.size
    · rw [if_pos (by omega)]
      simp only [List.all_nil, Bool.true_and, h1, decide_true]
      congr 1
      exact decide_eq_decide.2 (by omega)
    · rw [if_neg (by omega)]; simp [h1]
  | c :: suf, pre, k + 1, e, hk => by
    have hl : a.size = pre.length + (suf.length + 1) := by
      have h := congrArg List.length e
      simpa using h
    have ih := keyD_loop a hs suf (pre ++ [c]) k (by rw [appS]; exact e) (by simp at hk; omega)
    rw [lenS] at ih
    simp only [ref05_Key.l0]
    rw [if_pos (by omega), if_pos (by omega), bt_midS e, wrapK (by omega), ih, List.all_cons]
    by_cases h1 : 97 ≤ c.toNat
    · rw [if_pos (by omega)]
      by_cases h2 : c.toNat ≤ 122
      · rw [if_pos (by omega)]
        have : keyChar c = true := by simp [keyChar, h1, h2]
        rw [this]; rfl
      · rw [if_neg (by omega)]
        have : keyChar c = false := by simp [keyChar]; omega
        rw [this]
        rw [if_pos (by omega), if_neg (by omega)]; rfl
    · rw [if_neg (by omega)]
      by_cases h3 : 48 ≤ c.toNat
      · rw [if_pos (by omega)]
        by_cases h4 : c.toNat ≤ 57
        · rw [if_pos (by omega)]
          have : keyChar c = true := by simp [keyChar, h3, h4]
          rw [this]; rfl
        · rw [if_neg (by omega)]
          have : keyChar c = false := by simp [keyChar]; omega
          rw [this]; rfl
      · rw [if_neg (by omega)]
        have : keyChar c = false := by simp [keyChar]; omega
        rw [this]; rfl
theorem keyD_f (a : ByteArray) (k : Nat) (hs : a.size ≤ 9223372036854775807) (hk : a.size < k) : ref05_Key.f k a = some (keyB a.data.toList) := by
  have h := keyD_loop a hs a.data.toList [] k rfl (by simpa using hk)
  simpa [ref05_Key.f, keyB] using h
end Go.Proofs.YtmcddoolniaehaaGreat.S
end
