/- law10.Few, law11.Few, law17.Few: is a node not too great? By hand. -/
import Derived.Test.YtameeejfkgoheaaPNNode
namespace Go.Proofs.Ytameeejfkgoheaa.P
open Go.RowKit Go.Proofs.YtameeejfkgoheaaW.PrintWords Go.Proofs.YtameeejfkgoheaaW.PrintLast Go.Proofs.YtameeejfkgoheaaW.PrintMore Go.Proofs.YtameeejfkgoheaaW
set_option linter.unusedVariables false
set_option linter.unusedSimpArgs false
def fewC (x : Cm) : Bool := decide (x.ps.length ≤ 20 ∧ x.key.size ≤ 100 ∧ x.elem.size ≤ 100)
def fewL (l : List Cm) (m : Nat) : Bool := decide (l.length ≤ m) && l.all fewC
def fewN (n : Nd) : Bool := fewL n.L 8 && fewL n.T 10 && decide (n.disk.length ≤ 1200) && decide (n.peers.length ≤ 20)
theorem blk8 {w : World} {b : Nat} {t : TypeId} {x : Cm} {v : Value} (h : w.heap[b]? = some (.cells (cellsC x v).toArray t (0, 0))) :
    w.cell? ⟨b, 0, none⟩ = some (.int .i64 x.e0) ∧ w.cell? ⟨b, 1, none⟩ = some (.int .i64 x.e1) ∧ w.cell? ⟨b, 2, none⟩ = some (.int .i64 x.gen) ∧ w.cell? ⟨b, 3, none⟩ = some v ∧ w.cell? ⟨b, 4, none⟩ = some (.int .i64 x.kind) ∧ w.cell? ⟨b, 5, none⟩ = some (.string x.key) ∧ w.cell? ⟨b, 6, none⟩ = some (.string x.elem) ∧ w.cell? ⟨b, 7, none⟩ = some (.int .i64 x.num) :=
  ⟨blk_cell h 0, blk_cell h 1, blk_cell h 2, blk_cell h 3, blk_cell h 4, blk_cell h 5, blk_cell h 6, blk_cell h 7⟩
set_option maxHeartbeats 1000000 in
set_option maxRecDepth 100000 in
theorem fewC_calls (x : Cm) (A : Option Addr) (c : Nat) (w : World) :
    Calls Try.prog 34 #[.agg (cellsC x (.slice A x.ps.length c)).toArray] w fun e w' => e = .returned (.bool (fewC x)) ∧ Below w.heap.size w w' := by
  have hb := blk_new w (.cells (cellsC x (.slice A x.ps.length c)).toArray 62)
  obtain ⟨_, _, _, c3, _, c5, c6, _⟩ := blk8 hb
  have HB := Aside0.mk (below_alloc (Below.refl w.heap.size w) (.cells (cellsC x (.slice A x.ps.length c)).toArray 62))
  clear hb
  have HQ : Aside0 (∀ q, fewC x = q → (decide (x.ps.length ≤ 20 ∧ x.key.size ≤ 100 ∧ x.elem.size ≤ 100) = q)) := ⟨fun q h => h⟩
  generalize hq : fewC x = q
  have HQ2 := Aside0.mk (HQ.out q hq)
  clear HQ hq
  by_cases h1 : (x.ps.length : Int) ≤ 20
  · by_cases h2 : (x.key.size : Int) ≤ 100
    · by_cases h3 : (x.elem.size : Int) ≤ 100
      · have hQ : q = true := by rw [← HQ2.out]; exact decide_eq_true ⟨by omega, by omega, by omega⟩
        subst hQ
        go_enter Try.func34, Try.ntmps34
        go_wp2
        go_ret
        exact ⟨rfl, HB.out⟩
      · have hQ : q = false := by rw [← HQ2.out]; exact decide_eq_false (fun h => h3 (by omega))
        subst hQ
        go_enter Try.func34, Try.ntmps34
        go_wp2
        go_ret
        exact ⟨rfl, HB.out⟩
    · have hQ : q = false := by rw [← HQ2.out]; exact decide_eq_false (fun h => h2 (by omega))
      subst hQ
      go_enter Try.func34, Try.ntmps34
      go_wp2
      go_ret
      exact ⟨rfl, HB.out⟩
  · have hQ : q = false := by rw [← HQ2.out]; exact decide_eq_false (fun h => h1 (by omega))
    subst hQ
    go_enter Try.func34, Try.ntmps34
    go_wp2
    go_ret
    exact ⟨rfl, HB.out⟩
set_option maxHeartbeats 1000000 in
set_option maxRecDepth 100000 in
theorem fewL_calls (A0 : Option Addr) (c0 : Nat) (l : List Cm) (m : Nat) (w : World) (hr0 : Kd.C kC w A0 l.length l) :
    Calls Try.prog 24 #[.slice A0 l.length c0, .int .i64 m] w fun e w' => e = .returned (.bool (fewL l m)) ∧ Below w.heap.size w w' := by
  have HR := Aside0.mk hr0
  have HL := Aside0.mk hr0.2.1
  clear hr0
  have HQ : Aside0 (∀ q, fewL l m = q → (decide (l.length ≤ m) && l.all fewC) = q) := ⟨fun q h => h⟩
  generalize hq : fewL l m = q
  have HQ2 := Aside0.mk (HQ.out q hq)
  clear HQ hq
  by_cases hm : (l.length : Int) ≤ (m : Int)
  · have hm' : ¬ (m : Int) < (l.length : Int) := by omega
    have hmn : ¬ m < l.length := by omega
    go_enter Try.func24, Try.ntmps24
    go_wp2
    go_loopw [5] (fun i wr => ∃ k : Nat, k ≤ l.length ∧ i = .int .i64 k ∧ Aside0 ((l.take k).all fewC = true) ∧ Aside0 (Below w.heap.size w wr)) (fun i _ => l.length - (intOf i).toNat)
    case atStart => exact ⟨0, Nat.zero_le _, rfl, ⟨rfl⟩, ⟨Below.refl _ _⟩⟩
    case round =>
      obtain ⟨k, hk, rfl, hN, HB⟩ := hrel
      by_cases hlt : k < l.length
      · obtain ⟨b, o, B, cc, rfl, hx0⟩ := at_C HR.out k hlt
        have HRG := Aside0.mk (range_C (hx0.below HB.out))
        have hl63 := HL.out
        have HT : Aside0 (fewC (rdC l k) = true → (l.take (k + 1)).all fewC = true) := ⟨fun h => by rw [List.take_succ_eq_append_getElem hlt, List.all_append, hN.out, ← rdC_at l k hlt]; simp [h]⟩
        have HF : Aside0 (fewC (rdC l k) = false → q = false) := ⟨fun h => by
          rw [← HQ2.out, Bool.and_eq_false_iff]
          right
          rw [List.all_eq_false]
          exact ⟨l[k], List.getElem_mem _, by rw [← rdC_at l k hlt, h]; simp⟩⟩
        clear hx0
        generalize rdC l k = x at *
        have hcn := fewC_calls x B cc
        generalize fewC x = r at hcn HT HF
        have HC := Aside0.mk hcn
        clear hcn
        have hk0 : (0 : Int) ≤ (k : Int) := Int.natCast_nonneg _
        have hk1 : (k : Int) < (l.length : Int) := by omega
        cases r with
        | true =>
          go_wp2_with (first
            | (refine wpList_load_mid (by rfl) 62 _ (by rfl) b (o + k * 8) (by rfl) (cellsC x (.slice B x.ps.length cc)) _ HRG.out Try.underlying62 rfl info_C ?_; go_frame)
            | (go_at_call 34; refine (HC.out _).mono ?_; rintro e w2 ⟨rfl, hb2⟩; have HB2 := Aside0.mk (below_step HB.out hb2); clear hb2))
          go_roundw
          case rel => exact ⟨k + 1, by omega, by go_num, ⟨HT.out (by simp)⟩, HB2⟩
          case measure => simp [intOf]; omega
        | false =>
          have hqf := HF.out rfl
          go_wp2_with (first
            | (refine wpList_load_mid (by rfl) 62 _ (by rfl) b (o + k * 8) (by rfl) (cellsC x (.slice B x.ps.length cc)) _ HRG.out Try.underlying62 rfl info_C ?_; go_frame)
            | (go_at_call 34; refine (HC.out _).mono ?_; rintro e w2 ⟨rfl, hb2⟩; have HB2 := Aside0.mk (below_step HB.out hb2); clear hb2))
          go_ret
          exact ⟨by first | rfl | (rw [hqf]; rfl), HB2.out⟩
      · have hqt : q = true := by
          have h := hN.out
          rw [List.take_of_length_le (by omega)] at h
          rw [← HQ2.out, h, Bool.and_true]
          exact decide_eq_true (by omega)
        go_wp2
        go_ret
        exact ⟨by first | rfl | (rw [hqt]; rfl), HB.out⟩
  · have hm' : (m : Int) < (l.length : Int) := by omega
    have hmn : m < l.length := by omega
    have hqf : q = false := by rw [← HQ2.out, decide_eq_false (by omega)]; rfl
    subst hqf
    go_enter Try.func24, Try.ntmps24
    go_wp2
    go_ret
    exact ⟨rfl, Below.refl _ _⟩
theorem blk10 {w : World} {b : Nat} {t : TypeId} {n : Nd} {d l r p : Value} (h : w.heap[b]? = some (.cells (cellsN n d l r p).toArray t (0, 0))) :
    w.cell? ⟨b, 0, none⟩ = some (.int .i64 n.no) ∧ w.cell? ⟨b, 1, none⟩ = some d ∧ w.cell? ⟨b, 2, none⟩ = some (.int .i64 n.room) ∧ w.cell? ⟨b, 3, none⟩ = some l ∧ w.cell? ⟨b, 4, none⟩ = some r ∧ w.cell? ⟨b, 5, none⟩ = some (.int .i64 n.seq) ∧ w.cell? ⟨b, 6, none⟩ = some (.bool n.up) ∧ w.cell? ⟨b, 7, none⟩ = some p ∧ w.cell? ⟨b, 8, none⟩ = some (.int .i64 n.nx) ∧ w.cell? ⟨b, 9, none⟩ = some (.int .i64 n.ms) :=
  ⟨blk_cell h 0, blk_cell h 1, blk_cell h 2, blk_cell h 3, blk_cell h 4, blk_cell h 5, blk_cell h 6, blk_cell h 7, blk_cell h 8, blk_cell h 9⟩
set_option maxHeartbeats 2000000 in
set_option maxRecDepth 100000 in
theorem fewN_calls (cs : List Value) (n : Nd) (w : World) (hn : NodeIs w cs n) :
    Calls Try.prog 15 #[.agg cs.toArray] w fun e w' => e = .returned (.bool (fewN n)) ∧ Below w.heap.size w w' := by
  obtain ⟨dA, dc, lA, lc, tA, tc, pA, pc, rfl, h1, h2, h3, h4, h5⟩ := hn
  have hb := blk_new w (.cells (cellsN n (.slice dA n.disk.length dc) (.slice lA n.L.length lc) (.slice tA n.T.length tc) (.slice pA n.peers.length pc)).toArray 37)
  have HB := Aside0.mk (below_alloc (Below.refl w.heap.size w) (.cells (cellsN n (.slice dA n.disk.length dc) (.slice lA n.L.length lc) (.slice tA n.T.length tc) (.slice pA n.peers.length pc)).toArray 37))
  obtain ⟨_, _, _, c3, _⟩ := blk10 hb
  have HK := Aside0.mk hb
  have H1 := Aside0.mk (fewL_calls lA lc n.L 8 _ (Kd.C_alloc h2 (.cells (cellsN n (.slice dA n.disk.length dc) (.slice lA n.L.length lc) (.slice tA n.T.length tc) (.slice pA n.peers.length pc)).toArray 37)))
  have H3 := Aside0.mk h3
  have hd : n.disk.length ≤ 9223372036854775807 := h1.2.1
  have hp : n.peers.length ≤ 9223372036854775807 := h4.2.1
  clear hb h1 h2 h3 h4 h5
  have hQ : fewN n = (fewL n.L 8 && fewL n.T 10 && decide (n.disk.length ≤ 1200) && decide (n.peers.length ≤ 20)) := rfl
  rw [hQ]
  clear hQ
  have H2 := fun V h => fewL_calls tA tc n.T 10 V h
  generalize fewL n.L 8 = q1 at *
  generalize fewL n.T 10 = q2 at *
  have H2 := Aside0.mk H2
  by_cases hd1 : (n.disk.length : Int) ≤ 1200 <;> by_cases hp1 : (n.peers.length : Int) ≤ 20
  all_goals
    have e1 : decide (n.disk.length ≤ 1200) = decide ((n.disk.length : Int) ≤ 1200) := decide_eq_decide.2 (by omega)
    have e2 : decide (n.peers.length ≤ 20) = decide ((n.peers.length : Int) ≤ 20) := decide_eq_decide.2 (by omega)
    rw [e1, e2]
    clear e1 e2
    simp only [hd1, hp1, decide_true, decide_false]
    cases q1 <;> cases q2
  all_goals
    go_enter Try.func15, Try.ntmps15
    go_wp2_with fail
    refine H1.out.mono ?_
    rintro e w1 ⟨rfl, hb1⟩
    have hk1 := blk_below HK.out hb1
    have HB1 := Aside0.mk (below_step HB.out hb1)
    have HC1 := Aside0.mk (H2.out w1 (Kd.C_below H3.out HB1.out))
    obtain ⟨_, d1, _, _, d4, _, _, d7, _⟩ := blk10 hk1
    have HK1 := Aside0.mk hk1
    clear hb1 hk1 H1 H2 c3
    go_wp2_with fail
    refine HC1.out.mono ?_
    rintro e w2 ⟨rfl, hb2⟩
    have hk2 := blk_below HK1.out hb2
    have HB2 := Aside0.mk (below_step HB1.out hb2)
    obtain ⟨_, e1, _, _, _, _, _, e7, _⟩ := blk10 hk2
    clear hb2 hk2 HC1 d1 d4 d7
    go_wp2
    go_ret
    exact ⟨by first | rfl | (simp <;> omega), HB2.out⟩
end Go.Proofs.Ytameeejfkgoheaa.P
