/- ref17.Same: are two nodes the same? By hand. -/
import Derived.Test.YtameeejfkgoheaaPNList
import Derived.Laws.IdiomStrings
namespace Go.Proofs.Ytameeejfkgoheaa.P
open Go.RowKit Go.Proofs.YtameeejfkgoheaaW.PrintWords Go.Proofs.YtameeejfkgoheaaW.PrintLast Go.Proofs.YtameeejfkgoheaaW.PrintMore Go.Proofs.YtameeejfkgoheaaW
set_option linter.unusedVariables false
set_option linter.unusedSimpArgs false
theorem conv_B {W : World} {A : Option Addr} {n c : Nat} {l : List UInt8} (h : Kd.C kB W A n l) : (convert 34 9 (.slice A n c)).run Try.prog W = .ok (.string ⟨l.toArray⟩) W := by
  have hl := h.1
  subst hl
  cases A with
  | none =>
    have h0 : l = [] := by
      rcases Nat.eq_zero_or_pos l.length with h' | h'
      · exact List.eq_nil_of_length_eq_zero h'
      · obtain ⟨ad, h'', _⟩ := h.2.2 h'
        cases h''
    subst h0
    exact run_convert_bytes_nil W 34 5 Try.underlying34 Try.underlying5 0 c 9 Try.underlying9
  | some ad =>
    refine run_convert_bytes_back W 34 9 5 ad c l Try.underlying34 Try.underlying5 Try.underlying9 (fun j hj => ?_)
    exact news_B h j _ (by simp [bytesV, cellI, hj])
def sameN (n m : Nd) : Bool := decide (n = m)
theorem sameN_eq (n m : Nd) : sameN n m = (decide (n.L = m.L) && decide (n.T = m.T) && decide (n.peers.length = m.peers.length) && decide (n.disk = m.disk) && decide (n.peers = m.peers) && decide (n.no = m.no ∧ n.room = m.room ∧ n.seq = m.seq ∧ n.up = m.up ∧ n.nx = m.nx ∧ n.ms = m.ms)) := by
  unfold sameN
  rw [Bool.eq_iff_iff]
  obtain ⟨a0, a1, a2, a3, a4, a5, a6, a7, a8, a9⟩ := n
  obtain ⟨b0, b1, b2, b3, b4, b5, b6, b7, b8, b9⟩ := m
  simp
  constructor
  · rintro ⟨rfl, rfl, rfl, rfl, rfl, rfl, rfl, rfl, rfl, rfl⟩
    simp
  · rintro ⟨⟨⟨⟨⟨rfl, rfl⟩, _⟩, rfl⟩, rfl⟩, rfl, rfl, rfl, rfl, rfl, rfl⟩
    simp
theorem disk_eq (l m : List UInt8) : ((⟨l.toArray⟩ : ByteArray).toList = (⟨m.toArray⟩ : ByteArray).toList) ↔ l = m := by
  rw [str_eq]
  constructor
  · intro h
    injection h with h
    exact congrArg Array.toList h
  · rintro rfl; rfl
theorem cell_P {W : World} {b o n : Nat} {l : List Int} (h : Kd.C kP W (some ⟨b, o, none⟩) n l) (k : Nat) (hk : k < l.length) : W.cell? ⟨b, o + k, none⟩ = some (.int .i64 (l.getD k 0)) := by
  have := (RdI_of h).at k hk
  rwa [add_spot] at this
theorem at_P {W : World} {A : Option Addr} {l : List Int} (h : Kd.C kP W A l.length l) (h0 : 0 < l.length) : ∃ b o, A = some ⟨b, o, none⟩ := by
  obtain ⟨ad, e, _⟩ := (RdI_of h).2 h0
  have hs := Plain_of h h0 ad e
  obtain ⟨b, o, s⟩ := ad
  cases hs
  exact ⟨b, o, e⟩
theorem peers_succ {a b : List Int} {k : Nat} (ha : k < a.length) (hb : k < b.length) (h : a.take k = b.take k) (he : a.getD k 0 = b.getD k 0) : a.take (k + 1) = b.take (k + 1) := by
  rw [List.getD_eq_getElem?_getD, List.getElem?_eq_getElem ha, List.getD_eq_getElem?_getD, List.getElem?_eq_getElem hb] at he
  have he' : a[k] = b[k] := by simpa using he
  rw [List.take_succ_eq_append_getElem ha, List.take_succ_eq_append_getElem hb, h, he']
set_option maxHeartbeats 4000000 in
set_option maxRecDepth 100000 in
theorem sameN_calls (cs : List Value) (n : Nd) (cs' : List Value) (m : Nd) (w : World) (hn : NodeIs w cs n) (hm : NodeIs w cs' m) :
    Calls Try.prog 18 #[.agg cs.toArray, .agg cs'.toArray] w fun e w' => e = .returned (.bool (sameN n m)) ∧ Below w.heap.size w w' := by
  obtain ⟨dA, dc, lA, lc, tA, tc, pA, pc, rfl, h1, h2, h3, h4, h5⟩ := hn
  obtain ⟨dA', dc', lA', lc', tA', tc', pA', pc', rfl, h1', h2', h3', h4', h5'⟩ := hm
  obtain ⟨X, hX⟩ : ∃ X, X = cellsN n (.slice dA n.disk.length dc) (.slice lA n.L.length lc) (.slice tA n.T.length tc) (.slice pA n.peers.length pc) := ⟨_, rfl⟩
  obtain ⟨Y, hY⟩ : ∃ Y, Y = cellsN m (.slice dA' m.disk.length dc') (.slice lA' m.L.length lc') (.slice tA' m.T.length tc') (.slice pA' m.peers.length pc') := ⟨_, rfl⟩
  rw [← hX, ← hY]
  have HB := Aside0.mk (below_alloc (below_alloc (Below.refl w.heap.size w) (.cells X.toArray 37)) (.cells Y.toArray 37))
  have HKX := Aside0.mk (show ((w.alloc (.cells X.toArray 37)).alloc (.cells Y.toArray 37)).heap[w.heap.size]? = some (.cells (cellsN n (.slice dA n.disk.length dc) (.slice lA n.L.length lc) (.slice tA n.T.length tc) (.slice pA n.peers.length pc)).toArray 37 (0, 0)) by rw [← hX]; exact blk_alloc (blk_new w _) _)
  have HKY := Aside0.mk (show ((w.alloc (.cells X.toArray 37)).alloc (.cells Y.toArray 37)).heap[w.heap.size + 1]? = some (.cells (cellsN m (.slice dA' m.disk.length dc') (.slice lA' m.L.length lc') (.slice tA' m.T.length tc') (.slice pA' m.peers.length pc')).toArray 37 (0, 0)) by rw [← hY]; have := blk_new (w.alloc (.cells X.toArray 37)) (.cells Y.toArray 37); simpa using this)
  have HL := Aside0.mk (list_calls lA lc n.L lA' lc' m.L _ (Kd.C_below h2 HB.out) (Kd.C_below h2' HB.out))
  have H1 := Aside0.mk h1
  have H1' := Aside0.mk h1'
  have H3 := Aside0.mk h3
  have H3' := Aside0.mk h3'
  have H4 := Aside0.mk h4
  have H4' := Aside0.mk h4'
  have hd : n.disk.length ≤ 9223372036854775807 := h1.2.1
  have hp : n.peers.length ≤ 9223372036854775807 := h4.2.1
  have hp' : m.peers.length ≤ 9223372036854775807 := h4'.2.1
  obtain ⟨_, _, _, c3, _⟩ := blk10 HKX.out
  obtain ⟨_, _, _, d3, _⟩ := blk10 HKY.out
  clear h1 h2 h3 h4 h5 h1' h2' h3' h4' h5' hX hY
  rw [sameN_eq]
  have HT := fun V h h' => list_calls tA tc n.T tA' tc' m.T V h h'
  generalize decide (n.L = m.L) = q1 at *
  generalize decide (n.T = m.T) = q2 at *
  have HT := Aside0.mk HT
  go_enter Try.func18, Try.ntmps18
  go_wp2_with fail
  refine HL.out.mono ?_
  rintro e w1 ⟨rfl, hb1⟩
  replace HKX := Aside0.mk (blk_below HKX.out hb1)
  replace HKY := Aside0.mk (blk_below HKY.out hb1)
  replace HB := Aside0.mk (below_step HB.out hb1)
  have HC2 := Aside0.mk (HT.out w1 (Kd.C_below H3.out HB.out) (Kd.C_below H3'.out HB.out))
  clear c3 d3
  obtain ⟨_, _, _, _, c4, _⟩ := blk10 HKX.out
  obtain ⟨_, _, _, _, d4, _⟩ := blk10 HKY.out
  clear hb1 HL HT H3 H3'
  go_wp2_with fail
  refine HC2.out.mono ?_
  rintro e w2 ⟨rfl, hb2⟩
  replace HKX := Aside0.mk (blk_below HKX.out hb2)
  replace HKY := Aside0.mk (blk_below HKY.out hb2)
  replace HB := Aside0.mk (below_step HB.out hb2)
  clear hb2 HC2 c4 d4
  cases q1 with
  | false =>
    go_wp2
    go_ret
    exact ⟨by first | rfl | simp, HB.out⟩
  | true =>
  cases q2 with
  | false =>
    go_wp2
    go_ret
    exact ⟨by first | rfl | simp, HB.out⟩
  | true =>
  obtain ⟨c0, c1, c2, _, _, c5, c6, c7, c8, c9⟩ := blk10 HKX.out
  obtain ⟨d0, d1, d2, _, _, d5, d6, d7, d8, d9⟩ := blk10 HKY.out
  have hcv := conv_B (c := dc) (Kd.C_below H1.out HB.out)
  have hcv' := conv_B (c := dc') (Kd.C_below H1'.out HB.out)
  have HDE := Aside0.mk (disk_eq n.disk m.disk)
  generalize (⟨n.disk.toArray⟩ : ByteArray) = D at hcv HDE
  generalize (⟨m.disk.toArray⟩ : ByteArray) = D' at hcv' HDE
  by_cases hlen : n.peers.length = m.peers.length
  rotate_left
  · have hlen' : ¬ (n.peers.length : Int) = (m.peers.length : Int) := by omega
    go_wp2
    all_goals
      go_ret
      refine ⟨?_, HB.out⟩
      simp [hlen]
  have hlen' : (n.peers.length : Int) = (m.peers.length : Int) := by omega
  by_cases hdd : n.disk = m.disk
  rotate_left
  · have hne : ¬ D.toList = D'.toList := fun h => hdd (HDE.out.1 h)
    have hne2 : (D.toList == D'.toList) = false := by simpa using hne
    have hne3 : (D.toList != D'.toList) = true := by simpa using hne
    have hne4 : ¬ D = D' := fun h => hne (by rw [h])
    clear hlen
    go_wp2
    go_ret
    refine ⟨?_, HB.out⟩
    simp [hdd]
  obtain rfl : D = D' := (str_eq _ _).1 (HDE.out.2 hdd)
  have HN := Aside0.mk hlen
  have HD0 := Aside0.mk hdd
  clear hdd hlen HDE
  go_wp2
  clear c0 c1 c2 c5 c6 c7 c8 c9 d0 d1 d2 d5 d6 d7 d8 d9 hcv hcv'
  go_loopw [7] (fun i wr => ∃ k : Nat, k ≤ n.peers.length ∧ i = .int .i64 k ∧ Aside0 (n.peers.take k = m.peers.take k) ∧ Aside0 (Below w2.heap.size w2 wr)) (fun i _ => n.peers.length - (intOf i).toNat)
  case atStart => exact ⟨0, Nat.zero_le _, rfl, ⟨rfl⟩, ⟨Below.refl _ _⟩⟩
  case round =>
    obtain ⟨k, hk, rfl, hT, HBr⟩ := hrel
    obtain ⟨c0, c1, c2, _, _, c5, c6, c7, c8, c9⟩ := blk10 (blk_below HKX.out HBr.out)
    obtain ⟨d0, d1, d2, _, _, d5, d6, d7, d8, d9⟩ := blk10 (blk_below HKY.out HBr.out)
    have hk0 : (0 : Int) ≤ (k : Int) := Int.natCast_nonneg _
    by_cases hlt : k < n.peers.length
    · have hltm : k < m.peers.length := by rw [← HN.out]; exact hlt
      obtain ⟨b, o, rfl⟩ := at_P H4.out (by omega)
      obtain ⟨b', o', rfl⟩ := at_P H4'.out (by omega)
      have hx := cell_P (Kd.C_below (Kd.C_below H4.out HB.out) HBr.out) k hlt
      have hy := cell_P (Kd.C_below (Kd.C_below H4'.out HB.out) HBr.out) k hltm
      have hk1 : (k : Int) < (n.peers.length : Int) := by omega
      have hk2 : (k : Int) < (m.peers.length : Int) := by omega
      have HS : Aside0 (n.peers.getD k 0 = m.peers.getD k 0 → n.peers.take (k + 1) = m.peers.take (k + 1)) := ⟨peers_succ hlt hltm hT.out⟩
      have HF : Aside0 (¬ n.peers.getD k 0 = m.peers.getD k 0 → ¬ n.peers = m.peers) := ⟨fun h e => h (by rw [e])⟩
      have HBd := Aside0.mk (below_drew HBr.out)
      have HBz := Aside0.mk (below_step HB.out HBd.out)
      generalize n.peers.getD k 0 = x at *
      generalize m.peers.getD k 0 = y at *
      by_cases hxy : x = y
      · have HS2 := Aside0.mk (HS.out hxy)
        clear HS HF
        go_wp2
        go_region
        go_wp2
        go_roundw
        case rel => exact ⟨k + 1, by omega, by go_num, HS2, HBd⟩
        case measure => simp [intOf]; omega
      · have HQF := Aside0.mk (HF.out hxy)
        clear HS HF
        go_wp2
        go_region
        go_wp2
        go_ret
        refine ⟨?_, HBz.out⟩
        simp [HQF.out]
    · have HPP : Aside0 (n.peers = m.peers) := ⟨by
        have h := hT.out
        rwa [List.take_of_length_le (by omega), List.take_of_length_le (by rw [← HN.out]; omega)] at h⟩
      have HBz := Aside0.mk (below_step HB.out HBr.out)
      have hkk : ¬ (k : Int) < (n.peers.length : Int) := by omega
      go_wp2
      all_goals
        go_ret
        refine ⟨?_, HBz.out⟩
        have e1 := HPP.out
        have e2 := HD0.out
        clear HBz c0 c1 c2 c5 c6 c7 c8 c9 d0 d1 d2 d5 d6 d7 d8 d9
        first | rfl | (simp [*]; done) | (simp [*]; rfl) | (simp_all; done)
end Go.Proofs.Ytameeejfkgoheaa.P
