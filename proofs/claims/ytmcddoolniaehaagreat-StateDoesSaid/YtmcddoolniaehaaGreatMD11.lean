/- Several of the walk's texts in one: SHRegWith, SHClones, SHOwn, SHPairDel, Sx4. -/
import Derived.Deep.RegionLaw
import Derived.Test.YtmcddoolniaehaaGreatMD04
import Derived.Test.YtmcddoolniaehaaGreatMD05
import Derived.Test.YtmcddoolniaehaaGreatMD09
import Derived.Test.YtmcddoolniaehaaGreatMD10
section
namespace Go.Proofs.YtmcddoolniaehaaGreat.S
open Go.RowKit Go.Proofs.YtmcddoolniaehaaGreatW.PrintWords Go.Proofs.YtmcddoolniaehaaGreatW.PrintLast Go.Proofs.YtmcddoolniaehaaGreatW.PrintMore Go.Proofs.YtmcddoolniaehaaGreatW
set_option linter.unusedVariables false
set_option linter.unusedSimpArgs false
set_option maxHeartbeats 1000000 in
theorem reg_clone (A0 : Option Addr) (c0 : Nat) (l0 : List S47) (w : World) (hr0 : Kd.C k47 w A0 l0.length l0) (hlim : l0.length * 56 ≤ 140737488355328) :
    Calls Tryz.prog 78 #[.slice A0 l0.length c0] w fun e w' => ∃ v, e = .returned v ∧ w'.ownsRow w.heap.size 47 5 v l0.length (regRow l0) ∧ Below w.heap.size w w' := by
  have hnil := fun (W : World) (a : Option Addr) (n c : Nat) => Lib.run_eql_slice_nil (P := Tryz.prog) W 23 47 a n c 0 0 Tryz.underlying23
  rcases A0 with _ | a
  · have h0 : l0.length = 0 := by
      rcases Nat.eq_zero_or_pos l0.length with h | h
      · exact h
      · obtain ⟨ad, h', _⟩ := hr0.2.2 h
        cases h'
    obtain rfl := List.eq_nil_of_length_eq_zero h0
    clear hr0
    go_enter Tryz.func78, Tryz.ntmps78
    go_wp2
    go_ret
    exact ⟨_, rfl, own_nil _ _ _ _, Below.refl _ _⟩
  · obtain ⟨i0, hi, hz0, hz1, hz2⟩ := info_parts info47
    have hemp : (w.alloc (.cells #[] 47)).ownsRow w.heap.size 47 5 (.slice (some ⟨w.heap.size, 0, none⟩) 0 0) 0 [] := by
      have h := World.ownsRow_lit (base := w.heap.size) (e := 47) (size := 5) w #[] 0 (Nat.le_refl _) (Nat.zero_le _) (by simp)
      simpa using h
    have hnews := C_news (d := k47) (enc := regCells) regCells_length (fun h => k47_open h) (Kd.C_below hr0 (below_alloc (Below.refl w.heap.size w) (.cells #[] 47)))
    obtain ⟨v', w', hr, ho, hg, _, hat⟩ := run_append_own_at (P := Tryz.prog) (w := w.alloc (.cells #[] 47)) w.heap.size 23 23 47 i0 _ 5 56 Tryz.underlying23 hi hz0 hz1 hz2 (by rfl) (by omega) _ 0 [] hemp a l0.length c0 (regRow l0)
      (flat_length (enc := regCells) (sz := 5) (fun _ => rfl) l0) hnews (flat_one regCells_one l0) (by unfold maxLen; omega) (by omega) (by simp)
    have HO := Aside0.mk ho
    have HB := Aside0.mk ((below_alloc (Below.refl w.heap.size w) (.cells #[] 47)).grown hg (by simp) (own_base hemp))
    clear hr0 ho hg hat hemp hnews hi hz0 hz1 hz2
    go_enter Tryz.func78, Tryz.ntmps78
    go_wp2_with (at_builtin; refine Lib.wpList_append_run _ rfl _ _ _ _ rfl _ _ rfl rfl _ _ hr ?_)
    go_ret
    exact ⟨_, rfl, by simpa using HO.out, HB.out⟩
theorem lim_le {a b c k : Nat} (h : (a + b + 1) * 56 ≤ 140737488355328) (h1 : c ≤ a + k) (h2 : k < b) : (c + 1) * 56 ≤ 140737488355328 := Nat.le_trans (Nat.mul_le_mul_right 56 (show c + 1 ≤ a + b + 1 by omega)) h
def reg_with.f (l0 : List (S47)) (l1 : List (S47)) : Option ((List (S47))) :=
  if regUpB l0 = true ∧ (l0.length + l1.length + 1) * 56 ≤ 140737488355328 then some (l1.foldl putL l0) else none
set_option maxHeartbeats 4000000 in
set_option maxRecDepth 100000 in
theorem reg_with.calls (A0 : Option Addr) (c0 : Nat) (l0 : List (S47)) (A1 : Option Addr) (c1 : Nat) (l1 : List (S47)) (r : List (S47)) (w : World) (hr0 : Kd.C k47 w A0 l0.length l0) (hc0 : l0.length ≤ c0) (hr1 : Kd.C k47 w A1 l1.length l1) (hc1 : l1.length ≤ c1) (h : reg_with.f l0 l1 = some r) :
    Calls Tryz.prog 83 #[.slice A0 l0.length c0, .slice A1 l1.length c1] w fun e w' => ∃ v0_ : Value, e = .returned (v0_) ∧ Kd.R k47 47 w' w.heap.size (fun _ => True) v0_ r ∧ Below w.heap.size w w' := by
  unfold reg_with.f at h
  split at h
  case isFalse => cases h
  case isTrue hh =>
  cases h
  have HUP := Aside0.mk (regUpB_up l0 hh.1)
  have hlim := hh.2
  have HCL := Aside0.mk (reg_clone A0 c0 l0 w hr0 (by omega))
  have HR1 := Aside0.mk hr1
  clear hr0 hh hr1
  go_enter Tryz.func83, Tryz.ntmps83
  go_wp2_with fail
  refine HCL.out.mono ?_
  rintro e w1 ⟨v0, rfl, ho1, hb1⟩
  obtain ⟨A, c, rfl⟩ := own_slice ho1
  have HO1 := Aside0.mk ho1
  have HB1 := Aside0.mk hb1
  have hszw := hb1.size
  have hgbn : (Value.slice A l0.length c).ownBlock ≠ some w1.heap.size := fun e => by have := own_lt HO1.out _ e; omega
  clear hb1 ho1 HCL
  have hu := Tryz.underlying23
  go_wp2
  go_loopw [14] (fun i wr => ∃ k : Nat, k ≤ l1.length ∧ i = .int .i64 k ∧ Aside0 (∃ v, wr.heap[w1.heap.size]? = some (.cells #[v] 127 (0, 0)) ∧ wr.ownsRow w.heap.size 47 5 v ((l1.take k).foldl putL l0).length (regRow ((l1.take k).foldl putL l0))) ∧ Aside0 (Below w.heap.size w wr)) (fun i _ => l1.length - (intOf i).toNat)
  case atStart => exact ⟨0, Nat.zero_le _, rfl, ⟨_, blk_new _ _, by simpa using HO1.out.alloc _⟩, ⟨below_alloc HB1.out _⟩⟩
  case round =>
    obtain ⟨k, hk, rfl, ⟨v, hg, ho⟩, HB⟩ := hrel
    obtain ⟨A', c', rfl⟩ := own_slice ho
    revert hg ho
    generalize hcur : (l1.take k).foldl putL l0 = cur
    intro hg ho
    by_cases hlt : k < l1.length
    · obtain ⟨ad, e, hx0, hx1, hx2, hx3, hx4⟩ := at_T47 HR1.out k (by omega) (by omega)
      cases e
      replace hx0 := (HB.out.cell (World.block_lt_of_cell? w _ hx0)).trans hx0
      replace hx1 := (HB.out.cell (World.block_lt_of_cell? w _ hx1)).trans hx1
      replace hx2 := (HB.out.cell (World.block_lt_of_cell? w _ hx2)).trans hx2
      replace hx3 := (HB.out.cell (World.block_lt_of_cell? w _ hx3)).trans hx3
      replace hx4 := (HB.out.cell (World.block_lt_of_cell? w _ hx4)).trans hx4
      simp only [Int.toNat_natCast, add_plain] at hx0 hx1 hx2 hx3 hx4
      have hglt := blk_lt hg
      have hup := (regUp_iff _).2 (foldl_up (l1.take k) l0 HUP.out)
      have hlen := foldl_length (l1.take k) l0
      have hlen2 : (l1.take k).length = k := by simp; omega
      have HT := take_foldl l1 l0 k hlt
      rw [hcur] at hup hlen HT
      have HT := Aside0.mk HT
      have hl56 : (cur.length + 1) * 56 ≤ 140737488355328 := lim_le hlim (hlen2 ▸ hlen) hlt
      have HP := Aside0.mk (fun (W : World) (h1 : Below w.heap.size w W) (h2 : W.heap[w1.heap.size]? = some (.cells #[.slice A' cur.length c'] 127 (0, 0))) (h3 : W.ownsRow w.heap.size 47 5 (.slice A' cur.length c') cur.length (regRow cur)) => put_calls w w1.heap.size (.slice A' cur.length c') cur (rd_T47 l1 (k : Nat)) W h1 hszw h2 h3 hup hl56)
      have HG := Aside0.mk hg
      have HO := Aside0.mk ho
      clear hg ho hup hlen hlen2 hcur
      go_wp2_with fail
      refine (HP.out _ (below_alloc HB.out _) (blk_alloc HG.out _) (HO.out.alloc _)).mono ?_
      rintro e w2 ⟨rfl, v', hg2, ho2, hb2⟩
      rw [← HT.out] at ho2
      have HA : Aside0 (∃ v, w2.heap[w1.heap.size]? = some (.cells #[v] 127 (0, 0)) ∧ w2.ownsRow w.heap.size 47 5 v ((l1.take (k + 1)).foldl putL l0).length (regRow ((l1.take (k + 1)).foldl putL l0))) := ⟨v', hg2, ho2⟩
      have HB2 := Aside0.mk hb2
      clear hg2 ho2 hb2 HP HG HO HT hx0 hx1 hx2 hx3 hx4 HB HR1
      go_wp2
      go_roundw
      case rel => exact ⟨k + 1, by omega, by go_num, HA, HB2⟩
      case measure => simp [intOf]; omega
    · have HT := Aside0.mk (show cur = l1.foldl putL l0 by rw [← hcur, List.take_of_length_le (by omega)])
      have HG := Aside0.mk hg
      have HO := Aside0.mk ho
      have hgc : wr.cell? ⟨w1.heap.size, 0, none⟩ = some (.slice A' cur.length c') := blk_cell hg 0
      clear hg ho hcur
      go_wp2
      go_ret
      exact ⟨_, rfl, by rw [← HT.out]; exact R_reg HO.out, HB.out⟩
end Go.Proofs.YtmcddoolniaehaaGreat.S
end
section
namespace Go.Proofs.YtmcddoolniaehaaGreat.S
open Go.RowKit Go.Proofs.YtmcddoolniaehaaGreatW.PrintWords Go.Proofs.YtmcddoolniaehaaGreatW.PrintLast Go.Proofs.YtmcddoolniaehaaGreatW.PrintMore Go.Proofs.YtmcddoolniaehaaGreatW
set_option linter.unusedVariables false
set_option linter.unusedSimpArgs false
theorem ctrCells_one' : ∀ x, ∀ u ∈ ctrCells x, u.oneCell' = true := by
  intro x u hu
  simp only [ctrCells, List.mem_cons, List.not_mem_nil, or_false] at hu
  rcases hu with rfl | rfl <;> rfl
set_option maxHeartbeats 1000000 in
set_option maxRecDepth 100000 in
theorem ctr_clone (A0 : Option Addr) (c0 : Nat) (l0 : List S73) (w : World) (hr0 : Kd.C k73 w A0 l0.length l0) (hlim : l0.length * 24 ≤ 140737488355328) :
    Calls Tryz.prog 77 #[.slice A0 l0.length c0] w fun e w' => ∃ v, e = .returned v ∧ w'.ownsRow w.heap.size 73 2 v l0.length (ctrRow l0) ∧ Below w.heap.size w w' := by
  have hnil := fun (W : World) (a : Option Addr) (n c : Nat) => Lib.run_eql_slice_nil (P := Tryz.prog) W 22 73 a n c 0 0 Tryz.underlying22
  rcases A0 with _ | a
  · have h0 : l0.length = 0 := by
      rcases Nat.eq_zero_or_pos l0.length with h | h
      · exact h
      · obtain ⟨ad, h', _⟩ := hr0.2.2 h
        cases h'
    obtain rfl := List.eq_nil_of_length_eq_zero h0
    clear hr0
    go_enter Tryz.func77, Tryz.ntmps77
    go_wp2
    go_ret
    exact ⟨_, rfl, own_nil _ _ _ _, Below.refl _ _⟩
  · obtain ⟨i0, hi, hz0, hz1, hz2⟩ := info_parts info73
    have hemp : (w.alloc (.cells #[] 73)).ownsRow w.heap.size 73 2 (.slice (some ⟨w.heap.size, 0, none⟩) 0 0) 0 [] := by
      have h := World.ownsRow_lit (base := w.heap.size) (e := 73) (size := 2) w #[] 0 (Nat.le_refl _) (Nat.zero_le _) (by simp)
      simpa using h
    have hnews := C_news (d := k73) (enc := ctrCells) ctrCells_length (fun h => k73_open h) (Kd.C_below hr0 (below_alloc (Below.refl w.heap.size w) (.cells #[] 73)))
    obtain ⟨v', w', hr, ho, hg, _, hat⟩ := run_append_own_at (P := Tryz.prog) (w := w.alloc (.cells #[] 73)) w.heap.size 22 22 73 i0 _ 2 24 Tryz.underlying22 hi hz0 hz1 hz2 (by rfl) (by omega) _ 0 [] hemp a l0.length c0 (ctrRow l0)
      (flat_length (enc := ctrCells) (sz := 2) (fun _ => rfl) l0) hnews (flat_one ctrCells_one' l0) (by unfold maxLen; omega) (by omega) (by simp)
    have HO := Aside0.mk ho
    have HB := Aside0.mk ((below_alloc (Below.refl w.heap.size w) (.cells #[] 73)).grown hg (by simp) (own_base hemp))
    clear hr0 ho hg hat hemp hnews hi hz0 hz1 hz2
    go_enter Tryz.func77, Tryz.ntmps77
    go_wp2_with (at_builtin; refine Lib.wpList_append_run _ rfl _ _ _ _ rfl _ _ rfl rfl _ _ hr ?_)
    go_ret
    exact ⟨_, rfl, by simpa using HO.out, HB.out⟩
end Go.Proofs.YtmcddoolniaehaaGreat.S
end
section
namespace Go.Proofs.YtmcddoolniaehaaGreat.S
open Go.RowKit Go.Proofs.YtmcddoolniaehaaGreatW.PrintWords Go.Proofs.YtmcddoolniaehaaGreatW.PrintLast Go.Proofs.YtmcddoolniaehaaGreatW.PrintMore Go.Proofs.YtmcddoolniaehaaGreatW
set_option linter.unusedVariables false
set_option linter.unusedSimpArgs false
def state_own.f (l0_0 : List (S73)) (l0_1 : List (S47)) (l0_2 : List (S43)) : Option ((List (S73)) × (List (S47)) × (List (S43))) :=
  if (l0_0.length + l0_1.length + l0_2.length) * 64 ≤ 140737488355328 then some (l0_0, l0_1, l0_2) else none
theorem cells3 {w : World} {g t : Nat} {v0 v1 v2 : Value} (h : w.heap[g]? = some (.cells #[v0, v1, v2] t (0, 0))) : w.cell? ⟨g, 0, none⟩ = some v0 ∧ w.cell? ⟨g, 1, none⟩ = some v1 ∧ w.cell? ⟨g, 2, none⟩ = some v2 := ⟨blk_cell h 0, blk_cell h 1, blk_cell h 2⟩
theorem frozen3 {w : World} {g t : Nat} {v0 v1 v2 : Value} (h : w.heap[g]? = some (.cells #[v0, v1, v2] t (0, 0))) : w.frozen? ⟨g, 0, none⟩ = false ∧ w.frozen? ⟨g, 1, none⟩ = false ∧ w.frozen? ⟨g, 2, none⟩ = false := ⟨blk_frozen h 0, blk_frozen h 1, blk_frozen h 2⟩
theorem set3 {V : World} {b t : Nat} {v0 v1 v2 : Value} (u0 u1 u2 : Value) (h : V.heap[b]? = some (.cells #[v0, v1, v2] t (0, 0))) : (((V.setCell ⟨b, 0, none⟩ u0).setCell ⟨b, 1, none⟩ u1).setCell ⟨b, 2, none⟩ u2).heap[b]? = some (.cells #[u0, u1, u2] t (0, 0)) := blk_set (blk_set (blk_set h 0 u0) 1 u1) 2 u2
theorem below3 {w V : World} {b : Nat} (u0 u1 u2 : Value) (h : Below w.heap.size w V) (hb : w.heap.size ≤ b) : Below w.heap.size w (((V.setCell ⟨b, 0, none⟩ u0).setCell ⟨b, 1, none⟩ u1).setCell ⟨b, 2, none⟩ u2) := below_set (below_set (below_set h hb) hb) hb
theorem own_set {W : World} {base n : Nat} {e : TypeId} {size : Nat} {v : Value} {xs : List Value} (h : W.ownsRow base e size v n xs) {b t : Nat} {cs : Array Value} (hb : W.heap[b]? = some (.cells cs t (0, 0))) (hne : e ≠ t) (j : Nat) (u : Value) : (W.setCell ⟨b, j, none⟩ u).ownsRow base e size v n xs := by
  have h1 := own_ne h hb hne
  refine own_other h (row := some b) ?_ (.inr (fun e => h1 e.symm))
  exact ⟨rfl, rfl, rfl, by simp [World.setCell], fun k hk hk2 => Below.heap_setCell W ⟨b, j, none⟩ u k (fun e => hk2 (by rw [e]))⟩
theorem own_set3 {V : World} {base n : Nat} {e : TypeId} {size : Nat} {v : Value} {xs : List Value} (h : V.ownsRow base e size v n xs) {b t : Nat} {v0 v1 v2 : Value} (u0 u1 u2 : Value) (hb : V.heap[b]? = some (.cells #[v0, v1, v2] t (0, 0))) (hne : e ≠ t) : (((V.setCell ⟨b, 0, none⟩ u0).setCell ⟨b, 1, none⟩ u1).setCell ⟨b, 2, none⟩ u2).ownsRow base e size v n xs :=
  own_set (own_set (own_set h hb hne 0 u0) (blk_set hb 0 u0) hne 1 u1) (blk_set (blk_set hb 0 u0) 1 u1) hne 2 u2
set_option maxHeartbeats 4000000 in
set_option maxRecDepth 100000 in
theorem state_own.calls (A0_0 : Option Addr) (c0_0 : Nat) (l0_0 : List (S73)) (A0_1 : Option Addr) (c0_1 : Nat) (l0_1 : List (S47)) (A0_2 : Option Addr) (c0_2 : Nat) (l0_2 : List (S43)) (r1 : List (S73)) (r2 : List (S47)) (r3 : List (S43)) (w : World) (hr0_0 : Kd.C k73 w A0_0 l0_0.length l0_0) (hc0_0 : l0_0.length ≤ c0_0) (hr0_1 : Kd.C k47 w A0_1 l0_1.length l0_1) (hc0_1 : l0_1.length ≤ c0_1) (hr0_2 : Kd.C k43 w A0_2 l0_2.length l0_2) (hc0_2 : l0_2.length ≤ c0_2) (h : state_own.f l0_0 l0_1 l0_2 = some (r1, r2, r3)) :
    Calls Tryz.prog 29 #[.agg #[.slice A0_0 l0_0.length c0_0, .slice A0_1 l0_1.length c0_1, .slice A0_2 l0_2.length c0_2]] w fun e w' => ∃ v0_ v1_ v2_ : Value, e = .returned (.agg #[v0_, v1_, v2_]) ∧ Kd.R k73 73 w' w.heap.size (fun _ => True) v0_ r1 ∧ Kd.R k47 47 w' w.heap.size (fun _ => True) v1_ r2 ∧ Kd.R k43 43 w' w.heap.size (fun _ => True) v2_ r3 ∧ Below w.heap.size w w' := by
  unfold state_own.f at h
  split at h
  case isFalse => cases h
  case isTrue hh =>
  cases h
  have HC := Aside0.mk (fun (W : World) (hb : Below w.heap.size w W) => ctr_clone A0_0 c0_0 l0_0 W (Kd.C_below hr0_0 hb) (by omega))
  have HR := Aside0.mk (fun (W : World) (hb : Below w.heap.size w W) => reg_clone A0_1 c0_1 l0_1 W (Kd.C_below hr0_1 hb) (by omega))
  have HP := Aside0.mk (fun (W : World) (hb : Below w.heap.size w W) => pair_clone A0_2 c0_2 l0_2 W (Kd.C_below hr0_2 hb) (by omega))
  clear hr0_0 hr0_1 hr0_2 hh hc0_0 hc0_1 hc0_2
  go_enter Tryz.func29, Tryz.ntmps29
  go_wp2_with fail
  have hbox := blk_alloc (blk_new w (.cells #[.slice A0_0 l0_0.length c0_0, .slice A0_1 l0_1.length c0_1, .slice A0_2 l0_2.length c0_2] 26)) (.cells #[.slice none 0 0, .slice none 0 0, .slice none 0 0] 26)
  have hres := blk_new (w.alloc (.cells #[.slice A0_0 l0_0.length c0_0, .slice A0_1 l0_1.length c0_1, .slice A0_2 l0_2.length c0_2] 26)) (.cells #[.slice none 0 0, .slice none 0 0, .slice none 0 0] 26)
  rw [show ∀ o, (w.alloc o).heap.size = w.heap.size + 1 from fun o => by simp] at hres
  have HB := Aside0.mk (below_alloc (below_alloc (Below.refl w.heap.size w) (.cells #[.slice A0_0 l0_0.length c0_0, .slice A0_1 l0_1.length c0_1, .slice A0_2 l0_2.length c0_2] 26)) (.cells #[.slice none 0 0, .slice none 0 0, .slice none 0 0] 26))
  revert hbox hres HB
  generalize (w.alloc (.cells #[.slice A0_0 l0_0.length c0_0, .slice A0_1 l0_1.length c0_1, .slice A0_2 l0_2.length c0_2] 26)).alloc (.cells #[.slice none 0 0, .slice none 0 0, .slice none 0 0] 26) = W
  intro hbox hres HB
  have hlt := blk_lt hres
  obtain ⟨c0, c1, c2⟩ := cells3 hbox
  have HX := Aside0.mk hbox
  have HS := Aside0.mk hres
  clear hbox hres
  go_region_law (first
    | (go_simp; go_at_call 77; (with_reducible refine (HC.out _ ?hz).mono ?_); (case hz => exact below_drew HB.out); rintro e w2 ⟨v, rfl, ho2, hb2⟩; obtain ⟨a0, b0, rfl⟩ := own_slice ho2; have HB2 := Aside0.mk (below_step (below_drew HB.out) hb2); have HX2 := Aside0.mk (blk_below (blk_drew HX.out) hb2); have HS2 := Aside0.mk (blk_below (blk_drew HS.out) hb2); have HO2 := Aside0.mk ho2; obtain ⟨_, d1, d2⟩ := cells3 HX2.out; clear hb2 ho2)
    | (go_simp; go_at_call 78; (with_reducible refine (HR.out _ ?hz).mono ?_); (case hz => exact HB2.out); rintro e w3 ⟨v, rfl, ho3, hb3⟩; obtain ⟨a1, b1, rfl⟩ := own_slice ho3; have HB3 := Aside0.mk (below_step HB2.out hb3); have HX3 := Aside0.mk (blk_below HX2.out hb3); have HS3 := Aside0.mk (blk_below HS2.out hb3); have HOC3 := Aside0.mk (pw_own_below HO2.out hb3); have HO3 := Aside0.mk ho3; have HLE3 := Aside0.mk HB2.out.size; obtain ⟨_, _, e2⟩ := cells3 HX3.out; clear hb3 ho3)
    | (go_simp; go_at_call 79; (with_reducible refine (HP.out _ ?hz).mono ?_); (case hz => exact HB3.out); rintro e w4 ⟨v, rfl, ho4, hb4⟩; obtain ⟨a2, b2, rfl⟩ := own_slice ho4; have HB4 := Aside0.mk (below_step HB3.out hb4); have HS4 := Aside0.mk (blk_below HS3.out hb4); have HOC4 := Aside0.mk (pw_own_below HOC3.out hb4); have HOR4 := Aside0.mk (pw_own_below HO3.out hb4); have HO4 := Aside0.mk ho4; have HLE4 := Aside0.mk HB3.out.size; obtain ⟨s0, s1, s2⟩ := cells3 HS4.out; obtain ⟨f0, f1, f2⟩ := frozen3 HS4.out; clear hb4 ho4))
  all_goals
    go_wp2
    have hz := set3 (.slice a0 l0_0.length b0) (.slice a1 l0_1.length b1) (.slice a2 l0_2.length b2) HS4.out
    have HB5 := Aside0.mk (below3 (b := w.heap.size + 1) (.slice a0 l0_0.length b0) (.slice a1 l0_1.length b1) (.slice a2 l0_2.length b2) HB4.out (Nat.le_succ _))
    have hle0 := below_size HB.out
    have HC5 := Aside0.mk (own_less (own_set3 HOC4.out (.slice a0 l0_0.length b0) (.slice a1 l0_1.length b1) (.slice a2 l0_2.length b2) HS4.out (by decide)) (show w.heap.size ≤ _ by first | exact hle0 | omega))
    have HR5 := Aside0.mk (own_less (own_set3 HOR4.out (.slice a0 l0_0.length b0) (.slice a1 l0_1.length b1) (.slice a2 l0_2.length b2) HS4.out (by decide)) HLE3.out)
    have HP5 := Aside0.mk (own_less (own_set3 HO4.out (.slice a0 l0_0.length b0) (.slice a1 l0_1.length b1) (.slice a2 l0_2.length b2) HS4.out (by decide)) HLE4.out)
    obtain ⟨z0, z1, z2⟩ := cells3 hz
    clear hz HX HS HB HX2 HS2 HB2 HO2 HX3 HS3 HB3 HOC3 HO3 HS4 HB4 HOC4 HOR4 HO4 HLE3 HLE4 s0 s1 s2 f0 f1 f2 hlt c0 c1 c2 d1 d2 e2 HC HR HP hle0
    revert z0 z1 z2 HB5 HC5 HR5 HP5
    generalize (((w4.setCell ⟨w.heap.size + 1, 0, none⟩ (.slice a0 l0_0.length b0)).setCell ⟨w.heap.size + 1, 1, none⟩ (.slice a1 l0_1.length b1)).setCell ⟨w.heap.size + 1, 2, none⟩ (.slice a2 l0_2.length b2)) = U
    intro HB5 HC5 HR5 HP5 z0 z1 z2
    refine bodyPost_ret (v := .agg #[.slice a0 l0_0.length b0, .slice a1 l0_1.length b1, .slice a2 l0_2.length b2]) (by simp [results, Tryz.results29, go_sem, z0, z1, z2]) rfl ⟨_, _, _, rfl, R_ctr HC5.out, R_reg HR5.out, R_pair rfl HP5.out, HB5.out⟩
end Go.Proofs.YtmcddoolniaehaaGreat.S
end
section
namespace Go.Proofs.YtmcddoolniaehaaGreat.S
open Go.RowKit Go.Proofs.YtmcddoolniaehaaGreatW.PrintWords Go.Proofs.YtmcddoolniaehaaGreatW.PrintLast Go.Proofs.YtmcddoolniaehaaGreatW.PrintMore Go.Proofs.YtmcddoolniaehaaGreatW
set_option linter.unusedVariables false
set_option linter.unusedSimpArgs false
section
variable {P : Program}
theorem wp_clear_runH (w : World) {o : Oper} {a : Act} {K : Act → World → Prop} {Q : Exit → Act → World → Prop} (s : Operand) (t : TypeId)
    (ho : o.op = .call { callee := .builtin .clear, args := #[s], argTypes := #[t] }) (v : Value) (hs : a.eval s = v) {v' : Value} {w' : World}
    (hr : (Builtin.clear_ #[t] o.type #[v]).run P w = .ok v' w') (h : K (a.put o.dst v') w') : o.wp P a w K Q := by
  unfold Oper.wp execOp
  simp only [ho, resolve, invoke, builtin, Sem.run_bind, Sem.run_pure, Result.andThen_ok, List.map_toArray, List.map_cons, List.map_nil, hs, hr]
  exact h
theorem wpList_clear_runH (w : World) {ops : Array Oper} {rest : List Oper} {o : Oper} {a : Act} {Q : Exit → Act → World → Prop} (hgd : o.guard = none) (s : Operand) (t : TypeId)
    (ho : o.op = .call { callee := .builtin .clear, args := #[s], argTypes := #[t] }) (v : Value) (hs : a.eval s = v) {v' : Value} {w' : World}
    (hr : (Builtin.clear_ #[t] o.type #[v]).run P w = .ok v' w') (h : wpList P ops Q rest (a.put o.dst v') w') : wpList P ops Q (o :: rest) a w :=
  wpList_plain hgd fun _ hK => wp_clear_runH w s t ho v hs hr (hK _ _ h)
end
theorem heap_setRow2 (w : World) (g : Nat) (cur cs : Array Value) (t : TypeId) (hg : w.heap[g]? = some (.cells cur t (0, 0))) : (w.setRow g cs).heap[g]? = some (.cells cs t (0, 0)) := by
  simp [World.setRow, Array.getElem?_modify, hg]
theorem grown_setRow2 (w : World) (g : Nat) (cs : Array Value) : w.grownBy (w.setRow g cs) (some g) := by
  refine ⟨rfl, rfl, rfl, by simp [World.setRow], fun k hk hne => ?_⟩
  have : g ≠ k := fun e => hne (by rw [e])
  simp [World.setRow, Array.getElem?_modify, this]
theorem zeroVP (w : World) : (zeroValue 43).run Tryz.prog w = .ok (.agg #[.string ⟨#[]⟩, .string ⟨#[]⟩, .int .i64 0, .int .i64 0]) w := by kernel_rfl
def zerosP (n : Nat) : List Value := (Builtin.zeroCells #[.string ⟨#[]⟩, .string ⟨#[]⟩, .int .i64 0, .int .i64 0] n).toList
theorem zerosP_length (n : Nat) : (zerosP n).length = n * 4 := by
  unfold zerosP
  simp [Builtin.zeroCells]
theorem zerosP_one (n : Nat) : ∀ v ∈ zerosP n, v.oneCell' = true := by
  intro v hv
  unfold zerosP at hv
  simp [Builtin.zeroCells] at hv
  obtain ⟨i, _, rfl⟩ := hv
  have : i % 4 < 4 := Nat.mod_lt _ (by decide)
  match h : i % 4 with
  | 0 => rfl
  | 1 => rfl
  | 2 => rfl
  | 3 => rfl
  | k + 4 => omega
theorem run_clearP (w : World) (g o n c : Nat) (cur : Array Value) (hg : w.heap[g]? = some (.cells cur 43 (0, 0))) (hn : 0 < n) (hfit : o + n * 4 ≤ cur.size) (ty : TypeId) :
    (Builtin.clear_ #[24] ty #[.slice (some ⟨g, o, none⟩) n c]).run Tryz.prog w = .ok (.tuple #[]) (w.setRow g (cur.toList.take o ++ zerosP n ++ cur.toList.drop (o + (zerosP n).length)).toArray) := by
  have hst := run_storeCells_at Tryz.prog g o 43 (zerosP n) 0 cur w hg (by rw [zerosP_length]; simpa using hfit) (zerosP_one n)
  obtain ⟨m, rfl⟩ : ∃ m, n = m + 1 := ⟨n - 1, by omega⟩
  have hz := zeroVP w
  simp [Builtin.clear_, run_underlying Tryz.underlying24, hz, Value.cells, Result.andThen]
  unfold zerosP at hst ⊢
  rw [hst]
  simp
theorem pairRow_set : ∀ (l : List Pr) (i : Nat) (r : Pr), i < l.length → pairRow (l.set i r) = ((((pairRow l).set (i * 4) (.string r.f0)).set (i * 4 + 1) (.string r.f1)).set (i * 4 + 2) (.int .i64 r.f2.f0)).set (i * 4 + 3) (.int .i64 r.f2.f1)
  | [], i, r, h => by simp at h
  | x :: l, 0, r, _ => by
    simp only [List.set_cons_zero, pairRow, List.flatMap_cons, pairCells, List.cons_append, List.nil_append, Nat.zero_mul, Nat.zero_add]
    rfl
  | x :: l, i + 1, r, h => by
    have ih := pairRow_set l i r (by simpa using h)
    have e : ∀ j : Nat, (i + 1) * 4 + j = (i * 4 + j) + 1 + 1 + 1 + 1 := fun j => by omega
    have e0 : (i + 1) * 4 = (i * 4) + 1 + 1 + 1 + 1 := by omega
    rw [List.set_cons_succ]
    show pairCells x ++ pairRow (l.set i r) = _
    rw [ih, e 1, e 2, e 3, e0]
    show _ = ((((pairCells x ++ pairRow l).set _ _).set _ _).set _ _).set _ _
    simp only [pairCells, List.cons_append, List.nil_append, List.set_cons_succ]
theorem C_ofown {w : World} {base n c : Nat} {A : Option Addr} {cur : List Pr} (hn : n = cur.length) (h : w.ownsRow base 43 4 (.slice A n c) n (pairRow cur)) : Kd.C k43 w A cur.length cur ∧ n ≤ c := by
  subst hn
  obtain ⟨A3, c3, e3, hl, hC⟩ := Kd.R_reads (R_pair rfl h)
  cases e3
  exact ⟨hC, hl⟩
def keepP (key elem : ByteArray) (l : List Pr) : List Pr := l.filter fun x => !goneB key elem x
theorem filter_first (q : Pr → Bool) (l : List Pr) (j : Nat) (hj : j < l.length) (h1 : q l[j] = true) (h2 : ∀ i, i < j → ∀ h : i < l.length, q l[i] = false) : (l.take (j + 1)).filter (fun x => !q x) = l.take j := by
  rw [List.take_succ_eq_append_getElem hj, List.filter_append]
  have e1 : (l.take j).filter (fun x => !q x) = l.take j := by
    rw [List.filter_eq_self]
    intro a ha
    obtain ⟨i, hi, rfl⟩ := List.mem_iff_getElem.1 ha
    rw [List.getElem_take]
    rw [h2 i (by simp at hi; omega) (by simp at hi; omega)]; rfl
  rw [e1]
  simp [h1]
set_option maxHeartbeats 4000000 in
set_option maxRecDepth 100000 in
theorem delfunc (w0 : World) (key elem : ByteArray) (BK BE : Nat) (A : Option Addr) (c : Nat) (l : List Pr) (w : World) (hB : Below w0.heap.size w0 w) (hK : w.heap[BK]? = some (.cells #[.string key] 9 (0, 0))) (hE : w.heap[BE]? = some (.cells #[.string elem] 9 (0, 0)))
    (ho : w.ownsRow w0.heap.size 43 4 (.slice A l.length c) l.length (pairRow l)) (hlm : l.length < 4611686018427387904) :
    Calls Tryz.prog 86 #[.slice A l.length c, .func (.func 87) #[] #[.pointer (some ⟨BK, 0, none⟩), .pointer (some ⟨BE, 0, none⟩)]] w fun e w' =>
      ∃ A' c', e = .returned (.slice A' (keepP key elem l).length c') ∧ w'.ownsRow w0.heap.size 43 4 (.slice A' (keepP key elem l).length c') (keepP key elem l).length (pairRow (keepP key elem l)) ∧ Below w0.heap.size w0 w' := by
  obtain ⟨A2, c2, e2, hlc, hC⟩ := Kd.R_reads (R_pair rfl ho)
  cases e2
  have HIDX := Aside0.mk (del_idx key elem BK BE w hK hE A c l hC)
  rcases firstQ_cases (goneB key elem) l 0 with ⟨h1, h2⟩ | ⟨j0, hj0, h1, h2, h3⟩
  · have HF := Aside0.mk (show keepP key elem l = l by
      unfold keepP
      rw [List.filter_eq_self]
      intro a ha; rw [h2 a ha]; rfl)
    have HO := Aside0.mk ho
    have HB := Aside0.mk hB
    rw [h1] at HIDX
    clear h1 h2 hC ho hB hK hE
    go_enter Tryz.func86, Tryz.ntmps86
    go_wp2_with fail
    refine HIDX.out.mono ?_
    rintro e w1 ⟨rfl, hb1⟩
    have HO1 := Aside0.mk (pw_own_below HO.out hb1)
    have HB1 := Aside0.mk (below_then HB.out HB.out.size hb1)
    clear hb1
    go_wp2
    go_ret
    rw [HF.out]
    exact ⟨_, _, rfl, HO1.out, HB1.out⟩
  · obtain ⟨g, c', e, hgb0, hglt0⟩ := ho.form (by omega)
    cases e
    have HO := Aside0.mk ho
    have HB := Aside0.mk hB
    have HK := Aside0.mk hK
    have HE := Aside0.mk hE
    have HF0 := Aside0.mk (filter_first (goneB key elem) l j0 hj0 h2 h3)
    rw [Nat.zero_add] at h1
    rw [h1] at HIDX
    clear h1 h2 h3 hC ho hB hK hE
    go_enter Tryz.func86, Tryz.ntmps86
    go_wp2_with fail
    refine HIDX.out.mono ?_
    rintro e w1 ⟨rfl, hb1⟩
    have HO1 := Aside0.mk (pw_own_below HO.out hb1)
    have HB1 := Aside0.mk (below_then HB.out HB.out.size hb1)
    have HK1 := Aside0.mk (blk_below HK.out hb1)
    have HE1 := Aside0.mk (blk_below HE.out hb1)
    clear hb1 HO HB HK HE HIDX
    have hjm : (((j0 : Nat) : Int) == -1) = false := beq_eq_false_iff_ne.2 (by omega)
    go_wp2
    go_loopw [5, 6] (fun v u wr => ∃ (i j : Nat) (cur : List Pr), j ≤ l.length ∧ i < j ∧ v = .int .i64 i ∧ u = .int .i64 j ∧ cur.length = l.length ∧ Aside0 (cur.take i = (l.take j).filter (fun x => !goneB key elem x)) ∧ Aside0 (cur.drop j = l.drop j) ∧
      Aside0 (wr.ownsRow w0.heap.size 43 4 (.slice (some ⟨g, 0, none⟩) l.length c) l.length (pairRow cur)) ∧ Aside0 (Below w0.heap.size w0 wr) ∧ Aside0 (wr.heap[BK]? = some (.cells #[.string key] 9 (0, 0))) ∧ Aside0 (wr.heap[BE]? = some (.cells #[.string elem] 9 (0, 0))))
      (fun _ u _ => l.length - (intOf u).toNat)
    case atStart => exact ⟨j0, j0 + 1, l, by omega, by omega, rfl, by go_num, rfl, ⟨HF0.out.symm⟩, ⟨rfl⟩, HO1, HB1, HK1, HE1⟩
    case round =>
      clear HO1 HB1 HK1 HE1 HF0
      obtain ⟨i, j, cur, hjl, hij, rfl, rfl, hcl, ht, hd, hO, hBr, hKr, hEr⟩ := hrel
      have hgl : g < wr.heap.size := (hO.out.lt g rfl).2
      by_cases hlt : j < l.length
      · have hC := (C_ofown hcl.symm hO.out).1
        obtain ⟨ad, e, hx0, hx1, hx2, hx3⟩ := at_T43 hC (j : Nat) (by omega) (by omega)
        cases e
        have hxl : rd_T43 cur (j : Nat) = l[j] := by
          rw [rdP_at cur j (by omega)]
          have h1 := List.drop_eq_getElem_cons (show j < cur.length by omega)
          have h2 := List.drop_eq_getElem_cons hlt
          rw [hd.out, h2] at h1
          injection h1 with h1
          exact h1.symm
        simp only [Int.toNat_natCast, add_plain] at hx0 hx1 hx2 hx3
        have HXL := Aside0.mk hxl
        clear hxl
        generalize rd_T43 cur (j : Nat) = x at hx0 hx1 hx2 hx3 HXL
        have hnew := blk_new wr (.cells #[.string x.f0, .string x.f1, .int .i64 x.f2.f0, .int .i64 x.f2.f1] 43)
        have HCLO := Aside0.mk (del_clo key elem BK BE (wr.alloc (.cells #[.string x.f0, .string x.f1, .int .i64 x.f2.f0, .int .i64 x.f2.f1] 43)) (blk_alloc hKr.out _) (blk_alloc hEr.out _) x)
        have HNEW := Aside0.mk hnew
        clear hnew hC
        cases hq : goneB key elem x with
        | true =>
          have HT : Aside0 (cur.take i = (l.take (j + 1)).filter (fun x => !goneB key elem x)) := ⟨by
            rw [List.take_succ_eq_append_getElem hlt, List.filter_append, ht.out, ← HXL.out]
            simp [hq]⟩
          have HD : Aside0 (cur.drop (j + 1) = l.drop (j + 1)) := ⟨by
            have := congrArg (List.drop 1) hd.out
            simpa [List.drop_drop] using this⟩
          rw [hq] at HCLO
          clear hq
          go_wp2_with fail
          refine HCLO.out.mono ?_
          rintro e w2 ⟨rfl, hb2⟩
          have HO2 := Aside0.mk (pw_own_below (hO.out.alloc _) hb2)
          have HB2 := Aside0.mk (below_then (below_alloc hBr.out _) (by have := hBr.out.size; simp; omega) hb2)
          have HK2 := Aside0.mk (blk_below (blk_alloc hKr.out _) hb2)
          have HE2 := Aside0.mk (blk_below (blk_alloc hEr.out _) hb2)
          clear hb2 hO hBr hKr hEr HCLO HNEW HXL ht hd hx0 hx1 hx2 hx3
          go_wp2
          go_roundw
          case rel => exact ⟨i, j + 1, cur, by omega, by omega, rfl, by go_num, hcl, HT, HD, HO2, HB2, HK2, HE2⟩
          case measure => simp [intOf]; omega
        | false =>
          have HT : Aside0 ((cur.set i x).take (i + 1) = (l.take (j + 1)).filter (fun x => !goneB key elem x)) := ⟨by
            rw [List.take_succ_eq_append_getElem hlt, List.filter_append, ← ht.out, ← HXL.out]
            rw [List.take_succ_eq_append_getElem (by simp; omega), List.take_set_of_le (Nat.le_refl _)]
            simp [hq]⟩
          have HD : Aside0 ((cur.set i x).drop (j + 1) = l.drop (j + 1)) := ⟨by
            rw [List.drop_set_of_lt (by omega)]
            have := congrArg (List.drop 1) hd.out
            simpa [List.drop_drop] using this⟩
          rw [hq] at HCLO
          clear hq
          go_wp2_with fail
          refine HCLO.out.mono ?_
          rintro e w2 ⟨rfl, hb2⟩
          have HO2 := Aside0.mk (pw_own_below (hO.out.alloc _) hb2)
          have HB2 := Aside0.mk (below_then (below_alloc hBr.out _) (by have := hBr.out.size; simp; omega) hb2)
          have HK2 := Aside0.mk (blk_below (blk_alloc hKr.out _) hb2)
          have HE2 := Aside0.mk (blk_below (blk_alloc hEr.out _) hb2)
          have hbx := blk_below HNEW.out hb2
          have b0 : w2.cell? ⟨wr.heap.size, 0, none⟩ = some (.string x.f0) := blk_cell hbx 0
          have b1 : w2.cell? ⟨wr.heap.size, 1, none⟩ = some (.string x.f1) := blk_cell hbx 1
          have b2 : w2.cell? ⟨wr.heap.size, 2, none⟩ = some (.int .i64 x.f2.f0) := blk_cell hbx 2
          have b3 : w2.cell? ⟨wr.heap.size, 3, none⟩ = some (.int .i64 x.f2.f1) := blk_cell hbx 3
          have hC2 := (C_ofown hcl.symm HO2.out).1
          obtain ⟨ad, e, hy0, hy1, hy2, hy3⟩ := at_T43 hC2 (i : Nat) (by omega) (by omega)
          cases e
          simp only [Int.toNat_natCast, add_plain] at hy0 hy1 hy2 hy3
          have f0 := HO2.out.frozenAt (i * 4)
          have f1 := HO2.out.frozenAt (i * 4 + 1)
          have f2 := HO2.out.frozenAt (i * 4 + 2)
          have f3 := HO2.out.frozenAt (i * 4 + 3)
          obtain ⟨cells, hcells⟩ := own_typed HO2.out g rfl
          have HKg := Aside0.mk (blk_ne HK2.out hcells (by decide))
          have HEg := Aside0.mk (blk_ne HE2.out hcells (by decide))
          have hne1 : wr.heap.size ≠ g := by omega
          have hne2 : g ≠ wr.heap.size := by omega
          clear hb2 hO hBr hKr hEr HCLO HNEW HXL ht hd hx0 hx1 hx2 hx3 hbx hC2 hcells
          go_wp2
          have HO3 : Aside0 (((((w2.setCell ⟨g, i * 4, none⟩ (.string x.f0)).setCell ⟨g, i * 4 + 1, none⟩ (.string x.f1)).setCell ⟨g, i * 4 + 2, none⟩ (.int .i64 x.f2.f0)).setCell ⟨g, i * 4 + 3, none⟩ (.int .i64 x.f2.f1)).ownsRow w0.heap.size 43 4 (.slice (some ⟨g, 0, none⟩) l.length c) l.length (pairRow (cur.set i x))) := ⟨by
            rw [pairRow_set cur i x (by omega)]
            exact ((((HO2.out.stored (i * 4) (.string x.f0)).1.stored (i * 4 + 1) (.string x.f1)).1.stored (i * 4 + 2) (.int .i64 x.f2.f0)).1.stored (i * 4 + 3) (.int .i64 x.f2.f1)).1⟩
          have HB3 := Aside0.mk (Below.setCell (p := ⟨g, i * 4 + 3, none⟩) (Below.setCell (p := ⟨g, i * 4 + 2, none⟩) (Below.setCell (p := ⟨g, i * 4 + 1, none⟩) (Below.setCell (p := ⟨g, i * 4, none⟩) HB2.out hgb0 (.string x.f0)) hgb0 (.string x.f1)) hgb0 (.int .i64 x.f2.f0)) hgb0 (.int .i64 x.f2.f1))
          have HK3 := Aside0.mk (blk_far (blk_far (blk_far (blk_far HK2.out (p := ⟨g, i * 4, none⟩) HKg.out (.string x.f0)) (p := ⟨g, i * 4 + 1, none⟩) HKg.out (.string x.f1)) (p := ⟨g, i * 4 + 2, none⟩) HKg.out (.int .i64 x.f2.f0)) (p := ⟨g, i * 4 + 3, none⟩) HKg.out (.int .i64 x.f2.f1))
          have HE3 := Aside0.mk (blk_far (blk_far (blk_far (blk_far HE2.out (p := ⟨g, i * 4, none⟩) HEg.out (.string x.f0)) (p := ⟨g, i * 4 + 1, none⟩) HEg.out (.string x.f1)) (p := ⟨g, i * 4 + 2, none⟩) HEg.out (.int .i64 x.f2.f0)) (p := ⟨g, i * 4 + 3, none⟩) HEg.out (.int .i64 x.f2.f1))
          go_roundw
          case rel => exact ⟨i + 1, j + 1, cur.set i x, by omega, by omega, by go_num, by go_num, by rw [List.length_set]; exact hcl, HT, HD, HO3, HB3, HK3, HE3⟩
          case measure => simp [intOf]; omega
      · have hje : j = l.length := by omega
        have HF : Aside0 (keepP key elem l = cur.take i) := ⟨by
          have := ht.out
          rw [hje, List.take_length] at this
          exact this.symm⟩
        have hil : i < l.length := by omega
        obtain ⟨h5, h6⟩ := hO.out
        rcases h6 with ⟨h6, _⟩ | ⟨g', cap', cells, h6, q1, q2, q3, q4, q5, q6⟩
        · cases h6
        · cases h6
          have hcs : i * 4 + (l.length - i) * 4 ≤ cells.size := by rw [q5]; omega
          have hclr := fun ty => run_clearP wr g (i * 4) (l.length - i) (c - i) cells q2 (by omega) hcs ty
          have HX := Aside0.mk (And.intro q2 (And.intro q4 (And.intro q5 q6)))
          have hcm : c ≤ 9223372036854775807 := by unfold maxLen at q4; omega
          clear q2 q4 q5 q6 hcs h5
          go_wp2_with (first | (at_builtin; refine wpList_clear_runH _ rfl _ _ rfl _ rfl (hclr _) ?_))
          have hkl : (keepP key elem l).length = i := by rw [HF.out, List.length_take]; omega
          have hrl : (pairRow (keepP key elem l)).length = i * 4 := by rw [flat_length (enc := pairCells) (sz := 4) (fun _ => rfl), hkl]
          have hz := zerosP_length (l.length - i)
          go_ret
          refine ⟨some ⟨g, 0, none⟩, c, by rw [hkl]; rfl, ?_, hBr.out.grown (grown_setRow2 wr g _) hBr.out.size (fun k hk => by injection hk with hk; omega)⟩
          rw [hkl]
          refine ⟨hrl, .inr ⟨g, c, _, rfl, hgb0, heap_setRow2 _ g _ _ _ HX.out.1, by omega, HX.out.2.1, ?_, ?_⟩⟩
          · have h1 := HX.out.2.2.1
            simp only [List.size_toArray, List.length_append, List.length_take, List.length_drop, Array.length_toList, hz]
            omega
          · have h1 := HX.out.2.2.1
            have h2 := HX.out.2.2.2
            rw [HF.out]
            show List.take (i * 4) (List.take (i * 4) cells.toList ++ _) = _
            rw [List.take_append_of_le_length (by simp; omega), List.take_take, Nat.min_self]
            have h3 : cells.toList.take (i * 4) = (cells.toList.take (l.length * 4)).take (i * 4) := by rw [List.take_take, Nat.min_eq_left (by omega)]
            rw [h3, h2]
            exact flat_take (sz := 4) (fun _ => rfl) cur i
def delP (l : List Pr) (key elem : ByteArray) : List Pr := if mayP l then keepP key elem l else []
def pair_Del.f (l0 : List (S43)) (a1 : ByteArray) (a2 : ByteArray) : Option ((List (S43))) :=
  if smallP l0 = true then some (delP l0 a1 a2) else none
set_option maxHeartbeats 4000000 in
set_option maxRecDepth 100000 in
theorem pair_Del.calls (A0 : Option Addr) (c0 : Nat) (l0 : List (S43)) (a1 : ByteArray) (a2 : ByteArray) (r : List (S43)) (w : World) (hr0 : Kd.C k43 w A0 l0.length l0) (hc0 : l0.length ≤ c0) (h : pair_Del.f l0 a1 a2 = some r) :
    Calls Tryz.prog 37 #[.slice A0 l0.length c0, .string a1, .string a2] w fun e w' => ∃ v0_ : Value, e = .returned (v0_) ∧ Kd.R k43 43 w' w.heap.size (fun _ => True) v0_ r ∧ Below w.heap.size w w' := by
  unfold pair_Del.f at h
  split at h
  case isFalse => cases h
  case isTrue hh =>
  cases h
  have hlen := smallP_len hh
  have hl64 : l0.length < 4611686018427387904 := by omega
  have hall := smallP_all hh
  have HMAY := Aside0.mk (fun (W : World) (hb : Below w.heap.size w W) => pair_May.calls (l0.length + 6) A0 c0 l0 (mayP l0) W (Kd.C_below hr0 hb) hc0 (mayP_f _ l0 (by omega) hl64 hall))
  have HCL := Aside0.mk (fun (W : World) (hb : Below w.heap.size w W) => pair_clone A0 c0 l0 W (Kd.C_below hr0 hb) (by omega))
  clear hr0 hh hall
  go_enter Tryz.func37, Tryz.ntmps37
  go_wp2_with fail
  have hb0 : Below w.heap.size w ((w.alloc (.cells #[.string a1] 9)).alloc (.cells #[.string a2] 9)) := below_alloc (below_alloc (Below.refl _ _) _) _
  have hK : ((w.alloc (.cells #[.string a1] 9)).alloc (.cells #[.string a2] 9)).heap[w.heap.size]? = some (.cells #[.string a1] 9 (0, 0)) := blk_alloc (blk_new w _) _
  have hE : ((w.alloc (.cells #[.string a1] 9)).alloc (.cells #[.string a2] 9)).heap[w.heap.size + 1]? = some (.cells #[.string a2] 9 (0, 0)) := by have := blk_new (w.alloc (.cells #[.string a1] 9)) (.cells #[.string a2] 9); simpa using this
  refine (HMAY.out _ hb0).mono ?_
  rintro e w1 ⟨rfl, hb1⟩
  have HB1 := Aside0.mk (below_step hb0 hb1)
  have HK1 := Aside0.mk (blk_below hK hb1)
  have HE1 := Aside0.mk (blk_below hE hb1)
  clear hb1 hb0 hK hE HMAY
  cases hm : mayP l0 with
  | false =>
    have HI := Aside0.mk (show delP l0 a1 a2 = [] by simp [delP, hm])
    clear hm
    go_wp2
    go_ret
    exact ⟨_, rfl, by rw [HI.out]; exact Kd.R_nil _ _ _ _ _, HB1.out⟩
  | true =>
    have HI := Aside0.mk (show delP l0 a1 a2 = keepP a1 a2 l0 by simp [delP, hm])
    clear hm
    go_wp2_with fail
    refine (HCL.out _ HB1.out).mono ?_
    rintro e w2 ⟨v, rfl, ho2, hb2⟩
    obtain ⟨A2, c2, rfl⟩ := own_slice ho2
    have HD := Aside0.mk (delfunc w a1 a2 w.heap.size (w.heap.size + 1) A2 c2 l0 w2 (below_step HB1.out hb2) (blk_below HK1.out hb2) (blk_below HE1.out hb2) (own_lower2 ho2 HB1.out.size) hl64)
    clear ho2 hb2 HB1 HK1 HE1 HCL
    go_wp2_with fail
    refine HD.out.mono ?_
    rintro e w3 ⟨A3, c3, rfl, ho3, hb3⟩
    have HO3 := Aside0.mk ho3
    have HB3 := Aside0.mk hb3
    clear ho3 hb3 HD
    go_wp2
    go_ret
    exact ⟨_, rfl, by rw [HI.out]; exact R_pair rfl HO3.out, HB3.out⟩
end Go.Proofs.YtmcddoolniaehaaGreat.S
end
section
namespace Go.Proofs.YtmcddoolniaehaaGreat.S
open Go.RowKit Go.Proofs.YtmcddoolniaehaaGreatW.PrintWords Go.Proofs.YtmcddoolniaehaaGreatW.PrintLast Go.Proofs.YtmcddoolniaehaaGreatW.PrintMore
attribute [local go_sem] max2_int min2_int max_two min_two max_three min_three max_four min_four   -- for this text's walks alone
set_option linter.unusedVariables false
set_option linter.unusedSimpArgs false

def reg_one.f (a0_0 : ByteArray) (a0_1 : ByteArray) (a0_2 : Int) (a0_3 : Int) (a0_4 : Int) : Option (Bool) := (ops_Key.f a0_0).bind fun t102 => (if t102 = true then ((ops_Key.f a0_1).bind fun t103 => (if t103 = true then (if a0_2 > 0 then (if a0_3 ≥ 0 then (if a0_3 < 8 then (some (decide (a0_4 > 0))) else (some false)) else (some false)) else (some false)) else (some false))) else (some false))
set_option maxHeartbeats 8000000 in
set_option maxRecDepth 100000 in
theorem reg_one.calls (a0_0 : ByteArray) (a0_1 : ByteArray) (a0_2 : Int) (a0_3 : Int) (a0_4 : Int) (r : Bool) (w : World) (h : reg_one.f a0_0 a0_1 a0_2 a0_3 a0_4 = some r) :
  Calls Tryz.prog 82 #[.agg #[.string a0_0, .string a0_1, .int .i64 a0_2, .int .i64 a0_3, .int .i64 a0_4]] w fun e w' => e = .returned (.bool r) ∧ Below w.heap.size w w' := by
 have hu47 := Tryz.underlying47
 have HB := Aside0.mk (Below.refl w.heap.size w)
 have H : ((ops_Key.f a0_0).bind fun t102 => (if t102 = true then ((ops_Key.f a0_1).bind fun t103 => (if t103 = true then (if a0_2 > 0 then (if a0_3 ≥ 0 then (if a0_3 < 8 then (some (decide (a0_4 > 0))) else (some false)) else (some false)) else (some false)) else (some false))) else (some false))) = some r := h
 clear h
 replace H := Option.bind_eq_some_iff.mp H
 obtain ⟨t102, A20, H⟩ := H
 replace H : (if t102 = true then ((ops_Key.f a0_1).bind fun t103 => (if t103 = true then (if a0_2 > 0 then (if a0_3 ≥ 0 then (if a0_3 < 8 then (some (decide (a0_4 > 0))) else (some false)) else (some false)) else (some false)) else (some false))) else (some false)) = some r := H
 have A2 := Aside0.mk A20
 clear A20
 by_cases c3 : t102 = true
 ·subst c3
  have H1 : ((ops_Key.f a0_1).bind fun t103 => (if t103 = true then (if a0_2 > 0 then (if a0_3 ≥ 0 then (if a0_3 < 8 then (some (decide (a0_4 > 0))) else (some false)) else (some false)) else (some false)) else (some false))) = some r := by rw [if_pos rfl] at H; exact H
  clear H
  have H := H1
  clear H1
  replace H := Option.bind_eq_some_iff.mp H
  obtain ⟨t103, A40, H⟩ := H
  replace H : (if t103 = true then (if a0_2 > 0 then (if a0_3 ≥ 0 then (if a0_3 < 8 then (some (decide (a0_4 > 0))) else (some false)) else (some false)) else (some false)) else (some false)) = some r := H
  have A4 := Aside0.mk A40
  clear A40
  by_cases c5 : t103 = true
  ·subst c5
   have H1 : (if a0_2 > 0 then (if a0_3 ≥ 0 then (if a0_3 < 8 then (some (decide (a0_4 > 0))) else (some false)) else (some false)) else (some false)) = some r := by rw [if_pos rfl] at H; exact H
   clear H
   have H := H1
   clear H1
   by_cases c6 : a0_2 > 0
   ·rw [if_pos c6] at H
    have c6b0 : decide (0 < a0_2) = true := decide_eq_true c6
    clear c6
    by_cases c7 : a0_3 ≥ 0
    ·rw [if_pos c7] at H
     have c7b0 : decide (0 ≤ a0_3) = true := decide_eq_true c7
     clear c7
     by_cases c8 : a0_3 < 8
     ·rw [if_pos c8] at H
      have c8b0 : decide (a0_3 < 8) = true := decide_eq_true c8
      clear c8
      obtain rfl := Option.some.inj H
      go_enter Tryz.func82, Tryz.ntmps82
      go_wp2_with (first | ((with_reducible refine gate_dst (N := 1) rfl ?_); refine box_event ?hg (N := 1) ?hd (cs := #[.string a0_0, .string a0_1, .int .i64 a0_2, .int .i64 a0_3, .int .i64 a0_4]) (t := 47) ?hr ?_; (case hd => rfl); (case hg => rfl); (case hr => first | (go_simp; done) | (go_simp; rfl)); intro gb101 hg w9 hbox hb; have n0_ := Aside0.mk (below_step (by repeat (first | (with_reducible first | exact HB.out | apply below_alloc | apply pw_below_drewN | apply below_drew1) | exact HB.out)) hb); have n1_ := Aside0.mk (hbox); have n2_ := Aside0.mk ((by rw [hg]; exact (below_size (by repeat (first | (with_reducible first | exact HB.out | apply below_alloc | apply pw_below_drewN | apply below_drew1) | exact HB.out))) : w.heap.size ≤ gb101)); have n3_ := Aside0.mk ((by rw [hg]; exact (below_size (by repeat (first | (with_reducible first | exact HB.out | apply below_alloc | apply pw_below_drewN | apply below_drew1) | exact HB.out))) : w.heap.size ≤ gb101)); clear HB; have HB := n0_; have BK101 := n1_; have GW101 := n2_; have GE101 := n3_; clear n0_ n1_ n2_ n3_; clear hb hbox hg; have hcz10_0 : w9.cell? ⟨gb101, 0, none⟩ = some (.string a0_0) := (blk_cell BK101.out 0).trans rfl; have hcz10_1 : w9.cell? ⟨gb101, 1, none⟩ = some (.string a0_1) := (blk_cell BK101.out 1).trans rfl; have hcz10_2 : w9.cell? ⟨gb101, 2, none⟩ = some (.int .i64 a0_2) := (blk_cell BK101.out 2).trans rfl; have hcz10_3 : w9.cell? ⟨gb101, 3, none⟩ = some (.int .i64 a0_3) := (blk_cell BK101.out 3).trans rfl; have hcz10_4 : w9.cell? ⟨gb101, 4, none⟩ = some (.int .i64 a0_4) := (blk_cell BK101.out 4).trans rfl; have hfz10_0 := blk_frozen BK101.out 0; have hfz10_1 := blk_frozen BK101.out 1; have hfz10_2 := blk_frozen BK101.out 2; have hfz10_3 := blk_frozen BK101.out 3; have hfz10_4 := blk_frozen BK101.out 4) | ((with_reducible refine gate_callee (f := 76) rfl ?_); refine goesL_ (some 5) rfl rfl Tryz.func76 (by kernel_rfl) rfl #[.string a0_0] rfl (by (try simp only [List.map_toArray, List.map_cons, List.map_nil]); first | done | rfl | (simp only [List.length_drop, List.length_take]; rfl)) ?_; (with_reducible refine (ops_Key.calls a0_0 true _ A2.out).mono ?_); rintro e w' ⟨rfl, ⟨nd, rfl⟩⟩; refine ⟨_, rfl, ?_⟩) | (go_at_call 76; (with_reducible refine (ops_Key.calls a0_1 true _ A4.out).mono ?_); rintro e w' ⟨rfl, ⟨nd, rfl⟩⟩))
      go_ret
      exact ⟨by first | rfl | (simp [errW_none, errW_some] <;> rfl) | (simp [*, errW_none, errW_some] <;> rfl), by repeat (first | (with_reducible first | exact HB.out | apply below_alloc | apply pw_below_drewN | apply below_drew1 | refine below_set ?_ GE101.out) | exact HB.out)⟩
     ·rw [if_neg c8] at H
      have c8b0 : decide (a0_3 < 8) = false := decide_eq_false c8
      clear c8
      obtain rfl := Option.some.inj H
      go_enter Tryz.func82, Tryz.ntmps82
      go_wp2_with (first | ((with_reducible refine gate_dst (N := 1) rfl ?_); refine box_event ?hg (N := 1) ?hd (cs := #[.string a0_0, .string a0_1, .int .i64 a0_2, .int .i64 a0_3, .int .i64 a0_4]) (t := 47) ?hr ?_; (case hd => rfl); (case hg => rfl); (case hr => first | (go_simp; done) | (go_simp; rfl)); intro gb101 hg w11 hbox hb; have n0_ := Aside0.mk (below_step (by repeat (first | (with_reducible first | exact HB.out | apply below_alloc | apply pw_below_drewN | apply below_drew1) | exact HB.out)) hb); have n1_ := Aside0.mk (hbox); have n2_ := Aside0.mk ((by rw [hg]; exact (below_size (by repeat (first | (with_reducible first | exact HB.out | apply below_alloc | apply pw_below_drewN | apply below_drew1) | exact HB.out))) : w.heap.size ≤ gb101)); have n3_ := Aside0.mk ((by rw [hg]; exact (below_size (by repeat (first | (with_reducible first | exact HB.out | apply below_alloc | apply pw_below_drewN | apply below_drew1) | exact HB.out))) : w.heap.size ≤ gb101)); clear HB; have HB := n0_; have BK101 := n1_; have GW101 := n2_; have GE101 := n3_; clear n0_ n1_ n2_ n3_; clear hb hbox hg; have hcz12_0 : w11.cell? ⟨gb101, 0, none⟩ = some (.string a0_0) := (blk_cell BK101.out 0).trans rfl; have hcz12_1 : w11.cell? ⟨gb101, 1, none⟩ = some (.string a0_1) := (blk_cell BK101.out 1).trans rfl; have hcz12_2 : w11.cell? ⟨gb101, 2, none⟩ = some (.int .i64 a0_2) := (blk_cell BK101.out 2).trans rfl; have hcz12_3 : w11.cell? ⟨gb101, 3, none⟩ = some (.int .i64 a0_3) := (blk_cell BK101.out 3).trans rfl; have hcz12_4 : w11.cell? ⟨gb101, 4, none⟩ = some (.int .i64 a0_4) := (blk_cell BK101.out 4).trans rfl; have hfz12_0 := blk_frozen BK101.out 0; have hfz12_1 := blk_frozen BK101.out 1; have hfz12_2 := blk_frozen BK101.out 2; have hfz12_3 := blk_frozen BK101.out 3; have hfz12_4 := blk_frozen BK101.out 4) | ((with_reducible refine gate_callee (f := 76) rfl ?_); refine goesL_ (some 5) rfl rfl Tryz.func76 (by kernel_rfl) rfl #[.string a0_0] rfl (by (try simp only [List.map_toArray, List.map_cons, List.map_nil]); first | done | rfl | (simp only [List.length_drop, List.length_take]; rfl)) ?_; (with_reducible refine (ops_Key.calls a0_0 true _ A2.out).mono ?_); rintro e w' ⟨rfl, ⟨nd, rfl⟩⟩; refine ⟨_, rfl, ?_⟩) | (go_at_call 76; (with_reducible refine (ops_Key.calls a0_1 true _ A4.out).mono ?_); rintro e w' ⟨rfl, ⟨nd, rfl⟩⟩))
      go_ret
      exact ⟨by first | rfl | (simp [errW_none, errW_some] <;> rfl) | (simp [*, errW_none, errW_some] <;> rfl), by repeat (first | (with_reducible first | exact HB.out | apply below_alloc | apply pw_below_drewN | apply below_drew1 | refine below_set ?_ GE101.out) | exact HB.out)⟩
    ·rw [if_neg c7] at H
     have c7b0 : decide (0 ≤ a0_3) = false := decide_eq_false c7
     clear c7
     obtain rfl := Option.some.inj H
     go_enter Tryz.func82, Tryz.ntmps82
     go_wp2_with (first | ((with_reducible refine gate_dst (N := 1) rfl ?_); refine box_event ?hg (N := 1) ?hd (cs := #[.string a0_0, .string a0_1, .int .i64 a0_2, .int .i64 a0_3, .int .i64 a0_4]) (t := 47) ?hr ?_; (case hd => rfl); (case hg => rfl); (case hr => first | (go_simp; done) | (go_simp; rfl)); intro gb101 hg w13 hbox hb; have n0_ := Aside0.mk (below_step (by repeat (first | (with_reducible first | exact HB.out | apply below_alloc | apply pw_below_drewN | apply below_drew1) | exact HB.out)) hb); have n1_ := Aside0.mk (hbox); have n2_ := Aside0.mk ((by rw [hg]; exact (below_size (by repeat (first | (with_reducible first | exact HB.out | apply below_alloc | apply pw_below_drewN | apply below_drew1) | exact HB.out))) : w.heap.size ≤ gb101)); have n3_ := Aside0.mk ((by rw [hg]; exact (below_size (by repeat (first | (with_reducible first | exact HB.out | apply below_alloc | apply pw_below_drewN | apply below_drew1) | exact HB.out))) : w.heap.size ≤ gb101)); clear HB; have HB := n0_; have BK101 := n1_; have GW101 := n2_; have GE101 := n3_; clear n0_ n1_ n2_ n3_; clear hb hbox hg; have hcz14_0 : w13.cell? ⟨gb101, 0, none⟩ = some (.string a0_0) := (blk_cell BK101.out 0).trans rfl; have hcz14_1 : w13.cell? ⟨gb101, 1, none⟩ = some (.string a0_1) := (blk_cell BK101.out 1).trans rfl; have hcz14_2 : w13.cell? ⟨gb101, 2, none⟩ = some (.int .i64 a0_2) := (blk_cell BK101.out 2).trans rfl; have hcz14_3 : w13.cell? ⟨gb101, 3, none⟩ = some (.int .i64 a0_3) := (blk_cell BK101.out 3).trans rfl; have hcz14_4 : w13.cell? ⟨gb101, 4, none⟩ = some (.int .i64 a0_4) := (blk_cell BK101.out 4).trans rfl; have hfz14_0 := blk_frozen BK101.out 0; have hfz14_1 := blk_frozen BK101.out 1; have hfz14_2 := blk_frozen BK101.out 2; have hfz14_3 := blk_frozen BK101.out 3; have hfz14_4 := blk_frozen BK101.out 4) | ((with_reducible refine gate_callee (f := 76) rfl ?_); refine goesL_ (some 5) rfl rfl Tryz.func76 (by kernel_rfl) rfl #[.string a0_0] rfl (by (try simp only [List.map_toArray, List.map_cons, List.map_nil]); first | done | rfl | (simp only [List.length_drop, List.length_take]; rfl)) ?_; (with_reducible refine (ops_Key.calls a0_0 true _ A2.out).mono ?_); rintro e w' ⟨rfl, ⟨nd, rfl⟩⟩; refine ⟨_, rfl, ?_⟩) | (go_at_call 76; (with_reducible refine (ops_Key.calls a0_1 true _ A4.out).mono ?_); rintro e w' ⟨rfl, ⟨nd, rfl⟩⟩))
     go_ret
     exact ⟨by first | rfl | (simp [errW_none, errW_some] <;> rfl) | (simp [*, errW_none, errW_some] <;> rfl), by repeat (first | (with_reducible first | exact HB.out | apply below_alloc | apply pw_below_drewN | apply below_drew1 | refine below_set ?_ GE101.out) | exact HB.out)⟩
   ·rw [if_neg c6] at H
    have c6b0 : decide (0 < a0_2) = false := decide_eq_false c6
    clear c6
    obtain rfl := Option.some.inj H
    go_enter Tryz.func82, Tryz.ntmps82
    go_wp2_with (first | ((with_reducible refine gate_dst (N := 1) rfl ?_); refine box_event ?hg (N := 1) ?hd (cs := #[.string a0_0, .string a0_1, .int .i64 a0_2, .int .i64 a0_3, .int .i64 a0_4]) (t := 47) ?hr ?_; (case hd => rfl); (case hg => rfl); (case hr => first | (go_simp; done) | (go_simp; rfl)); intro gb101 hg w15 hbox hb; have n0_ := Aside0.mk (below_step (by repeat (first | (with_reducible first | exact HB.out | apply below_alloc | apply pw_below_drewN | apply below_drew1) | exact HB.out)) hb); have n1_ := Aside0.mk (hbox); have n2_ := Aside0.mk ((by rw [hg]; exact (below_size (by repeat (first | (with_reducible first | exact HB.out | apply below_alloc | apply pw_below_drewN | apply below_drew1) | exact HB.out))) : w.heap.size ≤ gb101)); have n3_ := Aside0.mk ((by rw [hg]; exact (below_size (by repeat (first | (with_reducible first | exact HB.out | apply below_alloc | apply pw_below_drewN | apply below_drew1) | exact HB.out))) : w.heap.size ≤ gb101)); clear HB; have HB := n0_; have BK101 := n1_; have GW101 := n2_; have GE101 := n3_; clear n0_ n1_ n2_ n3_; clear hb hbox hg; have hcz16_0 : w15.cell? ⟨gb101, 0, none⟩ = some (.string a0_0) := (blk_cell BK101.out 0).trans rfl; have hcz16_1 : w15.cell? ⟨gb101, 1, none⟩ = some (.string a0_1) := (blk_cell BK101.out 1).trans rfl; have hcz16_2 : w15.cell? ⟨gb101, 2, none⟩ = some (.int .i64 a0_2) := (blk_cell BK101.out 2).trans rfl; have hcz16_3 : w15.cell? ⟨gb101, 3, none⟩ = some (.int .i64 a0_3) := (blk_cell BK101.out 3).trans rfl; have hcz16_4 : w15.cell? ⟨gb101, 4, none⟩ = some (.int .i64 a0_4) := (blk_cell BK101.out 4).trans rfl; have hfz16_0 := blk_frozen BK101.out 0; have hfz16_1 := blk_frozen BK101.out 1; have hfz16_2 := blk_frozen BK101.out 2; have hfz16_3 := blk_frozen BK101.out 3; have hfz16_4 := blk_frozen BK101.out 4) | ((with_reducible refine gate_callee (f := 76) rfl ?_); refine goesL_ (some 5) rfl rfl Tryz.func76 (by kernel_rfl) rfl #[.string a0_0] rfl (by (try simp only [List.map_toArray, List.map_cons, List.map_nil]); first | done | rfl | (simp only [List.length_drop, List.length_take]; rfl)) ?_; (with_reducible refine (ops_Key.calls a0_0 true _ A2.out).mono ?_); rintro e w' ⟨rfl, ⟨nd, rfl⟩⟩; refine ⟨_, rfl, ?_⟩) | (go_at_call 76; (with_reducible refine (ops_Key.calls a0_1 true _ A4.out).mono ?_); rintro e w' ⟨rfl, ⟨nd, rfl⟩⟩))
    go_ret
    exact ⟨by first | rfl | (simp [errW_none, errW_some] <;> rfl) | (simp [*, errW_none, errW_some] <;> rfl), by repeat (first | (with_reducible first | exact HB.out | apply below_alloc | apply pw_below_drewN | apply below_drew1 | refine below_set ?_ GE101.out) | exact HB.out)⟩
  ·replace c5 := Bool.eq_false_iff.mpr c5
   subst c5
   have H1 : (some false) = some r := by rw [if_neg (show ¬ (false = true) by decide)] at H; exact H
   clear H
   have H := H1
   clear H1
   obtain rfl := Option.some.inj H
   go_enter Tryz.func82, Tryz.ntmps82
   go_wp2_with (first | ((with_reducible refine gate_dst (N := 1) rfl ?_); refine box_event ?hg (N := 1) ?hd (cs := #[.string a0_0, .string a0_1, .int .i64 a0_2, .int .i64 a0_3, .int .i64 a0_4]) (t := 47) ?hr ?_; (case hd => rfl); (case hg => rfl); (case hr => first | (go_simp; done) | (go_simp; rfl)); intro gb101 hg w17 hbox hb; have n0_ := Aside0.mk (below_step (by repeat (first | (with_reducible first | exact HB.out | apply below_alloc | apply pw_below_drewN | apply below_drew1) | exact HB.out)) hb); have n1_ := Aside0.mk (hbox); have n2_ := Aside0.mk ((by rw [hg]; exact (below_size (by repeat (first | (with_reducible first | exact HB.out | apply below_alloc | apply pw_below_drewN | apply below_drew1) | exact HB.out))) : w.heap.size ≤ gb101)); have n3_ := Aside0.mk ((by rw [hg]; exact (below_size (by repeat (first | (with_reducible first | exact HB.out | apply below_alloc | apply pw_below_drewN | apply below_drew1) | exact HB.out))) : w.heap.size ≤ gb101)); clear HB; have HB := n0_; have BK101 := n1_; have GW101 := n2_; have GE101 := n3_; clear n0_ n1_ n2_ n3_; clear hb hbox hg; have hcz18_0 : w17.cell? ⟨gb101, 0, none⟩ = some (.string a0_0) := (blk_cell BK101.out 0).trans rfl; have hcz18_1 : w17.cell? ⟨gb101, 1, none⟩ = some (.string a0_1) := (blk_cell BK101.out 1).trans rfl; have hcz18_2 : w17.cell? ⟨gb101, 2, none⟩ = some (.int .i64 a0_2) := (blk_cell BK101.out 2).trans rfl; have hcz18_3 : w17.cell? ⟨gb101, 3, none⟩ = some (.int .i64 a0_3) := (blk_cell BK101.out 3).trans rfl; have hcz18_4 : w17.cell? ⟨gb101, 4, none⟩ = some (.int .i64 a0_4) := (blk_cell BK101.out 4).trans rfl; have hfz18_0 := blk_frozen BK101.out 0; have hfz18_1 := blk_frozen BK101.out 1; have hfz18_2 := blk_frozen BK101.out 2; have hfz18_3 := blk_frozen BK101.out 3; have hfz18_4 := blk_frozen BK101.out 4) | ((with_reducible refine gate_callee (f := 76) rfl ?_); refine goesL_ (some 5) rfl rfl Tryz.func76 (by kernel_rfl) rfl #[.string a0_0] rfl (by (try simp only [List.map_toArray, List.map_cons, List.map_nil]); first | done | rfl | (simp only [List.length_drop, List.length_take]; rfl)) ?_; (with_reducible refine (ops_Key.calls a0_0 true _ A2.out).mono ?_); rintro e w' ⟨rfl, ⟨nd, rfl⟩⟩; refine ⟨_, rfl, ?_⟩) | (go_at_call 76; (with_reducible refine (ops_Key.calls a0_1 false _ A4.out).mono ?_); rintro e w' ⟨rfl, ⟨nd, rfl⟩⟩))
   go_ret
   exact ⟨by first | rfl | (simp [errW_none, errW_some] <;> rfl) | (simp [*, errW_none, errW_some] <;> rfl), by repeat (first | (with_reducible first | exact HB.out | apply below_alloc | apply pw_below_drewN | apply below_drew1 | refine below_set ?_ GE101.out) | exact HB.out)⟩
 ·replace c3 := Bool.eq_false_iff.mpr c3
  subst c3
  have H1 : (some false) = some r := by rw [if_neg (show ¬ (false = true) by decide)] at H; exact H
  clear H
  have H := H1
  clear H1
  obtain rfl := Option.some.inj H
  go_enter Tryz.func82, Tryz.ntmps82
  go_wp2_with (first | ((with_reducible refine gate_dst (N := 1) rfl ?_); refine box_event ?hg (N := 1) ?hd (cs := #[.string a0_0, .string a0_1, .int .i64 a0_2, .int .i64 a0_3, .int .i64 a0_4]) (t := 47) ?hr ?_; (case hd => rfl); (case hg => rfl); (case hr => first | (go_simp; done) | (go_simp; rfl)); intro gb101 hg w19 hbox hb; have n0_ := Aside0.mk (below_step (by repeat (first | (with_reducible first | exact HB.out | apply below_alloc | apply pw_below_drewN | apply below_drew1) | exact HB.out)) hb); have n1_ := Aside0.mk (hbox); have n2_ := Aside0.mk ((by rw [hg]; exact (below_size (by repeat (first | (with_reducible first | exact HB.out | apply below_alloc | apply pw_below_drewN | apply below_drew1) | exact HB.out))) : w.heap.size ≤ gb101)); have n3_ := Aside0.mk ((by rw [hg]; exact (below_size (by repeat (first | (with_reducible first | exact HB.out | apply below_alloc | apply pw_below_drewN | apply below_drew1) | exact HB.out))) : w.heap.size ≤ gb101)); clear HB; have HB := n0_; have BK101 := n1_; have GW101 := n2_; have GE101 := n3_; clear n0_ n1_ n2_ n3_; clear hb hbox hg; have hcz20_0 : w19.cell? ⟨gb101, 0, none⟩ = some (.string a0_0) := (blk_cell BK101.out 0).trans rfl; have hcz20_1 : w19.cell? ⟨gb101, 1, none⟩ = some (.string a0_1) := (blk_cell BK101.out 1).trans rfl; have hcz20_2 : w19.cell? ⟨gb101, 2, none⟩ = some (.int .i64 a0_2) := (blk_cell BK101.out 2).trans rfl; have hcz20_3 : w19.cell? ⟨gb101, 3, none⟩ = some (.int .i64 a0_3) := (blk_cell BK101.out 3).trans rfl; have hcz20_4 : w19.cell? ⟨gb101, 4, none⟩ = some (.int .i64 a0_4) := (blk_cell BK101.out 4).trans rfl; have hfz20_0 := blk_frozen BK101.out 0; have hfz20_1 := blk_frozen BK101.out 1; have hfz20_2 := blk_frozen BK101.out 2; have hfz20_3 := blk_frozen BK101.out 3; have hfz20_4 := blk_frozen BK101.out 4) | ((with_reducible refine gate_callee (f := 76) rfl ?_); refine goesL_ (some 5) rfl rfl Tryz.func76 (by kernel_rfl) rfl #[.string a0_0] rfl (by (try simp only [List.map_toArray, List.map_cons, List.map_nil]); first | done | rfl | (simp only [List.length_drop, List.length_take]; rfl)) ?_; (with_reducible refine (ops_Key.calls a0_0 false _ A2.out).mono ?_); rintro e w' ⟨rfl, ⟨nd, rfl⟩⟩; refine ⟨_, rfl, ?_⟩))
  go_ret
  exact ⟨by first | rfl | (simp [errW_none, errW_some] <;> rfl) | (simp [*, errW_none, errW_some] <;> rfl), by repeat (first | (with_reducible first | exact HB.out | apply below_alloc | apply pw_below_drewN | apply below_drew1 | refine below_set ?_ GE101.out) | exact HB.out)⟩

end Go.Proofs.YtmcddoolniaehaaGreat.S
end
