/- reg.with: registers with some more. By hand: slices.Clone, and the loop that puts them in. -/
import Derived.Test.YtannmdngejdjkaaLHRegPlain
namespace Go.Proofs.Ytannmdngejdjkaa.L
open Go.RowKit Go.Proofs.YtannmdngejdjkaaW.PrintWords Go.Proofs.YtannmdngejdjkaaW.PrintLast Go.Proofs.YtannmdngejdjkaaW.PrintMore Go.Proofs.YtannmdngejdjkaaW
set_option linter.unusedVariables false
set_option linter.unusedSimpArgs false
set_option maxHeartbeats 1000000 in
theorem reg_clone (A0 : Option Addr) (c0 : Nat) (l0 : List S26) (w : World) (hr0 : Kd.C k26 w A0 l0.length l0) (hlim : l0.length * 56 ≤ 140737488355328) :
    Calls Try.prog 86 #[.slice A0 l0.length c0] w fun e w' => ∃ v, e = .returned v ∧ w'.ownsRow w.heap.size 26 5 v l0.length (regRow l0) ∧ Below w.heap.size w w' := by
  have hnil := fun (W : World) (a : Option Addr) (n c : Nat) => Lib.run_eql_slice_nil (P := Try.prog) W 22 26 a n c 0 0 Try.underlying22
  rcases A0 with _ | a
  · have h0 : l0.length = 0 := by
      rcases Nat.eq_zero_or_pos l0.length with h | h
      · exact h
      · obtain ⟨ad, h', _⟩ := hr0.2.2 h
        cases h'
    obtain rfl := List.eq_nil_of_length_eq_zero h0
    clear hr0
    go_enter Try.func86, Try.ntmps86
    go_wp2
    go_ret
    exact ⟨_, rfl, own_nil _ _ _ _, Below.refl _ _⟩
  · obtain ⟨i0, hi, hz0, hz1, hz2⟩ := info_parts info26
    have hemp : (w.alloc (.cells #[] 26)).ownsRow w.heap.size 26 5 (.slice (some ⟨w.heap.size, 0, none⟩) 0 0) 0 [] := by
      have h := World.ownsRow_lit (base := w.heap.size) (e := 26) (size := 5) w #[] 0 (Nat.le_refl _) (Nat.zero_le _) (by simp)
      simpa using h
    have hnews := C_news (d := k26) (enc := regCells) regCells_length (fun h => k26_open h) (Kd.C_below hr0 (below_alloc (Below.refl w.heap.size w) (.cells #[] 26)))
    obtain ⟨v', w', hr, ho, hg, _, hat⟩ := run_append_own_at (P := Try.prog) (w := w.alloc (.cells #[] 26)) w.heap.size 22 22 26 i0 _ 5 56 Try.underlying22 hi hz0 hz1 hz2 (by rfl) (by omega) _ 0 [] hemp a l0.length c0 (regRow l0)
      (flat_length (enc := regCells) (sz := 5) (fun _ => rfl) l0) hnews (flat_one regCells_one l0) (by unfold maxLen; omega) (by omega) (by simp)
    have HO := Aside0.mk ho
    have HB := Aside0.mk ((below_alloc (Below.refl w.heap.size w) (.cells #[] 26)).grown hg (by simp) (own_base hemp))
    clear hr0 ho hg hat hemp hnews hi hz0 hz1 hz2
    go_enter Try.func86, Try.ntmps86
    go_wp2_with (at_builtin; refine Lib.wpList_append_run _ rfl _ _ _ _ rfl _ _ rfl rfl _ _ hr ?_)
    go_ret
    exact ⟨_, rfl, by simpa using HO.out, HB.out⟩
theorem lim_le {a b c k : Nat} (h : (a + b + 1) * 56 ≤ 140737488355328) (h1 : c ≤ a + k) (h2 : k < b) : (c + 1) * 56 ≤ 140737488355328 := Nat.le_trans (Nat.mul_le_mul_right 56 (show c + 1 ≤ a + b + 1 by omega)) h
/-- reg.with, as a function of lists -/
def reg_with.f (l0 : List (S26)) (l1 : List (S26)) : Option ((List (S26))) :=
  if regUpB l0 = true ∧ (l0.length + l1.length + 1) * 56 ≤ 140737488355328 then some (l1.foldl putL l0) else none
set_option maxHeartbeats 4000000 in
set_option maxRecDepth 100000 in
theorem reg_with.calls (A0 : Option Addr) (c0 : Nat) (l0 : List (S26)) (A1 : Option Addr) (c1 : Nat) (l1 : List (S26)) (r : List (S26)) (w : World) (hr0 : Kd.C k26 w A0 l0.length l0) (hc0 : l0.length ≤ c0) (hr1 : Kd.C k26 w A1 l1.length l1) (hc1 : l1.length ≤ c1) (h : reg_with.f l0 l1 = some r) :
    Calls Try.prog 63 #[.slice A0 l0.length c0, .slice A1 l1.length c1] w fun e w' => ∃ v0_ : Value, e = .returned (v0_) ∧ Kd.R k26 26 w' w.heap.size (fun _ => True) v0_ r ∧ Below w.heap.size w w' := by
  unfold reg_with.f at h
  split at h
  case isFalse => cases h
  case isTrue hh =>
  cases h
  have HUP := Aside0.mk (regUpB_up l0 hh.1)
  have hlim := hh.2
  have HCL := Aside0.mk (reg_clone A0 c0 l0 w hr0 (by omega))
  have HR1 := Aside0.mk hr1
  clear hr0 hh hr1
  go_enter Try.func63, Try.ntmps63
  go_wp2_with fail
  refine HCL.out.mono ?_
  rintro e w1 ⟨v0, rfl, ho1, hb1⟩
  obtain ⟨A, c, rfl⟩ := own_slice ho1
  have HO1 := Aside0.mk ho1
  have HB1 := Aside0.mk hb1
  have hszw := hb1.size
  have hgbn : (Value.slice A l0.length c).ownBlock ≠ some w1.heap.size := fun e => by have := own_lt HO1.out _ e; omega
  clear hb1 ho1 HCL
  have hu := Try.underlying22
  go_wp2
  go_loopw [14] (fun i wr => ∃ k : Nat, k ≤ l1.length ∧ i = .int .i64 k ∧ Aside0 (∃ v, wr.heap[w1.heap.size]? = some (.cells #[v] 94 (0, 0)) ∧ wr.ownsRow w.heap.size 26 5 v ((l1.take k).foldl putL l0).length (regRow ((l1.take k).foldl putL l0))) ∧ Aside0 (Below w.heap.size w wr)) (fun i _ => l1.length - (intOf i).toNat)
  case atStart => exact ⟨0, Nat.zero_le _, rfl, ⟨_, blk_new _ _, by simpa using HO1.out.alloc _⟩, ⟨below_alloc HB1.out _⟩⟩
  case round =>
    obtain ⟨k, hk, rfl, ⟨v, hg, ho⟩, HB⟩ := hrel
    obtain ⟨A', c', rfl⟩ := own_slice ho
    revert hg ho
    generalize hcur : (l1.take k).foldl putL l0 = cur
    intro hg ho
    by_cases hlt : k < l1.length
    · obtain ⟨ad, e, hx0, hx1, hx2, hx3, hx4⟩ := at_T26 HR1.out k (by omega) (by omega)
      cases e
      replace hx0 := (HB.out.cell (World.block_lt_of_cell? w _ hx0)).trans hx0
      replace hx1 := (HB.out.cell (World.block_lt_of_cell? w _ hx1)).trans hx1
      replace hx2 := (HB.out.cell (World.block_lt_of_cell? w _ hx2)).trans hx2
      replace hx3 := (HB.out.cell (World.block_lt_of_cell? w _ hx3)).trans hx3
      replace hx4 := (HB.out.cell (World.block_lt_of_cell? w _ hx4)).trans hx4
      simp only [Int.toNat_natCast, add_plain] at hx0 hx1 hx2 hx3 hx4
      have hglt := blk_lt hg
      have hup := (regUp_iff _).2 (foldl_up (l1.take k) l0 HUP.out)
      have hlen := foldl_length (l1.take k) l0
      have hlen2 : (l1.take k).length = k := by simp; omega
      have HT := take_foldl l1 l0 k hlt
      rw [hcur] at hup hlen HT
      have HT := Aside0.mk HT
      have hl56 : (cur.length + 1) * 56 ≤ 140737488355328 := lim_le hlim (hlen2 ▸ hlen) hlt
      have HP := Aside0.mk (fun (W : World) (h1 : Below w.heap.size w W) (h2 : W.heap[w1.heap.size]? = some (.cells #[.slice A' cur.length c'] 94 (0, 0))) (h3 : W.ownsRow w.heap.size 26 5 (.slice A' cur.length c') cur.length (regRow cur)) => put_calls w w1.heap.size (.slice A' cur.length c') cur (rd_T26 l1 (k : Nat)) W h1 hszw h2 h3 hup hl56)
      have HG := Aside0.mk hg
      have HO := Aside0.mk ho
      clear hg ho hup hlen hlen2 hcur
      go_wp2_with fail
      refine (HP.out _ (below_alloc HB.out _) (blk_alloc HG.out _) (HO.out.alloc _)).mono ?_
      rintro e w2 ⟨rfl, v', hg2, ho2, hb2⟩
      rw [← HT.out] at ho2
      have HA : Aside0 (∃ v, w2.heap[w1.heap.size]? = some (.cells #[v] 94 (0, 0)) ∧ w2.ownsRow w.heap.size 26 5 v ((l1.take (k + 1)).foldl putL l0).length (regRow ((l1.take (k + 1)).foldl putL l0))) := ⟨v', hg2, ho2⟩
      have HB2 := Aside0.mk hb2
      clear hg2 ho2 hb2 HP HG HO HT hx0 hx1 hx2 hx3 hx4 HB HR1
      go_wp2
      go_roundw
      case rel => exact ⟨k + 1, by omega, by go_num, HA, HB2⟩
      case measure => simp [intOf]; omega
    · have HT := Aside0.mk (show cur = l1.foldl putL l0 by rw [← hcur, List.take_of_length_le (by omega)])
      have HG := Aside0.mk hg
      have HO := Aside0.mk ho
      have hgc : wr.cell? ⟨w1.heap.size, 0, none⟩ = some (.slice A' cur.length c') := blk_cell hg 0
      clear hg ho hcur
      go_wp2
      go_ret
      exact ⟨_, rfl, by rw [← HT.out]; exact R_reg HO.out, HB.out⟩
end Go.Proofs.Ytannmdngejdjkaa.L
