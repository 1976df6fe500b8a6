/- ref19.Has at ints; ints appended to a row of the call's own. By hand. -/
import Derived.Test.YtameeejfkgoheaaPNJoin
namespace Go.Proofs.Ytameeejfkgoheaa.P
open Go.RowKit Go.Proofs.YtameeejfkgoheaaW.PrintWords Go.Proofs.YtameeejfkgoheaaW.PrintLast Go.Proofs.YtameeejfkgoheaaW.PrintMore Go.Proofs.YtameeejfkgoheaaW
set_option linter.unusedVariables false
set_option linter.unusedSimpArgs false
theorem info_int : ∃ i, Try.prog.info? 3 = some i ∧ i.zero = some (.int .i64 0) ∧ i.size = 1 ∧ i.bytes = 8 := by
  have h : (Try.prog.info? 3).map (fun i => (i.zero, i.size, i.bytes)) = some (some (.int .i64 0), 1, 8) := by kernel_rfl
  cases hi : Try.prog.info? 3 with
  | none => simp [hi] at h
  | some i =>
    simp only [hi, Option.map_some, Option.some.injEq, Prod.mk.injEq] at h
    exact ⟨i, rfl, h.1, h.2.1, h.2.2⟩
theorem news_P {w : World} {ad : Addr} {n : Nat} {l : List Int} (h : Kd.C kP w (some ad) n l) : ∀ j u, (encI1 l)[j]? = some u → w.cell? (ad.add j) = some u := by
  intro j u hu
  have hj : j < l.length := by have := (List.getElem?_eq_some_iff.1 hu).1; simpa using this
  have := (RdI_of h).at j hj
  rw [this]
  rw [List.getElem?_map, List.getElem?_eq_getElem hj] at hu
  rw [List.getD_eq_getElem?_getD, List.getElem?_eq_getElem hj]
  simpa using hu
theorem append_nil_P (w : World) (ty : TypeId) {base n : Nat} {v : Value} {xs : List Value} (hown : w.ownsRow base 3 1 v n xs) (c : Nat) : (Builtin.append_ #[28, 28] ty #[v, .slice none 0 c]).run Try.prog w = .ok v w := by
  obtain ⟨i0, hi, hz0, hz1, hz2⟩ := info_int
  rcases hown.2 with ⟨rfl, rfl⟩ | ⟨g, cap, cur, rfl, _, _, hnc, _⟩
  · simp [Builtin.append_, run_underlying Try.underlying28, sizeOf, typeInfo, hi, Builtin.lenOf, Builtin.firstCells]
  · simp [Builtin.append_, run_underlying Try.underlying28, sizeOf, typeInfo, hi, Builtin.lenOf, Builtin.firstCells, hnc, storeCells, Result.andThen]
theorem app_P (w : World) (ty : TypeId) {base : Nat} {v : Value} {l1 : List Int} (ho : w.ownsRow base 3 1 v l1.length (encI1 l1)) (A : Option Addr) (c : Nat) (l2 : List Int) (hC : Kd.C kP w A l2.length l2) (hlim : (l1.length + l2.length) * 8 ≤ 140737488355328) (hbase : base ≤ w.heap.size) :
    ∃ v' w', (Builtin.append_ #[28, 28] ty #[v, .slice A l2.length c]).run Try.prog w = .ok v' w' ∧ w'.ownsRow base 3 1 v' (l1 ++ l2).length (encI1 (l1 ++ l2)) ∧ w.grownBy w' v.ownBlock ∧ (∃ A' c', v' = .slice A' (l1 ++ l2).length c') := by
  rcases A with _ | a
  · have h0 : l2.length = 0 := by
      rcases Nat.eq_zero_or_pos l2.length with h | h
      · exact h
      · obtain ⟨ad, h', _⟩ := hC.2.2 h
        cases h'
    obtain rfl := List.eq_nil_of_length_eq_zero h0
    obtain ⟨A', c', rfl⟩ := own_slice ho
    exact ⟨_, w, append_nil_P w ty ho c, by rw [List.append_nil]; exact ho, World.grownBy.refl _ _, A', c', by rw [List.append_nil]⟩
  · obtain ⟨i0, hi, hz0, hz1, hz2⟩ := info_int
    obtain ⟨v', w', hr, ho', hg, _, hat⟩ := run_append_own_at (P := Try.prog) (w := w) base 28 ty 3 i0 _ 1 8 Try.underlying28 hi hz0 hz1 hz2 rfl (by omega) v l1.length (encI1 l1) ho a l2.length c (encI1 l2)
      (by simp) (news_P hC) (fun u hu => by obtain ⟨b, _, rfl⟩ := List.mem_map.1 hu; rfl) (by unfold maxLen; omega) (by omega) hbase
    have ho2 : w'.ownsRow base 3 1 v' (l1 ++ l2).length (encI1 (l1 ++ l2)) := by rw [List.length_append]; unfold encI1; rw [List.map_append]; exact ho'
    obtain ⟨A', c', rfl⟩ := own_slice ho2
    exact ⟨_, w', hr, ho2, hg, A', c', rfl⟩
theorem C_one {w : World} {g : Nat} {p : Int} (hb : w.heap[g]? = some (.cells #[.int .i64 p] 3 (0, 0))) : Kd.C kP w (some ⟨g, 0, none⟩) [p].length [p] := by
  refine ⟨rfl, by simp, fun _ => ⟨_, rfl, fun j q hj => ?_⟩⟩
  have hj0 : j = 0 := by have := (List.getElem?_eq_some_iff.1 hj).1; simp at this; omega
  subst hj0
  obtain rfl : p = q := by simpa using hj
  refine ⟨[.int .i64 p], rfl, rfl, fun i u hi => ?_⟩
  have hi0 : i = 0 := by have := (List.getElem?_eq_some_iff.1 hi).1; simp at this; omega
  subst hi0
  obtain rfl : Value.int .i64 p = u := by simpa using hi
  rw [add_spot, blk_cell hb]
  rfl
set_option maxHeartbeats 1000000 in
set_option maxRecDepth 100000 in
theorem rhasP_calls (A0 : Option Addr) (c0 : Nat) (l : List Int) (p : Int) (w : World) (hr0 : Kd.C kP w A0 l.length l) :
    Calls Try.prog 14 #[.slice A0 l.length c0, .int .i64 p] w fun e w' => e = .returned (.bool (l.contains p)) ∧ Below w.heap.size w w' := by
  have HR := Aside0.mk hr0
  have HL := Aside0.mk hr0.2.1
  clear hr0
  generalize hQ : l.contains p = Q
  have HQ := Aside0.mk hQ
  clear hQ
  go_enter Try.func14, Try.ntmps14
  go_wp2
  go_loopw [5] (fun i wr => ∃ k : Nat, k ≤ l.length ∧ i = .int .i64 k ∧ Aside0 (p ∉ l.take k) ∧ Aside0 (Below w.heap.size w wr)) (fun i _ => l.length - (intOf i).toNat)
  case atStart => exact ⟨0, Nat.zero_le _, rfl, ⟨by simp⟩, ⟨Below.refl _ _⟩⟩
  case round =>
    obtain ⟨k, hk, rfl, hN, HB⟩ := hrel
    by_cases hlt : k < l.length
    · obtain ⟨b, o, rfl⟩ := at_P HR.out (by omega)
      have hx := cell_P (Kd.C_below HR.out HB.out) k hlt
      have hl63 := HL.out
      have hN2 : Aside0 (p ≠ l.getD k 0 → p ∉ l.take (k + 1)) := ⟨fun hne => by
        rw [List.take_succ_eq_append_getElem hlt, List.mem_append]
        rintro (h | h)
        · exact hN.out h
        · rw [List.getD_eq_getElem?_getD, List.getElem?_eq_getElem hlt] at hne
          exact hne (by simpa using h)⟩
      have hM : Aside0 (p = l.getD k 0 → Q = true) := ⟨fun e => by
        rw [← HQ.out, List.contains_iff_mem, e, List.getD_eq_getElem?_getD, List.getElem?_eq_getElem hlt]; exact List.getElem_mem _⟩
      generalize l.getD k 0 = y at *
      have hk0 : (0 : Int) ≤ (k : Int) := Int.natCast_nonneg _
      have hk1 : (k : Int) < (l.length : Int) := by omega
      have HBd := Aside0.mk (below_drew HB.out)
      by_cases hpy : y = p
      · have hqt := hM.out hpy.symm
        clear hN2 hM
        go_wp2
        go_ret
        exact ⟨by first | rfl | (rw [hqt]; rfl), by first | exact HB.out | exact HBd.out⟩
      · have HN3 := Aside0.mk (hN2.out (fun e => hpy e.symm))
        clear hN2 hM
        go_wp2
        go_roundw
        case rel => exact ⟨k + 1, by omega, by go_num, HN3, by first | exact HB | exact HBd⟩
        case measure => simp [intOf]; omega
    · have hqf : Q = false := by
        have hn := hN.out
        rw [List.take_of_length_le (by omega)] at hn
        rw [← HQ.out]
        simpa using hn
      go_wp2
      go_ret
      exact ⟨by first | rfl | (rw [hqf]; rfl), HB.out⟩
end Go.Proofs.Ytameeejfkgoheaa.P
