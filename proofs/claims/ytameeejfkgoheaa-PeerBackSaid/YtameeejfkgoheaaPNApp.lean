/- Ids appended to a row of the call's own. Plain. -/
import Derived.Test.YtameeejfkgoheaaPNKind
import Derived.Maps.AppendAt
import Derived.Lib.AppendZeros
import Derived.Lib.AppendStr
import Derived.Lib.SliceRun
namespace Go.Proofs.Ytameeejfkgoheaa.P
open Go.RowKit Go.Proofs.YtameeejfkgoheaaW.PrintWords Go.Proofs.YtameeejfkgoheaaW.PrintLast Go.Proofs.YtameeejfkgoheaaW.PrintMore Go.Proofs.YtameeejfkgoheaaW
set_option linter.unusedVariables false
set_option linter.unusedSimpArgs false
theorem info_app : ∃ i z, Try.prog.info? 71 = some i ∧ i.zero = some z ∧ i.size = 32 ∧ i.bytes = 32 ∧ z.cells.size = 32 := by
  have h : (Try.prog.info? 71).map (fun i => (i.zero.map (fun z => z.cells.size), i.size, i.bytes)) = some (some 32, 32, 32) := by kernel_rfl
  cases hi : Try.prog.info? 71 with
  | none => simp [hi] at h
  | some i =>
    simp only [hi, Option.map_some, Option.some.injEq, Prod.mk.injEq] at h
    obtain ⟨h1, h2, h3⟩ := h
    obtain ⟨z, hz, hs⟩ := Option.map_eq_some_iff.1 h1
    exact ⟨i, z, rfl, hz, h2, h3, hs⟩
theorem grown_of_below {w w1 : World} (h : Below w.heap.size w w1) : w.grownBy w1 none := ⟨h.os, h.tape, h.output, h.size, fun i hi _ => h.block i hi⟩
theorem own_below {w w1 : World} {base : Nat} {e : TypeId} {size n : Nat} {v : Value} {xs : List Value} (h : w.ownsRow base e size v n xs) (hb : Below w.heap.size w w1) : w1.ownsRow base e size v n xs := own_move h (fun k hk => hb.block k (own_lt h k hk))
theorem append_nil_src (w : World) (ty : TypeId) {base n : Nat} {v : Value} {xs : List Value} (hown : w.ownsRow base 71 32 v n xs) (c : Nat) : (Builtin.append_ #[58, 58] ty #[v, .slice none 0 c]).run Try.prog w = .ok v w := by
  obtain ⟨i0, z0, hi, hz0, hz1, hz2, hz3⟩ := info_app
  rcases hown.2 with ⟨rfl, rfl⟩ | ⟨g, cap, cur, rfl, _, _, hnc, _⟩
  · simp [Builtin.append_, run_underlying Try.underlying58, sizeOf, typeInfo, hi, Builtin.lenOf, Builtin.firstCells]
  · simp [Builtin.append_, run_underlying Try.underlying58, sizeOf, typeInfo, hi, Builtin.lenOf, Builtin.firstCells, hnc, storeCells, Result.andThen]
theorem rowI_one (l : List Id) : ∀ u ∈ rowI l, u.oneCell' = true := by
  intro u hu
  obtain ⟨x, _, hx⟩ := List.mem_flatMap.1 hu
  exact cellsI_one x u hx
theorem rowI_get : ∀ (ps : List Id), (∀ x ∈ ps, okId x) → ∀ (m : Nat) (u : Value), (rowI ps)[m]? = some u → ∃ j i p, m = j * 32 + i ∧ ps[j]? = some p ∧ (cellsI p)[i]? = some u
  | [], _, m, u, h => by simp [rowI] at h
  | x :: ps, hok, m, u, h => by
    have hcl := cellsI_ok (hok x List.mem_cons_self)
    unfold rowI at h
    rw [List.flatMap_cons] at h
    rcases Nat.lt_or_ge m 32 with hm | hm
    · rw [List.getElem?_append_left (by rw [hcl]; exact hm)] at h
      exact ⟨0, m, x, by omega, rfl, h⟩
    · rw [List.getElem?_append_right (by rw [hcl]; exact hm), hcl] at h
      obtain ⟨j, i, p, h1, h2, h3⟩ := rowI_get ps (fun y hy => hok y (List.mem_cons_of_mem _ hy)) (m - 32) u h
      exact ⟨j + 1, i, p, by rw [Nat.add_mul]; omega, by simpa using h2, h3⟩
theorem C_newsI {w : World} {ad : Addr} {n : Nat} {xs : List Id} (h : Kd.C kI w (some ad) n xs) : ∀ j u, (rowI xs)[j]? = some u → w.cell? (ad.add j) = some u := by
  intro m u hm
  obtain ⟨j, i, p, h1, h2, h3⟩ := rowI_get xs (C_ok h) m u hm
  have hj := (List.getElem?_eq_some_iff.1 h2).1
  have hn : 0 < n := by rw [← h.1]; omega
  obtain ⟨ad', e, hc⟩ := h.2.2 hn
  cases e
  obtain ⟨c, hcl, ⟨rfl, _⟩, hcc⟩ := hc j p h2
  rw [h1]
  exact hcc i u h3
theorem app_ids (w : World) (ty : TypeId) {base : Nat} {v : Value} {l1 : List Id} (ho : w.ownsRow base 71 32 v l1.length (rowI l1)) (A : Option Addr) (c : Nat) (l2 : List Id) (hC : Kd.C kI w A l2.length l2) (hlim : (l1.length + l2.length) * 32 ≤ 140737488355328) (hbase : base ≤ w.heap.size) :
    ∃ v' w', (Builtin.append_ #[58, 58] ty #[v, .slice A l2.length c]).run Try.prog w = .ok v' w' ∧ w'.ownsRow base 71 32 v' (l1 ++ l2).length (rowI (l1 ++ l2)) ∧ w.grownBy w' v.ownBlock ∧ (∃ A' c', v' = .slice A' (l1 ++ l2).length c') := by
  rcases A with _ | a
  · have h0 : l2.length = 0 := by
      rcases Nat.eq_zero_or_pos l2.length with h | h
      · exact h
      · obtain ⟨ad, h', _⟩ := hC.2.2 h
        cases h'
    obtain rfl := List.eq_nil_of_length_eq_zero h0
    obtain ⟨A', c', rfl⟩ := own_slice ho
    exact ⟨_, w, append_nil_src w ty ho c, by rw [List.append_nil]; exact ho, World.grownBy.refl _ _, A', c', by rw [List.append_nil]⟩
  · obtain ⟨i0, z0, hi, hz0, hz1, hz2, hz3⟩ := info_app
    have hnews := C_newsI hC
    have hok2 := C_ok hC
    obtain ⟨v', w', hr, ho', hg, _, hat⟩ := run_append_own_at (P := Try.prog) (w := w) base 58 ty 71 i0 _ 32 32 Try.underlying58 hi hz0 hz1 hz2 hz3 (by omega) v l1.length (rowI l1) ho a l2.length c (rowI l2)
      (rowI_length hok2) hnews (rowI_one l2) (by unfold maxLen; omega) (by omega) hbase
    have ho2 : w'.ownsRow base 71 32 v' (l1 ++ l2).length (rowI (l1 ++ l2)) := by rw [List.length_append]; unfold rowI; rw [List.flatMap_append]; exact ho'
    obtain ⟨A', c', rfl⟩ := own_slice ho2
    exact ⟨_, w', hr, ho2, hg, A', c', rfl⟩
end Go.Proofs.Ytameeejfkgoheaa.P
