/- pair.of: the map of a list of pairs. By hand: the loop; the entry that is read, made and written in whichever order. -/
import Derived.Test.YtannmdngejdjkaaLMapP
import Derived.RegionTactic
import Derived.Deep.RegionLaw
namespace Go.Proofs.Ytannmdngejdjkaa.L
open Go.RowKit Go.Maps Go.Proofs.YtannmdngejdjkaaW.PrintWords Go.Proofs.YtannmdngejdjkaaW.PrintLast Go.Proofs.YtannmdngejdjkaaW.PrintMore Go.Proofs.YtannmdngejdjkaaW
set_option linter.unusedVariables false
set_option linter.unusedSimpArgs false
def incQ (es : MapQ) (p : Pr) : MapQ := setQ es p (wrap64 (getQ es p + 1))
def ofQ (l : List Pr) : MapQ := l.foldl incQ []
theorem incQ_up {es : MapQ} (p : Pr) (h : es.Pairwise qLt) : (incQ es p).Pairwise qLt := setQ_up h
theorem ofQ_up (l : List Pr) : (ofQ l).Pairwise qLt := by
  have : ∀ (l : List Pr) (es : MapQ), es.Pairwise qLt → (l.foldl incQ es).Pairwise qLt := by
    intro l
    induction l with
    | nil => intro es h; exact h
    | cons p l ih => intro es h; exact ih _ (incQ_up p h)
  exact this l [] List.Pairwise.nil
theorem rdP_at (l : List Pr) (k : Nat) (h : k < l.length) : rd_T57 l (k : Int) = l[k] := by
  simp [rd_T57, List.getD_eq_getElem?_getD, List.getElem?_eq_getElem h]
theorem ofQ_take (l : List Pr) (k : Nat) (h : k < l.length) : ofQ (l.take (k + 1)) = incQ (ofQ (l.take k)) (rd_T57 l (k : Nat)) := by
  unfold ofQ
  rw [List.take_succ_eq_append_getElem h, List.foldl_append, rdP_at l k h]; rfl
/-- m[k]++ with the key's value as the walk spells it -/
theorem incQ_at {w : World} {gb n : Nat} {es : MapQ} (hown : OwnsQ w gb n es) (hup : es.Pairwise qLt) (hn : n < maxLen) (p : Pr) (hp : okPair p) :
    ∃ (st : Nat) (w2 w3 : World) (c : Int),
      (Instr.lookup 85 (.map (some gb)) (.agg #[.string p.f0, .string p.f1, .int .i64 p.f2.f0, .int .i64 p.f2.f1]) false).run Try.prog w = .ok (.int .i64 c) w ∧
      (Instr.mapEntry 85 (.map (some gb)) (.agg #[.string p.f0, .string p.f1, .int .i64 p.f2.f0, .int .i64 p.f2.f1])).run Try.prog w = .ok (.tuple #[.int .i64 c, .int .i64 (st : Nat)]) w2 ∧
      (Instr.lookup 85 (.map (some gb)) (.agg #[.string p.f0, .string p.f1, .int .i64 p.f2.f0, .int .i64 p.f2.f1]) false).run Try.prog w2 = .ok (.int .i64 c) w2 ∧
      (Instr.entryStore 85 (.map (some gb)) (.int .i64 (st : Nat)) (.int .i64 (wrap64 (c + 1)))).run Try.prog w2 = .ok () w3 ∧
      OwnsQ w3 gb (n + 1) (incQ es p) ∧ w.grownBy w3 (some gb) := by
  obtain ⟨st, w2, r1, r2, r3, hg, r4⟩ := incQ_run hown hup hn p hp
  obtain ⟨w3, r5, h3, g3⟩ := r4 (wrap64 (getQ es p + 1)) (wrap64_wf _)
  exact ⟨st, w2, w3, getQ es p, r1, r2, r3, r5, h3, g3⟩
set_option maxHeartbeats 4000000 in
set_option maxRecDepth 100000 in
theorem of_calls (A0 : Option Addr) (c0 : Nat) (l : List Pr) (w : World) (hr0 : Kd.C k57 w A0 l.length l) (hlim : l.length < maxLen) (hok : ∀ x ∈ l, okPair x) :
    Calls Try.prog 75 #[.slice A0 l.length c0] w fun e w' => ∃ gb, e = .returned (.map (some gb)) ∧ w.heap.size ≤ gb ∧ OwnsQ w' gb l.length (ofQ l) ∧ Below w.heap.size w w' := by
  have HR := Aside0.mk hr0
  have HL := Aside0.mk hr0.2.1
  have HK := Aside0.mk hok
  clear hr0 hok
  have hu := Try.underlying57
  have hum := Try.underlying85
  have hmm := @run_makeMap Try.prog
  go_enter Try.func75, Try.ntmps75
  go_wp2
  go_loopw [9] (fun i wr => ∃ k : Nat, k ≤ l.length ∧ i = .int .i64 k ∧ Aside0 (OwnsQ wr w.heap.size k (ofQ (l.take k))) ∧ Aside0 (Below w.heap.size w wr)) (fun i _ => l.length - (intOf i).toNat)
  case atStart => exact ⟨0, Nat.zero_le _, rfl, ⟨World.ownsMap_made w Try.prog 57 (plainElem (H := Unit) Try.prog 3)⟩, ⟨below_alloc (Below.refl _ _) _⟩⟩
  case round =>
    clear hmm
    obtain ⟨k, hk, rfl, hO, HB⟩ := hrel
    by_cases hlt : k < l.length
    · obtain ⟨ad, e, hx0, hx1, hx2, hx3⟩ := at_T57 HR.out k (by omega) (by omega)
      cases e
      replace hx0 := (HB.out.cell (World.block_lt_of_cell? w _ hx0)).trans hx0
      replace hx1 := (HB.out.cell (World.block_lt_of_cell? w _ hx1)).trans hx1
      replace hx2 := (HB.out.cell (World.block_lt_of_cell? w _ hx2)).trans hx2
      replace hx3 := (HB.out.cell (World.block_lt_of_cell? w _ hx3)).trans hx3
      simp only [Int.toNat_natCast, add_plain] at hx0 hx1 hx2 hx3
      have hl63 := HL.out
      have hkp : okPair (rd_T57 l (k : Nat)) := by rw [rdP_at l k hlt]; exact HK.out _ (List.getElem_mem _)
      have HS := Aside0.mk (ofQ_take l k hlt)
      have hglt := hO.out.lt
      obtain ⟨st, w2, w3, c, r1, r2, r3, r5, h3, g3⟩ := incQ_at ((hO.out.alloc (.cells #[.string (rd_T57 l (k : Nat)).f0, .string (rd_T57 l (k : Nat)).f1, .int .i64 (rd_T57 l (k : Nat)).f2.f0, .int .i64 (rd_T57 l (k : Nat)).f2.f1] 57)).drew) (ofQ_up _) (by omega) (rd_T57 l (k : Nat)) hkp
      have HO3 : Aside0 (OwnsQ w3 w.heap.size (k + 1) (ofQ (l.take (k + 1)))) := ⟨by rw [HS.out]; exact h3⟩
      have HB3 := Aside0.mk ((below_drew (below_alloc HB.out _)).grown g3 (by simp; omega) (fun j hj => by simp at hj; omega))
      clear h3 g3 HS hO HB HR hkp
      go_wp2_with fail
      go_region
      all_goals
        go_wp2
        go_roundw
        case rel => exact ⟨k + 1, by omega, by go_num, HO3, HB3⟩
        case measure => simp [intOf]; omega
    · have HE := Aside0.mk (show l.take k = l ∧ k = l.length from ⟨List.take_of_length_le (by omega), by omega⟩)
      go_wp2
      go_ret
      refine ⟨_, rfl, Nat.le_refl _, ?_, HB.out⟩
      have := hO.out
      rw [HE.out.1, HE.out.2] at this
      exact this
end Go.Proofs.Ytannmdngejdjkaa.L
