/- strings.Builder: the copy check, and a byte that is written. By hand (the shelf's own laying of these two falls at this program). -/
import Derived.Test.YtkgjdeicjkibiaaDIStep
import Derived.Test.YtkgjdeicjkibiaaShelfB
import Derived.Lib.Builder
import Derived.Lib.UnsafeStr
import Derived.Laws.Externs
import Derived.OwnWalk
namespace Go.Proofs.Ytkgjdeicjkibiaa.D
open Go.RowKit Go.Proofs.YtkgjdeicjkibiaaW.PrintWords Go.Proofs.YtkgjdeicjkibiaaW.PrintLast Go.Proofs.YtkgjdeicjkibiaaW.PrintMore Go.Proofs.YtkgjdeicjkibiaaW
set_option linter.unusedVariables false
set_option linter.unusedSimpArgs false
abbrev BufAt (B b : Nat) (bs : List Value) (w : World) : Prop := Lib.BuilderAt 46 5 B b (.pointer (some ⟨b, 0, none⟩)) bs w
abbrev IsBuf (B b : Nat) (bs : List Value) (w : World) : Prop := Lib.IsBuilder 46 5 B b bs w
theorem size_buf : (Try.prog.info? 46).map (·.size) = some 2 := by kernel_rfl
set_option maxHeartbeats 1000000 in
set_option maxRecDepth 100000 in
theorem copyCheck_calls (B b : Nat) (bs : List Value) (w : World) (h : IsBuf B b bs w) :
    Calls Try.prog 41 #[.pointer (some ⟨b, 0, none⟩)] w fun e w' => e = .returned (.tuple #[]) ∧ BufAt B b bs w' ∧ Below B w w' := by
  obtain ⟨j, hj, hjs⟩ := Option.map_eq_some_iff.1 size_buf
  rcases h with h | h
  · have h0 := h.cell0
    have hsh := h.shape
    have hfz := h.frozen0
    have HH := Aside0.mk h
    clear h
    go_enter Try.func41, Try.ntmps41
    go_wp2
    rw [Lib.run_to_unsafe w ⟨b, 0, none⟩ Try.underlying43 Try.underlying64 hj (by rw [hjs]; decide) hsh (Nat.zero_lt_succ 1)]
    simp only [Result.andThen]
    rw [Oper.upon_value]
    go_wp2
    rw [run_callFunc_extern Try.func47 (by kernel_rfl) (by kernel_rfl) (by kernel_rfl) (e := Extern.AbiNoEscape.same) (by kernel_rfl), Lib.run_noEscape]
    simp only [Result.andThen]
    rw [Oper.upon_value]
    go_wp2
    rw [Lib.run_from_unsafe w ⟨b, 0, none⟩ Try.underlying64 Try.underlying43 hj hsh (by kernel_rfl)]
    simp only [Result.andThen]
    rw [Oper.upon_value]
    go_wp2
    go_end0
    exact ⟨rfl, HH.out.used _, (Below.refl B w).setCell (p := ⟨b, 0, none⟩) HH.out.1 _⟩
  · have h0 := h.cell0
    have HH := Aside0.mk h
    clear h
    go_enter Try.func41, Try.ntmps41
    go_wp2
    rw [Lib.run_neq_ptr_same w _ Try.underlying43 hj]
    go_wp2
    go_end0
    exact ⟨rfl, HH.out, Below.refl B _⟩
theorem info_byte : ∃ i, Try.prog.info? 5 = some i ∧ i.zero = some (.int .u8 0) ∧ i.size = 1 ∧ i.bytes = 1 := by
  have h : (Try.prog.info? 5).map (fun i => (i.zero, i.size, i.bytes)) = some (some (.int .u8 0), 1, 1) := by kernel_rfl
  cases hi : Try.prog.info? 5 with
  | none => simp [hi] at h
  | some i =>
    simp only [hi, Option.map_some, Option.some.injEq, Prod.mk.injEq] at h
    exact ⟨i, rfl, h.1, h.2.1, h.2.2⟩
set_option maxHeartbeats 2000000 in
set_option maxRecDepth 100000 in
theorem writeByte_calls (B b : Nat) (bs : List Value) (c : Int) (w : World) (h : IsBuf B b bs w) (hlen : bs.length + 1 ≤ 140737488355328) (hBw : B ≤ w.heap.size) :
    Calls Try.prog 31 #[.pointer (some ⟨b, 0, none⟩), .int .u8 c] w fun e w' => e = .returned .nilIface ∧ BufAt B b (bs ++ [.int .u8 c]) w' ∧ Below B w w' := by
  obtain ⟨i0, hi, hz0, hz1, hz2⟩ := info_byte
  have HC := Aside0.mk (copyCheck_calls B b bs w h)
  clear h
  go_enter Try.func31, Try.ntmps31
  go_wp2_with fail
  refine HC.out.mono ?_
  rintro e w1 ⟨rfl, ⟨hB, v, hbk, hown, hne⟩, hb1⟩
  have c0 : w1.cell? ⟨b, 0, none⟩ = some (.pointer (some ⟨b, 0, none⟩)) := blk_cell hbk 0
  have c1 : w1.cell? ⟨b, 1, none⟩ = some v := blk_cell hbk 1
  clear HC
  go_wp2_with (at_builtin; refine wpList_append_own _ rfl _ _ 44 rfl B 5 i0 (.int .u8 0) 1 1 Try.underlying44 hi hz0 hz1 hz2 rfl (by decide) _ _ _ rfl (hown.alloc _) ⟨w1.heap.size, 0, none⟩ 1 1 [.int .u8 c] rfl rfl ?c1 ?c2 ?c3 ?c4 ?c5 ?_)
  case c1 =>
    intro j u hj
    match j, hj with
    | 0, hj => simp at hj; subst hj; simp [Addr.add]
  case c2 => intro u hu; simp at hu; subst hu; rfl
  case c3 => unfold maxLen; omega
  case c4 => omega
  case c5 => have := hb1.size; simp; omega
  intro v' w2 hown' hgrow _
  have hlt := blk_lt hbk
  have hb2 : w2.heap[b]? = some (.cells #[.pointer (some ⟨b, 0, none⟩), v] 46 (0, 0)) := (hgrow.block b (by simp; omega) (fun e => hne e.symm)).trans (blk_alloc hbk _)
  have d0 : w2.cell? ⟨b, 0, none⟩ = some (.pointer (some ⟨b, 0, none⟩)) := blk_cell hb2 0
  have d1 : w2.cell? ⟨b, 1, none⟩ = some v := blk_cell hb2 1
  have f1 : w2.frozen? ⟨b, 1, none⟩ = false := blk_frozen hb2 1
  obtain ⟨g, cap, rfl⟩ : ∃ g cap, v' = .slice (some ⟨g, 0, none⟩) (bs.length + 1) cap := by
    rcases hown'.2 with ⟨_, h0⟩ | ⟨g, cap, cur, hv, _⟩
    · omega
    · exact ⟨g, cap, hv⟩
  have HO := Aside0.mk hown'
  have HBB := Aside0.mk ((hb1.alloc (by have := hb1.size; omega) (.cells #[.int .u8 c] 5)).grown hgrow (by have := hb1.size; simp; omega) (fun k hk => own_base hown k hk))
  clear hown' hown hgrow
  go_wp2
  go_ret
  refine ⟨rfl, Lib.BuilderAt.put (T := 46) (e := 5) hB hb2 (bs' := bs ++ [.int .u8 c]) (by simpa using HO.out) (by decide), HBB.out.setCell (p := ⟨b, 1, none⟩) hB _⟩
end Go.Proofs.Ytkgjdeicjkibiaa.D
