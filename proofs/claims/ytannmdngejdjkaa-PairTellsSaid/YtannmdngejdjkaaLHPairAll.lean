/- Several texts in one: LHPairOf, LHPairOrd, LHPairSort, LHPairList, LHPairMay, LHPairAdd, LHPairDelF, LHPairDel, LHPairElems, LHPairCat, LHPairMerge. -/
import Derived.Test.YtannmdngejdjkaaLMapP
import Derived.RegionTactic
import Derived.Deep.RegionLaw
import Derived.Test.YtannmdngejdjkaaLx6
import Derived.Deep.RegionHeld3
import Derived.Shelf.SlSortCmp.WholeK
import Derived.Test.YtannmdngejdjkaaLHFlat
import Derived.Test.YtannmdngejdjkaaShelfQ
import Derived.Sort.OwnSorted
import Derived.Maps.RangeWalk
import Derived.Sort.KeysCollected
import Derived.OwnWalk
import Derived.Test.YtannmdngejdjkaaLx33
import Derived.Test.YtannmdngejdjkaaLHKey
import Derived.Lib.SliceRun
import Derived.Lib.AppendZeros
import Derived.Laws.Externs
import Derived.Laws.CopyRow
import Derived.Laws.IdiomCopy
import Derived.Test.YtannmdngejdjkaaShelfS
section
/- pair.of: the map of a list of pairs. By hand: the loop; the entry that is read, made and written in whichever order. -/
namespace Go.Proofs.Ytannmdngejdjkaa.L
open Go.RowKit Go.Maps Go.Proofs.YtannmdngejdjkaaW.PrintWords Go.Proofs.YtannmdngejdjkaaW.PrintLast Go.Proofs.YtannmdngejdjkaaW.PrintMore Go.Proofs.YtannmdngejdjkaaW
set_option linter.unusedVariables false
set_option linter.unusedSimpArgs false
def incQ (es : MapQ) (p : Pr) : MapQ := setQ es p (wrap64 (getQ es p + 1))
def ofQ (l : List Pr) : MapQ := l.foldl incQ []
theorem incQ_up {es : MapQ} (p : Pr) (h : es.Pairwise qLt) : (incQ es p).Pairwise qLt := setQ_up h
theorem ofQ_up (l : List Pr) : (ofQ l).Pairwise qLt := by
  have : ∀ (l : List Pr) (es : MapQ), es.Pairwise qLt → (l.foldl incQ es).Pairwise qLt := by
    intro l
    induction l with
    | nil => intro es h; exact h
    | cons p l ih => intro es h; exact ih _ (incQ_up p h)
  exact this l [] List.Pairwise.nil
theorem rdP_at (l : List Pr) (k : Nat) (h : k < l.length) : rd_T57 l (k : Int) = l[k] := by
  simp [rd_T57, List.getD_eq_getElem?_getD, List.getElem?_eq_getElem h]
theorem ofQ_take (l : List Pr) (k : Nat) (h : k < l.length) : ofQ (l.take (k + 1)) = incQ (ofQ (l.take k)) (rd_T57 l (k : Nat)) := by
  unfold ofQ
  rw [List.take_succ_eq_append_getElem h, List.foldl_append, rdP_at l k h]; rfl
/-- m[k]++ with the key's value as the walk spells it -/
theorem incQ_at {w : World} {gb n : Nat} {es : MapQ} (hown : OwnsQ w gb n es) (hup : es.Pairwise qLt) (hn : n < maxLen) (p : Pr) (hp : okPair p) :
    ∃ (st : Nat) (w2 w3 : World) (c : Int),
      (Instr.lookup 85 (.map (some gb)) (.agg #[.string p.f0, .string p.f1, .int .i64 p.f2.f0, .int .i64 p.f2.f1]) false).run Try.prog w = .ok (.int .i64 c) w ∧
      (Instr.mapEntry 85 (.map (some gb)) (.agg #[.string p.f0, .string p.f1, .int .i64 p.f2.f0, .int .i64 p.f2.f1])).run Try.prog w = .ok (.tuple #[.int .i64 c, .int .i64 (st : Nat)]) w2 ∧
      (Instr.lookup 85 (.map (some gb)) (.agg #[.string p.f0, .string p.f1, .int .i64 p.f2.f0, .int .i64 p.f2.f1]) false).run Try.prog w2 = .ok (.int .i64 c) w2 ∧
      (Instr.entryStore 85 (.map (some gb)) (.int .i64 (st : Nat)) (.int .i64 (wrap64 (c + 1)))).run Try.prog w2 = .ok () w3 ∧
      OwnsQ w3 gb (n + 1) (incQ es p) ∧ w.grownBy w3 (some gb) := by
  obtain ⟨st, w2, r1, r2, r3, hg, r4⟩ := incQ_run hown hup hn p hp
  obtain ⟨w3, r5, h3, g3⟩ := r4 (wrap64 (getQ es p + 1)) (wrap64_wf _)
  exact ⟨st, w2, w3, getQ es p, r1, r2, r3, r5, h3, g3⟩
set_option maxHeartbeats 4000000 in
set_option maxRecDepth 100000 in
theorem of_calls (A0 : Option Addr) (c0 : Nat) (l : List Pr) (w : World) (hr0 : Kd.C k57 w A0 l.length l) (hlim : l.length < maxLen) (hok : ∀ x ∈ l, okPair x) :
    Calls Try.prog 75 #[.slice A0 l.length c0] w fun e w' => ∃ gb, e = .returned (.map (some gb)) ∧ w.heap.size ≤ gb ∧ OwnsQ w' gb l.length (ofQ l) ∧ Below w.heap.size w w' := by
  have HR := Aside0.mk hr0
  have HL := Aside0.mk hr0.2.1
  have HK := Aside0.mk hok
  clear hr0 hok
  have hu := Try.underlying57
  have hum := Try.underlying85
  have hmm := @run_makeMap Try.prog
  go_enter Try.func75, Try.ntmps75
  go_wp2
  go_loopw [9] (fun i wr => ∃ k : Nat, k ≤ l.length ∧ i = .int .i64 k ∧ Aside0 (OwnsQ wr w.heap.size k (ofQ (l.take k))) ∧ Aside0 (Below w.heap.size w wr)) (fun i _ => l.length - (intOf i).toNat)
  case atStart => exact ⟨0, Nat.zero_le _, rfl, ⟨World.ownsMap_made w Try.prog 57 (plainElem (H := Unit) Try.prog 3)⟩, ⟨below_alloc (Below.refl _ _) _⟩⟩
  case round =>
    clear hmm
    obtain ⟨k, hk, rfl, hO, HB⟩ := hrel
    by_cases hlt : k < l.length
    · obtain ⟨ad, e, hx0, hx1, hx2, hx3⟩ := at_T57 HR.out k (by omega) (by omega)
      cases e
      replace hx0 := (HB.out.cell (World.block_lt_of_cell? w _ hx0)).trans hx0
      replace hx1 := (HB.out.cell (World.block_lt_of_cell? w _ hx1)).trans hx1
      replace hx2 := (HB.out.cell (World.block_lt_of_cell? w _ hx2)).trans hx2
      replace hx3 := (HB.out.cell (World.block_lt_of_cell? w _ hx3)).trans hx3
      simp only [Int.toNat_natCast, add_plain] at hx0 hx1 hx2 hx3
      have hl63 := HL.out
      have hkp : okPair (rd_T57 l (k : Nat)) := by rw [rdP_at l k hlt]; exact HK.out _ (List.getElem_mem _)
      have HS := Aside0.mk (ofQ_take l k hlt)
      have hglt := hO.out.lt
      obtain ⟨st, w2, w3, c, r1, r2, r3, r5, h3, g3⟩ := incQ_at ((hO.out.alloc (.cells #[.string (rd_T57 l (k : Nat)).f0, .string (rd_T57 l (k : Nat)).f1, .int .i64 (rd_T57 l (k : Nat)).f2.f0, .int .i64 (rd_T57 l (k : Nat)).f2.f1] 57)).drew) (ofQ_up _) (by omega) (rd_T57 l (k : Nat)) hkp
      have HO3 : Aside0 (OwnsQ w3 w.heap.size (k + 1) (ofQ (l.take (k + 1)))) := ⟨by rw [HS.out]; exact h3⟩
      have HB3 := Aside0.mk ((below_drew (below_alloc HB.out _)).grown g3 (by simp; omega) (fun j hj => by simp at hj; omega))
      clear h3 g3 HS hO HB HR hkp
      go_wp2_with fail
      go_region
      all_goals
        go_wp2
        go_roundw
        case rel => exact ⟨k + 1, by omega, by go_num, HO3, HB3⟩
        case measure => simp [intOf]; omega
    · have HE := Aside0.mk (show l.take k = l ∧ k = l.length from ⟨List.take_of_length_le (by omega), by omega⟩)
      go_wp2
      go_ret
      refine ⟨_, rfl, Nat.le_refl _, ?_, HB.out⟩
      have := hO.out
      rw [HE.out.1, HE.out.2] at this
      exact this
end Go.Proofs.Ytannmdngejdjkaa.L
end
section
/- pair.order: which one of two pairs comes first. By hand, for the sort: the world it leaves, to the block. -/
namespace Go.Proofs.Ytannmdngejdjkaa.L
open Go.RowKit Go.Maps Go.Sort Go.Proofs.YtannmdngejdjkaaW.PrintWords Go.Proofs.YtannmdngejdjkaaW.PrintLast Go.Proofs.YtannmdngejdjkaaW.PrintMore Go.Proofs.YtannmdngejdjkaaW
set_option linter.unusedVariables false
set_option linter.unusedSimpArgs false
def cS (a b : ByteArray) : Int := if Op.bytesLess a.toList b.toList then -1 else if Op.bytesLess b.toList a.toList then 1 else 0
def cI (a b : Int) : Int := if a < b then -1 else if b < a then 1 else 0
theorem cS_f (a b : ByteArray) : cmp_Compare_string.f a b = some (cS a b) := by
  simp only [cmp_Compare_string.f, cmp_isNaN_string.f, Option.bind_some, bne_self_eq_false, Bool.false_eq_true, if_false, cS]
  split
  · rfl
  · split <;> rfl
theorem cI_f (a b : Int) : cmp_Compare_int.f a b = some (cI a b) := by
  simp only [cmp_Compare_int.f, cmp_isNaN_int.f, Option.bind_some, bne_self_eq_false, Bool.false_eq_true, if_false, cI]
  split
  · rfl
  · split <;> rfl
def or4 (a b c d : Int) : Int := if a = 0 then if b = 0 then if c = 0 then d else c else b else a
theorem orStep (k : Nat) (l : List Int) (i : Int) (h0 : 0 ≤ i) (h1 : i < (l.length : Int)) : cmp_Or_int.l0 (k + 1) 0 l (l.length : Int) i = if rd l i = 0 then cmp_Or_int.l0 k 0 l (l.length : Int) (wrap64 (i + 1)) else some (rd l i) := by
  simp only [cmp_Or_int.l0]
  rw [if_pos h1, if_pos h0, if_pos h1]
theorem orEnd (k : Nat) (l : List Int) (i : Int) (h1 : ¬ i < (l.length : Int)) : cmp_Or_int.l0 (k + 1) 0 l (l.length : Int) i = some 0 := by
  simp only [cmp_Or_int.l0]
  rw [if_neg h1]
theorem or4_f (k : Nat) (a b c d : Int) : cmp_Or_int.f (k + 5) [a, b, c, d] = some (or4 a b c d) := by
  have w1 : wrap64 (0 + 1) = 1 := by unfold wrap64; omega
  have w2 : wrap64 (1 + 1) = 2 := by unfold wrap64; omega
  have w3 : wrap64 (2 + 1) = 3 := by unfold wrap64; omega
  have w4 : wrap64 (3 + 1) = 4 := by unfold wrap64; omega
  have r0 : rd [a, b, c, d] 0 = a := rfl
  have r1 : rd [a, b, c, d] 1 = b := rfl
  have r2 : rd [a, b, c, d] 2 = c := rfl
  have r3 : rd [a, b, c, d] 3 = d := rfl
  show cmp_Or_int.l0 (k + 4 + 1) 0 [a, b, c, d] _ 0 = _
  rw [orStep (k + 4) _ 0 (by omega) (by simp), w1, r0, orStep (k + 3) _ 1 (by omega) (by simp), w2, r1, orStep (k + 2) _ 2 (by omega) (by simp), w3, r2, orStep (k + 1) _ 3 (by omega) (by simp), w4, r3, orEnd k _ 4 (by simp)]
  unfold or4
  split <;> (try rfl)
  split <;> (try rfl)
  split <;> (try rfl)
  split <;> simp_all
/-- which one of two comes first -/
def cmpP (x y : Pr) : Int := or4 (cS x.f0 y.f0) (cS x.f1 y.f1) (cI x.f2.f0 y.f2.f0) (cI x.f2.f1 y.f2.f1)
theorem C_lit {w : World} {g : Nat} {l : List Int} (h : w.heap[g]? = some (.cells (l.map (Value.int .i64)).toArray 3 (0, 0))) (hm : l.length ≤ maxLen) : Kd.C (Kd.int .i64) w (some ⟨g, 0, none⟩) l.length l := by
  refine Kd.C_of_reads (h1 := fun _ => rfl) (enc := Value.int .i64) (d := (0 : Int)) ⟨rfl, hm, fun h0 => ⟨_, rfl, fun j hj => ?_⟩⟩
  rw [add_plain, blk_cell h j]
  simp [hj]
/-- a world that has grown, and drawn, out of another one -/
def Gr (W V : World) : Prop := ∃ q os', V = grow (W.drewN q) os'
theorem Gr.refl (W : World) : Gr W W := ⟨0, #[], by simp [grow, World.drewN]⟩
theorem Gr.drewN {W V : World} (h : Gr W V) (n : Nat) : Gr W (V.drewN n) := by
  obtain ⟨q, os, rfl⟩ := h
  exact ⟨q + n, os, by simp [grow, World.drewN, Nat.add_assoc]⟩
theorem Gr.drew {W V : World} (h : Gr W V) : Gr W V.drew := h.drewN 1
theorem Gr.alloc {W V : World} (h : Gr W V) (o : Obj) : Gr W (V.alloc o) := by
  obtain ⟨q, os, rfl⟩ := h
  exact ⟨q, os ++ #[o], by rw [alloc_eq_grow, grow_grow]⟩
set_option maxHeartbeats 4000000 in
set_option maxRecDepth 100000 in
theorem order_exact (x y : Pr) (W : World) : Calls Try.prog 85 #[.agg #[.string x.f0, .string x.f1, .int .i64 x.f2.f0, .int .i64 x.f2.f1], .agg #[.string y.f0, .string y.f1, .int .i64 y.f2.f0, .int .i64 y.f2.f1]] W fun e w' => e = .returned (.int .i64 (cmpP x y)) ∧ ∃ q os', w' = grow (W.drewN q) os' := by
  have H0 : Aside0 (∀ V : World, Calls Try.prog 68 #[.string x.f0, .string y.f0] V fun e w' => e = .returned (.int .i64 (cS x.f0 y.f0)) ∧ Drawn0 V w') := ⟨fun V => cmp_Compare_string.calls _ _ _ V (cS_f _ _)⟩
  have H1 : Aside0 (∀ V : World, Calls Try.prog 68 #[.string x.f1, .string y.f1] V fun e w' => e = .returned (.int .i64 (cS x.f1 y.f1)) ∧ Drawn0 V w') := ⟨fun V => cmp_Compare_string.calls _ _ _ V (cS_f _ _)⟩
  have H2 : Aside0 (∀ V : World, Calls Try.prog 67 #[.int .i64 x.f2.f0, .int .i64 y.f2.f0] V fun e w' => e = .returned (.int .i64 (cI x.f2.f0 y.f2.f0)) ∧ Drawn0 V w') := ⟨fun V => cmp_Compare_int.calls _ _ _ V (cI_f _ _)⟩
  have H3 : Aside0 (∀ V : World, Calls Try.prog 67 #[.int .i64 x.f2.f1, .int .i64 y.f2.f1] V fun e w' => e = .returned (.int .i64 (cI x.f2.f1 y.f2.f1)) ∧ Drawn0 V w') := ⟨fun V => cmp_Compare_int.calls _ _ _ V (cI_f _ _)⟩
  have H4 : Aside0 (∀ (V : World) (g : Nat), V.heap[g]? = some (.cells #[.int .i64 (cS x.f0 y.f0), .int .i64 (cS x.f1 y.f1), .int .i64 (cI x.f2.f0 y.f2.f0), .int .i64 (cI x.f2.f1 y.f2.f1)] 3 (0, 0)) → Calls Try.prog 66 #[.slice (some ⟨g, 0, none⟩) 4 4] V fun e w' => e = .returned (.int .i64 (cmpP x y)) ∧ Drawn0 V w') :=
    ⟨fun V g h => cmp_Or_int.calls 5 (some ⟨g, 0, none⟩) 4 [cS x.f0 y.f0, cS x.f1 y.f1, cI x.f2.f0 y.f2.f0, cI x.f2.f1 y.f2.f1] _ V (C_lit h (show (4 : Nat) ≤ maxLen by decide)) (Nat.le_refl _) (or4_f 0 _ _ _ _)⟩
  generalize cmpP x y = r at H4 ⊢
  generalize cS x.f0 y.f0 = a0 at H0 H4
  generalize cS x.f1 y.f1 = a1 at H1 H4
  generalize cI x.f2.f0 y.f2.f0 = a2 at H2 H4
  generalize cI x.f2.f1 y.f2.f1 = a3 at H3 H4
  go_enter Try.func85, Try.ntmps85
  go_wp2_with fail
  have hg : Gr W ((W.alloc (.cells #[Value.string x.f0, Value.string x.f1, Value.int .i64 x.f2.f0, Value.int .i64 x.f2.f1] 57)).alloc (.cells #[Value.string y.f0, Value.string y.f1, Value.int .i64 y.f2.f0, Value.int .i64 y.f2.f1] 57)) := (Gr.alloc (Gr.alloc (Gr.refl W) _) _)
  have hb1 : ((W.alloc (.cells #[Value.string x.f0, Value.string x.f1, Value.int .i64 x.f2.f0, Value.int .i64 x.f2.f1] 57)).alloc (.cells #[Value.string y.f0, Value.string y.f1, Value.int .i64 y.f2.f0, Value.int .i64 y.f2.f1] 57)).heap[W.heap.size]? = some (.cells #[Value.string x.f0, Value.string x.f1, Value.int .i64 x.f2.f0, Value.int .i64 x.f2.f1] 57) := blk_alloc (blk_new W _) _
  have hb2 : ((W.alloc (.cells #[Value.string x.f0, Value.string x.f1, Value.int .i64 x.f2.f0, Value.int .i64 x.f2.f1] 57)).alloc (.cells #[Value.string y.f0, Value.string y.f1, Value.int .i64 y.f2.f0, Value.int .i64 y.f2.f1] 57)).heap[W.heap.size + 1]? = some (.cells #[Value.string y.f0, Value.string y.f1, Value.int .i64 y.f2.f0, Value.int .i64 y.f2.f1] 57) := by have := blk_new (W.alloc (.cells #[Value.string x.f0, Value.string x.f1, Value.int .i64 x.f2.f0, Value.int .i64 x.f2.f1] 57)) (.cells #[Value.string y.f0, Value.string y.f1, Value.int .i64 y.f2.f0, Value.int .i64 y.f2.f1] 57); simpa using this
  revert hg hb1 hb2
  generalize ((W.alloc (.cells #[Value.string x.f0, Value.string x.f1, Value.int .i64 x.f2.f0, Value.int .i64 x.f2.f1] 57)).alloc (.cells #[Value.string y.f0, Value.string y.f1, Value.int .i64 y.f2.f0, Value.int .i64 y.f2.f1] 57)) = V
  intro hg hb1 hb2
  have HG := Aside0.mk hg
  have hl1 := blk_lt hb1
  have hl2 := blk_lt hb2
  have c0 : V.cell? ⟨W.heap.size, 0, none⟩ = some (Value.string x.f0) := blk_cell hb1 0
  have c1 : V.cell? ⟨W.heap.size, 1, none⟩ = some (Value.string x.f1) := blk_cell hb1 1
  have c2 : V.cell? ⟨W.heap.size, 2, none⟩ = some (Value.int .i64 x.f2.f0) := blk_cell hb1 2
  have c3 : V.cell? ⟨W.heap.size, 3, none⟩ = some (Value.int .i64 x.f2.f1) := blk_cell hb1 3
  have d0 : V.cell? ⟨W.heap.size + 1, 0, none⟩ = some (Value.string y.f0) := blk_cell hb2 0
  have d1 : V.cell? ⟨W.heap.size + 1, 1, none⟩ = some (Value.string y.f1) := blk_cell hb2 1
  have d2 : V.cell? ⟨W.heap.size + 1, 2, none⟩ = some (Value.int .i64 y.f2.f0) := blk_cell hb2 2
  have d3 : V.cell? ⟨W.heap.size + 1, 3, none⟩ = some (Value.int .i64 y.f2.f1) := blk_cell hb2 3
  clear hg hb1 hb2
  go_region_held3 (fun w' => w'.cell? ⟨W.heap.size, 0, none⟩ = some (Value.string x.f0) ∧ w'.cell? ⟨W.heap.size, 1, none⟩ = some (Value.string x.f1) ∧ w'.cell? ⟨W.heap.size, 2, none⟩ = some (Value.int .i64 x.f2.f0) ∧ w'.cell? ⟨W.heap.size, 3, none⟩ = some (Value.int .i64 x.f2.f1) ∧ w'.cell? ⟨W.heap.size + 1, 0, none⟩ = some (Value.string y.f0) ∧ w'.cell? ⟨W.heap.size + 1, 1, none⟩ = some (Value.string y.f1) ∧ w'.cell? ⟨W.heap.size + 1, 2, none⟩ = some (Value.int .i64 y.f2.f0) ∧ w'.cell? ⟨W.heap.size + 1, 3, none⟩ = some (Value.int .i64 y.f2.f1))
    (first | (exact ⟨c0, c1, c2, c3, d0, d1, d2, d3⟩) | go_keep)
    (first
     | (go_at_call 68; (with_reducible refine (H0.out _).mono ?_); rintro e w' ⟨rfl, ⟨nd, rfl⟩⟩)
     | (go_at_call 68; (with_reducible refine (H1.out _).mono ?_); rintro e w' ⟨rfl, ⟨nd, rfl⟩⟩)
     | (go_at_call 67; (with_reducible refine (H2.out _).mono ?_); rintro e w' ⟨rfl, ⟨nd, rfl⟩⟩)
     | (go_at_call 67; (with_reducible refine (H3.out _).mono ?_); rintro e w' ⟨rfl, ⟨nd, rfl⟩⟩)
     | (go_at_call 66; (with_reducible refine (H4.out _ _ ?hh).mono ?_); (case hh => first | exact blk_new _ _ | exact blk_drew (blk_new _ _) | exact blk_drewN (blk_new _ _) _); rintro e w' ⟨rfl, ⟨nd, rfl⟩⟩))
  all_goals
    go_wp2
    go_ret
    exact ⟨rfl, by repeat (first | exact HG.out | apply Gr.drewN | apply Gr.alloc | apply Gr.drew)⟩
end Go.Proofs.Ytannmdngejdjkaa.L
end
section
/- slices.SortFunc at pairs, by pair.order: one sorted list, whatever order they stood in. By the shelf's contract; no walk. -/
namespace Go.Proofs.Ytannmdngejdjkaa.L
open Go.RowKit Go.Maps Go.Sort Go.Lib Go.Proofs.YtannmdngejdjkaaW.PrintWords Go.Proofs.YtannmdngejdjkaaW.PrintLast Go.Proofs.YtannmdngejdjkaaW.PrintMore Go.Proofs.YtannmdngejdjkaaW
set_option linter.unusedVariables false
set_option linter.unusedSimpArgs false
/-- what tells which one of two comes first -/
structure CmpOk {α : Type} (f : α → α → Int) : Prop where
  eq : ∀ x y, f x y = 0 ↔ x = y
  anti : ∀ x y, f x y < 0 ↔ 0 < f y x
  trans : ∀ x y z, f x y < 0 → f y z < 0 → f x z < 0
theorem cmpOk_lex {α β : Type} {f : α → α → Int} {g : β → β → Int} (hf : CmpOk f) (hg : CmpOk g) : CmpOk (fun (x y : α × β) => if f x.1 y.1 = 0 then g x.2 y.2 else f x.1 y.1) where
  eq x y := by
    split
    · rename_i h
      have h1 := (hf.eq _ _).1 h
      rw [hg.eq]
      exact ⟨fun h2 => Prod.ext h1 h2, fun h2 => by rw [h2]⟩
    · rename_i h
      exact ⟨fun h2 => absurd h2 h, fun h2 => absurd ((hf.eq _ _).2 (by rw [h2])) h⟩
  anti x y := by
    have e : f x.1 y.1 = 0 ↔ f y.1 x.1 = 0 := by rw [hf.eq, hf.eq]; exact ⟨Eq.symm, Eq.symm⟩
    by_cases h : f x.1 y.1 = 0
    · rw [if_pos h, if_pos (e.1 h)]; exact hg.anti _ _
    · rw [if_neg h, if_neg (fun h2 => h (e.2 h2))]; exact hf.anti _ _
  trans x y z h1 h2 := by
    by_cases a : f x.1 y.1 = 0
    · rw [if_pos a] at h1
      have a' := (hf.eq _ _).1 a
      rw [a']
      by_cases b : f y.1 z.1 = 0
      · rw [if_pos b] at h2 ⊢
        exact hg.trans _ _ _ h1 h2
      · rw [if_neg b] at h2 ⊢
        exact h2
    · rw [if_neg a] at h1
      by_cases b : f y.1 z.1 = 0
      · have b' := (hf.eq _ _).1 b
        rw [← b', if_neg a]
        exact h1
      · rw [if_neg b] at h2
        have h3 := hf.trans _ _ _ h1 h2
        rw [if_neg (by omega)]
        exact h3
theorem cmpOk_map {α β : Type} {f : β → β → Int} (t : α → β) (ht : ∀ x y, t x = t y → x = y) (hf : CmpOk f) : CmpOk (fun x y => f (t x) (t y)) where
  eq x y := by rw [hf.eq]; exact ⟨ht x y, fun h => by rw [h]⟩
  anti x y := hf.anti _ _
  trans x y z h1 h2 := hf.trans _ _ _ h1 h2
theorem cI_ok : CmpOk cI where
  eq x y := by unfold cI; split <;> (try split) <;> omega
  anti x y := by unfold cI; split <;> (try split) <;> (try split) <;> omega
  trans x y z h1 h2 := by
    unfold cI at *
    have a : x < y := by
      by_cases h : x < y
      · exact h
      · rw [if_neg h] at h1; split at h1 <;> omega
    have b : y < z := by
      by_cases h : y < z
      · exact h
      · rw [if_neg h] at h2; split at h2 <;> omega
    rw [if_pos (by omega)]; omega
theorem cS_neg {x y : ByteArray} : cS x y < 0 ↔ Op.bytesLess x.toList y.toList = true := by
  unfold cS
  split
  · rename_i h; simp [h]
  · split <;> simp_all
theorem cS_ok : CmpOk cS where
  eq x y := by
    constructor
    · intro h
      unfold cS at h
      split at h
      · omega
      · rename_i h1
        split at h
        · omega
        · rename_i h2
          exact toList_inj (less_antisymm (by simpa using h1) (by simpa using h2))
    · intro h
      subst h
      unfold cS
      rw [less_irrefl]; simp
  anti x y := by
    rw [cS_neg]
    unfold cS
    constructor
    · intro h
      rw [less_asymm h]; simp [h]
    · intro h
      split at h
      · omega
      · split at h
        · assumption
        · omega
  trans x y z h1 h2 := by
    rw [cS_neg] at *
    exact less_trans h1 h2
theorem cmpP_ok : CmpOk cmpP := by
  have h := cmpOk_map (fun (x : Pr) => (x.f0, (x.f1, (x.f2.f0, x.f2.f1)))) (fun x y h => by
    obtain ⟨a, b, c, d⟩ := x
    obtain ⟨a', b', c', d'⟩ := y
    simp at h
    obtain ⟨rfl, rfl, rfl, rfl⟩ := h
    rfl) (cmpOk_lex cS_ok (cmpOk_lex cS_ok (cmpOk_lex cI_ok cI_ok)))
  have e : cmpP = fun (x y : Pr) => if cS x.f0 y.f0 = 0 then if cS x.f1 y.f1 = 0 then if cI x.f2.f0 y.f2.f0 = 0 then cI x.f2.f1 y.f2.f1 else cI x.f2.f0 y.f2.f0 else cS x.f1 y.f1 else cS x.f0 y.f0 := rfl
  rw [e]
  exact h
theorem ltP_swo : SWO (ltOf cmpP) where
  irrefl x := by
    unfold ltOf
    have := (cmpP_ok.eq x x).2 rfl
    simp [this]
  trans x y z h1 h2 := by
    unfold ltOf at *
    simp only [decide_eq_true_eq] at *
    exact cmpP_ok.trans x y z h1 h2
  ntrans x y z h1 h2 := by
    unfold ltOf at *
    simp only [decide_eq_false_iff_not] at *
    intro h
    rcases Int.lt_trichotomy (cmpP y z) 0 with q | q | q
    · exact h2 q
    · rw [(cmpP_ok.eq y z).1 q] at h1; exact h1 h
    · have q' := (cmpP_ok.anti z y).2 q
      exact h1 (cmpP_ok.trans x z y h q')
theorem ltP_tot (x y : Pr) (h1 : ltOf cmpP x y = false) (h2 : ltOf cmpP y x = false) : x = y := by
  unfold ltOf at *
  simp only [decide_eq_false_iff_not] at *
  rcases Int.lt_trichotomy (cmpP x y) 0 with q | q | q
  · exact absurd q h1
  · exact (cmpP_ok.eq x y).1 q
  · exact absurd ((cmpP_ok.anti y x).2 q) h2
/-- pairs, sorted -/
def sortP (l : List Pr) : List Pr := l.mergeSort fun x y => !(ltOf cmpP) y x
theorem pairCells_length (p : Pr) : (pairCells p).length = 4 := rfl
theorem pairCells_one : ∀ (p : Pr), ∀ u ∈ pairCells p, u.oneCell' = true := by
  intro p u hu
  simp [pairCells] at hu
  rcases hu with rfl | rfl | rfl | rfl <;> rfl
abbrev pairRow (l : List Pr) : List Value := l.flatMap pairCells
theorem cmpLaysP (blk off size : Nat) (w : World) : CmpLays Try.prog 85 #[] pairCells 4 cmpP blk off size w :=
  fun _ _ _ _ x y => order_exact x y _
instance : Inhabited Pr := ⟨⟨ByteArray.empty, ByteArray.empty, ⟨0, 0⟩⟩⟩
theorem flat_at : ∀ (l : List Pr) (t : Nat), t < l.length * 4 → (pairRow l)[t]? = (pairCells (l.toArray[t / 4]!))[t % 4]?
  | [], t, h => by simp at h
  | p :: l, t, h => by
    rw [pairRow, List.flatMap_cons]
    rcases Nat.lt_or_ge t 4 with h4 | h4
    · rw [List.getElem?_append_left (by rw [pairCells_length]; exact h4)]
      have e1 : t / 4 = 0 := by omega
      have e2 : t % 4 = t := by omega
      rw [e1, e2]; simp
    · rw [List.getElem?_append_right (by rw [pairCells_length]; exact h4), pairCells_length]
      have e1 : t / 4 = (t - 4) / 4 + 1 := by omega
      have e2 : t % 4 = (t - 4) % 4 := by omega
      have ih := flat_at l (t - 4) (by simp at h; omega)
      rw [ih, e1, e2]
      congr 2
      simp [getElem!_def]
theorem flatK_row (l : List Pr) : flatK pairCells 4 l.toArray = (pairRow l).toArray := by
  have hl : (pairRow l).length = l.length * 4 := flat_length (enc := pairCells) (sz := 4) (fun _ => rfl) l
  refine ext_get! (by simp [hl]) fun t ht => ?_
  have ht' : t < l.length * 4 := by simpa using ht
  rw [get_flatK _ _ _ t (by simpa using ht')]
  have h1 := flat_at l t ht'
  have h2 : t < (pairRow l).length := by rw [hl]; exact ht'
  rw [getElem!_pos _ t (by simpa using h2)]
  have h3 : t % 4 < (pairCells (l.toArray[t / 4]!)).length := by rw [pairCells_length]; omega
  rw [getElem!_pos _ (t % 4) h3]
  rw [List.getElem?_eq_getElem h2, List.getElem?_eq_getElem h3] at h1
  simpa using h1.symm
theorem holds_id {w : World} {g : Nat} {cur : Array Value} {e : TypeId} {F : List Value} (hb : w.heap[g]? = some (.cells cur e (0, 0))) (ht : cur.toList.take F.length = F) : Holds id w g 0 F.toArray := by
  intro j hj
  have hj' : j < F.length := by simpa using hj
  refine ⟨?_, by simp [World.frozen?, hb]⟩
  have h1 : (cur.toList.take F.length)[j]? = F[j]? := by rw [ht]
  rw [List.getElem?_take_of_lt hj'] at h1
  simp only [World.cell?, hb, Nat.zero_add]
  simp only [Option.isSome_none, Bool.false_eq_true, if_false]
  rw [← Array.getElem?_toList, h1]
  simp [hj']
theorem heap_put_id {w : World} {g n : Nat} {os : Array Obj} {cur : Array Value} {e : TypeId} {fr : Nat × Nat} (d : Array Value) (hb : w.heap[g]? = some (.cells cur e fr)) :
    (grow (putRow id (Sort.ahead w n) g 0 d) os).heap[g]? = some (.cells (putCells id 0 d cur) e fr) := by
  have hg : g < w.heap.size := (Array.getElem?_eq_some_iff.1 hb).1
  rw [heap_grow_old _ _ (by simpa using hg)]
  simp [putRow, mapBlock, Sort.ahead, Array.getElem?_modify, hb, onCells]
theorem grown_put_id {w : World} {g n : Nat} {os : Array Obj} (d : Array Value) : w.grownBy (grow (putRow id (Sort.ahead w n) g 0 d) os) (some g) := by
  refine ⟨rfl, rfl, rfl, by simp, fun k hk hne => ?_⟩
  rw [heap_grow_old _ _ (by simpa using hk)]
  have : g ≠ k := fun e => hne (by rw [e])
  simp [putRow, mapBlock, Sort.ahead, Array.getElem?_modify, this]
theorem take_put_id (cur : Array Value) (F : List Value) (h : F.length ≤ cur.size) : (putCells id 0 F.toArray cur).toList.take F.length = F := by
  apply List.ext_getElem?
  intro j
  by_cases hj : j < F.length
  · rw [List.getElem?_take_of_lt hj, Array.getElem?_toList]
    simp [putCells, hj, show j < cur.size by omega]
  · rw [List.getElem?_take_eq_none (by omega), List.getElem?_eq_none (by omega)]
theorem sortP_length (l : List Pr) : (sortP l).length = l.length := List.length_mergeSort l
/-- slices.SortFunc at pairs -/
theorem sort_pairs (base : Nat) (A : Option Addr) (c : Nat) (ks : List Pr) (w : World) (hrow : w.ownsRow base 57 4 (.slice A ks.length c) ks.length (pairRow ks)) (hlt : ks.length < 4611686018427387904) :
    Calls Try.prog 93 #[.slice A ks.length c, .func (.func 85) #[] #[]] w fun e w' => e = .returned (.tuple #[]) ∧ w'.ownsRow base 57 4 (.slice A ks.length c) ks.length (pairRow (sortP ks)) ∧ w.grownBy w' (Value.slice A ks.length c).ownBlock := by
  rcases Nat.eq_zero_or_pos ks.length with h0 | hpos
  · obtain rfl := List.eq_nil_of_length_eq_zero h0
    have h := AnyF.slices_SortFunc_none Try.sortP A c (.func (.func 85) #[] #[]) w
    refine Calls.mono h ?_
    rintro e w' ⟨rfl, rfl⟩
    have e : sortP [] = [] := List.eq_nil_of_length_eq_zero (by rw [sortP_length]; rfl)
    rw [e]
    exact ⟨rfl, hrow, World.grownBy.refl _ _⟩
  · rcases hrow.2 with ⟨hnil, h0⟩ | ⟨g, cap, cur, he, hbase, hb, h1, h2, h3, h4⟩
    · injection hnil with _ hn _; omega
    · cases he
      have hl : (pairRow ks).length = ks.length * 4 := flat_length (enc := pairCells) (sz := 4) (fun _ => rfl) ks
      have hl2 : (pairRow (sortP ks)).length = ks.length * 4 := by rw [flat_length (enc := pairCells) (sz := 4) (fun _ => rfl) (sortP ks), sortP_length]
      have hH : HoldsK pairCells 4 w g 0 ks.toArray := by
        unfold HoldsK
        rw [flatK_row]
        exact holds_id hb (by rw [hl]; exact h4)
      have hgl : g < w.heap.size := blk_lt hb
      have eg : ∀ args w, (callFunc 85 args).run Try.prog w = .ok (.enter 85 args) w := enters_of Try.func85 (by kernel_rfl) rfl
      have h := AnyQ.slices_SortFunc_total Try.sortP 4 Try.isAgg57 Try.sizeOf57 pairCells (fun _ => rfl) pairCells_one cmpP ltP_swo 85 #[] g 0 c ks.toArray w eg (cmpLaysP g 0 _ w) hH hgl hlt ltP_tot
      refine Calls.mono h ?_
      rintro e w' ⟨rfl, nn, os, rfl⟩
      have hs : sortWorldK pairCells 4 w g 0 nn (ks.toArray.toList.mergeSort fun x y => !(ltOf cmpP) y x).toArray os = grow (putRow id (Sort.ahead w nn) g 0 (pairRow (sortP ks)).toArray) os := by
        unfold sortWorldK putRowK
        rw [flatK_row]; rfl
      rw [hs]
      refine ⟨rfl, ⟨hl2, .inr ⟨g, c, _, rfl, hbase, heap_put_id _ hb, h1, h2, by simp [putCells, h3], ?_⟩⟩, grown_put_id _⟩
      rw [← hl2]
      exact take_put_id cur _ (by rw [hl2, h3]; exact Nat.mul_le_mul_right 4 h1)
end Go.Proofs.Ytannmdngejdjkaa.L
end
section
/- pair.set.list: the pairs of a map, in order. By hand: the loop over the map in whatever order, the sort by its contract. -/
namespace Go.Proofs.Ytannmdngejdjkaa.L
open Go.RowKit Go.Maps Go.Sort Go.Proofs.YtannmdngejdjkaaW.PrintWords Go.Proofs.YtannmdngejdjkaaW.PrintLast Go.Proofs.YtannmdngejdjkaaW.PrintMore Go.Proofs.YtannmdngejdjkaaW
set_option linter.unusedVariables false
set_option linter.unusedSimpArgs false
theorem sortP_pair (l : List Pr) : (sortP l).Pairwise (fun x y => (!(ltOf cmpP) y x) = true) := by
  refine List.pairwise_mergeSort ?_ ?_ l
  · intro a b c h1 h2
    simp only [Bool.not_eq_true'] at *
    exact ltP_swo.ntrans c b a h2 h1
  · intro a b
    simp only [Bool.or_eq_true, Bool.not_eq_true']
    cases h : ltOf cmpP b a with
    | false => exact .inl rfl
    | true =>
      right
      cases h2 : ltOf cmpP a b with
      | false => rfl
      | true =>
        have := ltP_swo.trans a b a h2 h
        rw [ltP_swo.irrefl] at this; cases this
theorem sorted_unique {l l' : List Pr} (h : l.Perm l') (h1 : l.Pairwise (fun x y => (!(ltOf cmpP) y x) = true)) (h2 : l'.Pairwise (fun x y => (!(ltOf cmpP) y x) = true)) : l = l' := by
  refine List.Perm.eq_of_pairwise (le := fun x y => (!(ltOf cmpP) y x) = true) (fun a b _ _ q1 q2 => ?_) h1 h2 h
  simp only [Bool.not_eq_true'] at q1 q2
  exact ltP_tot a b q2 q1
theorem sortP_perm {l l' : List Pr} (h : l.Perm l') : sortP l = sortP l' :=
  sorted_unique (((List.mergeSort_perm l _).trans h).trans (List.mergeSort_perm l' _).symm) (sortP_pair l) (sortP_pair l')
theorem keysQ_nodup {es : MapQ} (h : es.Pairwise qLt) : (es.map Prod.fst).Nodup := by
  show (es.map Prod.fst).Pairwise (· ≠ ·)
  rw [List.pairwise_map]
  refine h.imp fun {a b} hab e => ?_
  unfold qLt at hab
  rw [e, less_irrefl] at hab
  cases hab
theorem strKeysQ (es : MapQ) : Go.strKeys (datQ es) = es.map fun p => kbP p.1 := by
  unfold Go.strKeys datQ
  simp [List.map_map, Function.comp_def, entQ, Go.strOf]
theorem collQ_perm {es : MapQ} (hup : es.Pairwise qLt) (hok : ∀ p ∈ es, okPair p.1) {left : Lit → Bool} {ks : List Pr} (hks : ∀ x ∈ ks, okPair x) (h : Collected (datQ es) left (ks.map kbP)) (hl : ∀ kl, left kl = false) : ks.Perm (es.map Prod.fst) := by
  have hp : (es.map entQ).Pairwise (fun p q => p.1 ≠ q.1) := by
    rw [List.pairwise_map]
    refine hup.imp fun {a b} hab e => ?_
    unfold qLt at hab
    simp only [entQ, Lit.string.injEq] at e
    rw [e, less_irrefl] at hab
    cases hab
  have h1 := perm_strKeys hp (fun p hp => by obtain ⟨q, _, rfl⟩ := List.mem_map.1 hp; exact ⟨_, rfl⟩) h.1 (fun x => by rw [h.2 x, hl]; simp [datQ])
  have h2 : (ks.map kbP).Perm (es.map fun p => kbP p.1) := by
    have := strKeysQ es
    unfold datQ at this
    rwa [this] at h1
  have hn : ks.Nodup := (List.pairwise_map.1 h.1).imp fun {a b} hab e => hab (by rw [e])
  refine (List.perm_ext_iff_of_nodup hn (keysQ_nodup hup)).2 fun x => ?_
  constructor
  · intro hx
    have : kbP x ∈ es.map fun p => kbP p.1 := h2.mem_iff.1 (List.mem_map_of_mem hx)
    obtain ⟨p, hp, e⟩ := List.mem_map.1 this
    rw [← kbP_inj (hok p hp) (hks x hx) e]
    exact List.mem_map_of_mem hp
  · intro hx
    obtain ⟨p, hp, rfl⟩ := List.mem_map.1 hx
    have : kbP p.1 ∈ ks.map kbP := h2.mem_iff.2 (List.mem_map.2 ⟨p, hp, rfl⟩)
    obtain ⟨y, hy, e⟩ := List.mem_map.1 this
    rw [← kbP_inj (hks y hy) (hok p hp) e]
    exact hy
theorem cells4_new (w4 : World) (o : Obj) (p : Pr) : ∀ j u, (pairCells p)[j]? = some u → ((w4.alloc o).alloc (.cells #[.string p.f0, .string p.f1, .int .i64 p.f2.f0, .int .i64 p.f2.f1] 57)).cell? ((⟨w4.heap.size + 1, 0, none⟩ : Addr).add j) = some u := by
  have hb : ((w4.alloc o).alloc (.cells #[.string p.f0, .string p.f1, .int .i64 p.f2.f0, .int .i64 p.f2.f1] 57)).heap[w4.heap.size + 1]? = some (.cells #[.string p.f0, .string p.f1, .int .i64 p.f2.f0, .int .i64 p.f2.f1] 57 (0, 0)) := by
    have := blk_new (w4.alloc o) (.cells #[.string p.f0, .string p.f1, .int .i64 p.f2.f0, .int .i64 p.f2.f1] 57)
    simpa using this
  intro j u hj
  rw [add_plain, blk_cell hb j]
  match j, hj with
  | 0, hj => exact hj
  | 1, hj => exact hj
  | 2, hj => exact hj
  | 3, hj => exact hj
  | j + 4, hj => simp [pairCells] at hj
set_option maxHeartbeats 4000000 in
set_option maxRecDepth 100000 in
theorem plist_calls (gb n : Nat) (es : MapQ) (w : World) (hown : OwnsQ w gb n es) (hup : es.Pairwise qLt) (hok : ∀ p ∈ es, okPair p.1) (hlim : es.length * 64 ≤ 140737488355328) :
    Calls Try.prog 76 #[.map (some gb)] w fun e w' => ∃ v, e = .returned v ∧ w'.ownsRow w.heap.size 57 4 v es.length (pairRow (sortP (es.map Prod.fst))) ∧ Below w.heap.size w w' := by
  obtain ⟨j0, hj, hy0, hy1, hy2⟩ := info_parts info57
  have hbl := hown.lt
  have HO := Aside0.mk hown
  have hsize : Maps.size (datQ es) = es.length := size_datQ es
  have HOK := Aside0.mk hok
  have hu := Try.underlying57
  clear hown hok
  go_enter Try.func76, Try.ntmps76
  go_wp2_with (first
    | (at_range; refine wpList_range_own _ rfl _ 85 rfl 57 3 lawP Try.underlying85 _ gb n _ rfl HO.out ?_; intro w1 hrg0 hg0 hs0))
  go_frame
  go_loopw [3] (fun v wr => ∃ (left : Lit → Bool) (cnt : Nat) (ks : List Pr), Aside0 (wr.ranges Try.prog 57 (plainElem (H := Unit) Try.prog 3) gb w.heap.size n (datQ es) left cnt) ∧ Aside0 (ks.length + cnt ≤ es.length) ∧
      Aside0 (wr.ownsRow w.heap.size 57 4 v ks.length (pairRow ks)) ∧ Aside0 (Collected (datQ es) left (ks.map kbP)) ∧ Aside0 (∀ x ∈ ks, okPair x) ∧ Aside0 (Below w.heap.size w wr))
    (fun _ wr => wr.rangeLeft gb w.heap.size)
  case atStart => exact ⟨_, _, [], ⟨hrg0⟩, ⟨by simp [hsize]⟩, ⟨own_nil _ _ _ _⟩, ⟨Collected.start _⟩, ⟨fun x hx => by cases hx⟩, ⟨(Below.refl _ _).grown hg0 (Nat.le_refl _) (fun j hj => by cases hj)⟩⟩
  case round =>
    clear hrg0 hg0 hs0
    obtain ⟨left, cnt, ks, hrg, hcs, hrow, hC, hks, hnx⟩ := hrel
    obtain ⟨A, c, rfl⟩ := own_slice hrow.out
    go_wp2_with (first
      | (at_next; refine wpList_next_ranges _ rfl _ rfl 57 lawP (plainElem Try.prog 3) valP (Value.int .i64) (fun key kl hk => by obtain ⟨x, hx, _⟩ := keyOf_inv hk; exact ⟨x, hx⟩) (fun v y hv => by obtain ⟨c, rfl, _⟩ := plainElem_int_inv Try.underlying3 hv; exact ⟨c, rfl⟩) gb w.heap.size n _ _ _ rfl hrg.out ?_ ?_))
    · intro hc0 hl0
      have hperm : ks.Perm (es.map Prod.fst) := collQ_perm hup HOK.out hks.out hC.out hl0
      have hlen : ks.length = es.length := by rw [hperm.length_eq]; simp
      have HSK := Aside0.mk (sort_pairs w.heap.size A c ks wr hrow.out (by omega))
      have HF := Aside0.mk (And.intro hlen (sortP_perm hperm))
      have hsl : ks.length ≤ 9223372036854775807 := by omega
      have HOB := Aside0.mk (own_base hrow.out)
      clear hc0 hl0 hrg hC hcs hperm hlen hrow
      go_wp2_with (first | (go_at_call 93; refine HSK.out.mono ?_; rintro e w3 ⟨rfl, hrow3, hg3⟩))
      go_ret
      refine ⟨_, rfl, ?_, hnx.out.grown hg3 hnx.out.size HOB.out⟩
      rw [← HF.out.2, ← HF.out.1]
      exact hrow3
    · intro x cv kl yd yp w2 cnt2 hkey hlk hv hat hrg2 hlt hg2 hs2 hen
      obtain ⟨x', ex, rfl, hokx⟩ := keyOf_inv hkey
      obtain rfl : x = x' := by
        unfold valP at ex
        injection ex with ex
        obtain ⟨a, b, c, d⟩ := x
        obtain ⟨a', b', c', d'⟩ := x'
        simp at ex
        obtain ⟨rfl, rfl, rfl, rfl⟩ := ex
        rfl
      have HROW2 := Aside0.mk (hrow.out.kept hg2 (Or.inr (row_ne_iter hrow.out hrg.out).symm))
      have HRG2 := Aside0.mk hrg2
      have HC2 : Aside0 (Collected (datQ es) (fun z => left z && !z.sameKey (.string (kbP x))) ((ks ++ [x]).map kbP)) := ⟨by rw [List.map_append]; exact hC.out.step hlk hat⟩
      have HK2 : Aside0 (∀ y ∈ ks ++ [x], okPair y) := ⟨fun y hy => by
        rcases List.mem_append.1 hy with h | h
        · exact hks.out y h
        · obtain rfl : y = x := by simpa using h
          exact hokx⟩
      have HLT := Aside0.mk hlt
      have HG2 := Aside0.mk hg2
      have hnew : ks.length + 1 ≤ es.length := by have := hcs.out; omega
      have hb48 : (ks.length + 1) * 48 ≤ 140737488355328 := Nat.le_trans (Nat.mul_le_mul_right 48 hnew) (by omega)
      have hml : ks.length + 1 ≤ maxLen := by unfold maxLen; omega
      have hw2 := Nat.le_trans hnx.out.size hg2.size
      have hnw := Aside0.mk (cells4_new w2 (.cells #[.string x.f0, .string x.f1, .int .i64 x.f2.f0, .int .i64 x.f2.f1] 57) x)
      have hones := pairCells_one x
      unfold valP at hen
      clear hs2 hkey hlk hv hat hrg2 hlt hg2 ex hC
      go_wp2_with (first
        | (at_builtin; refine wpList_append_own _ rfl _ _ 55 rfl w.heap.size 57 j0 _ 4 48 Try.underlying55 hj hy0 hy1 hy2 rfl (by decide) _ _ _ rfl ((HROW2.out.alloc _).alloc _) ⟨w2.heap.size + 1, 0, none⟩ 1 1 (pairCells x) rfl rfl hnw.out hones hml hb48 (by simp; omega) ?_; intro v' w3 hown' hg3 hnil3; go_frame))
      have HRG3 := Aside0.mk (((HRG2.out.alloc _).alloc _).kept hg3 (row_ne_low HROW2.out hbl) (row_ne_iter HROW2.out HRG2.out))
      have HB3 := Aside0.mk ((below_alloc (below_alloc (hnx.out.grown HG2.out hnx.out.size (fun j hj => by cases hj; exact Nat.le_refl _)) _) _).grown hg3 (by simp; omega) (own_base HROW2.out))
      have HO3 : Aside0 (w3.ownsRow w.heap.size 57 4 v' (ks ++ [x]).length (pairRow (ks ++ [x]))) := ⟨by rw [List.length_append]; unfold pairRow; rw [List.flatMap_append]; simpa using hown'⟩
      have HN3 : Aside0 ((ks ++ [x]).length + cnt2 ≤ es.length) := ⟨by have := HLT.out; have := hcs.out; simp; omega⟩
      clear hown' hnil3
      go_roundw
      case rel => exact ⟨_, cnt2, ks ++ [x], HRG3, HN3, HO3, HC2, HK2, HB3⟩
      case measure => rw [HRG3.out.left_eq, hrg.out.left_eq]; exact HLT.out
end Go.Proofs.Ytannmdngejdjkaa.L
end
section
/- Pairs that may be: what the printed pair.May comes to. Plain. -/
namespace Go.Proofs.Ytannmdngejdjkaa.L
open Go.RowKit Go.Sort Go.Proofs.YtannmdngejdjkaaW.PrintWords Go.Proofs.YtannmdngejdjkaaW.PrintLast Go.Proofs.YtannmdngejdjkaaW.PrintMore Go.Proofs.YtannmdngejdjkaaW
set_option linter.unusedVariables false
set_option linter.unusedSimpArgs false
theorem wrapUp {n : Nat} (h : n < 4611686018427387904) : wrap64 ((n : Int) + 1) = ((n + 1 : Nat) : Int) := by unfold wrap64; omega
theorem wrapDn {n : Nat} (h : n < 4611686018427387904) : wrap64 (((n + 1 : Nat) : Int) - 1) = (n : Int) := by unfold wrap64; omega
theorem rdP_mid (pre suf : List Pr) (x : Pr) : rd_T57 (pre ++ x :: suf) ((pre.length : Nat) : Int) = x := by
  simp [rd_T57, List.getD_eq_getElem?_getD]
theorem len_one {α : Type} (pre : List α) (x : α) : (pre ++ [x]).length = pre.length + 1 := by simp
theorem app_one {α : Type} (pre suf : List α) (x : α) : (pre ++ [x]) ++ suf = pre ++ x :: suf := by simp
theorem keyT {a : ByteArray} (h : okT a) : ops_Key.f a = some (keyB a.data.toList) := by
  unfold ops_Key.f
  unfold okT maxLen at h
  rw [if_pos (by omega)]
def ltP (x y : Pr) : Bool := decide (cmpP x y < 0)
theorem less_f (k : Nat) (x y : Pr) : pair_Less.f (k + 5) x.f0 x.f1 x.f2.f0 x.f2.f1 y.f0 y.f1 y.f2.f0 y.f2.f1 = some (ltP x y) := by
  unfold pair_Less.f pair_order.f
  rw [cS_f, cS_f, cI_f, cI_f]
  simp only [Option.bind_some]
  rw [or4_f]
  rfl
def oneP (x : Pr) : Bool := keyB x.f0.data.toList && (keyB x.f1.data.toList && (decide (0 ≤ x.f2.f0) && (decide (x.f2.f0 < 8) && decide (1 ≤ x.f2.f1))))
def mayPP : Option Pr → List Pr → Bool
  | _, [] => true
  | p, x :: l => oneP x && ((match p with | none => true | some y => ltP y x) && mayPP (some x) l)
def mayP (l : List Pr) : Bool := mayPP none l
theorem mayP_loop : ∀ (suf pre : List Pr) (k : Nat), suf.length + 5 < k → (pre ++ suf).length < 4611686018427387904 → (∀ x ∈ suf, okPair x) →
    pair_May.l0 k (pre ++ suf) (pre ++ suf) (((pre ++ suf).length : Nat) : Int) ((pre.length : Nat) : Int) = some (mayPP pre.getLast? suf)
  | suf, pre, 0, hk, _, _ => by omega
  | [], pre, k + 1, _, _, _ => by
    simp only [pair_May.l0]
    rw [if_neg (by simp)]
    rfl
  | x :: suf, pre, k + 1, hk, hl, ho => by
    have hlt : ((pre.length : Nat) : Int) < (((pre ++ x :: suf).length : Nat) : Int) := by simp; omega
    have hpl : pre.length < 4611686018427387904 := by simp at hl; omega
    have ih := mayP_loop suf (pre ++ [x]) k (by simp at hk; omega) (by simpa using hl) (fun y hy => ho y (List.mem_cons_of_mem _ hy))
    rw [app_one, List.getLast?_concat, len_one] at ih
    have hox := ho x List.mem_cons_self
    simp only [pair_May.l0]
    rw [if_pos hlt, if_pos (by omega), if_pos hlt, rdP_mid, keyT hox.1, Option.bind_some, wrapUp hpl]
    unfold mayPP oneP
    cases h1 : keyB x.f0.data.toList with
    | false => rfl
    | true =>
      rw [if_pos rfl, keyT hox.2.1, Option.bind_some]
      cases h2 : keyB x.f1.data.toList with
      | false => rfl
      | true =>
        simp only [if_true, Bool.true_and]
        by_cases h3 : x.f2.f0 < 0
        · rw [if_pos h3]
          have : ¬ (0 ≤ x.f2.f0) := by omega
          simp [this]
        · rw [if_neg h3]
          have h3' : 0 ≤ x.f2.f0 := by omega
          by_cases h4 : x.f2.f0 ≥ 8
          · rw [if_pos h4]
            have : ¬ (x.f2.f0 < 8) := by omega
            simp [this]
          · rw [if_neg h4]
            have h4' : x.f2.f0 < 8 := by omega
            by_cases h5 : x.f2.f1 < 1
            · rw [if_pos h5]
              have : ¬ (1 ≤ x.f2.f1) := by omega
              simp [this]
            · rw [if_neg h5]
              have h5' : 1 ≤ x.f2.f1 := by omega
              simp only [h3', h4', h5', decide_true, Bool.true_and]
              rcases List.eq_nil_or_concat pre with rfl | ⟨p, y, rfl⟩
              · rw [if_neg (by simp)]
                simpa using ih
              · rw [List.concat_eq_append] at *
                have hw : wrap64 ((((p ++ [y]).length : Nat) : Int) - 1) = ((p.length : Nat) : Int) := by
                  rw [List.length_append, List.length_singleton]; exact wrapDn (by simp at hpl; omega)
                obtain ⟨k', rfl⟩ : ∃ k', k = k' + 5 := ⟨k - 5, by simp at hk; omega⟩
                rw [if_pos (by simp), hw, if_pos (by omega), if_pos (by simp; omega), app_one, rdP_mid, less_f, Option.bind_some, List.getLast?_concat]
                rw [app_one] at ih
                cases h6 : ltP y x with
                | false => simp [h6]
                | true =>
                  simp only [if_true]
                  rw [ih, h6]; rfl
theorem mayP_f (k : Nat) (l : List Pr) (hk : l.length + 5 < k) (hl : l.length < 4611686018427387904) (ho : ∀ x ∈ l, okPair x) : pair_May.f k l = some (mayP l) := by
  have := mayP_loop l [] k hk (by simpa using hl) ho
  simpa [pair_May.f, mayP] using this
theorem ltP_trans {x y z : Pr} (h1 : ltP x y = true) (h2 : ltP y z = true) : ltP x z = true := by
  unfold ltP at *
  simp only [decide_eq_true_eq] at *
  exact cmpP_ok.trans x y z h1 h2
theorem ltP_irrefl (x : Pr) : ltP x x = false := by
  unfold ltP
  have := (cmpP_ok.eq x x).2 rfl
  simp [this]
theorem ltP_tri (x y : Pr) : ltP x y = true ∨ x = y ∨ ltP y x = true := by
  unfold ltP
  simp only [decide_eq_true_eq]
  rcases Int.lt_trichotomy (cmpP x y) 0 with q | q | q
  · exact .inl q
  · exact .inr (.inl ((cmpP_ok.eq x y).1 q))
  · exact .inr (.inr ((cmpP_ok.anti y x).2 q))
abbrev pLt (x y : Pr) : Prop := ltP x y = true
theorem mayPP_iff : ∀ (l : List Pr) (p : Option Pr), mayPP p l = true ↔ (∀ x ∈ l, oneP x = true) ∧ (p.toList ++ l).Pairwise pLt
  | [], none => by simp [mayPP]
  | [], some y => by simp [mayPP]
  | x :: l, none => by
    have ih := mayPP_iff l (some x)
    unfold mayPP
    simp only [Bool.true_and, Bool.and_eq_true, ih, List.mem_cons, forall_eq_or_imp, Option.toList, List.nil_append, List.cons_append]
    exact and_assoc.symm
  | x :: l, some y => by
    have ih := mayPP_iff l (some x)
    unfold mayPP
    simp only [Bool.and_eq_true, ih, List.mem_cons, forall_eq_or_imp, Option.toList, List.nil_append, List.cons_append]
    constructor
    · rintro ⟨h1, h2, h3, h4⟩
      refine ⟨⟨h1, h3⟩, ?_⟩
      rw [List.pairwise_cons]
      refine ⟨fun z hz => ?_, h4⟩
      rcases List.mem_cons.1 hz with rfl | hz
      · exact h2
      · exact ltP_trans h2 ((List.pairwise_cons.1 h4).1 z hz)
    · rintro ⟨⟨h1, h3⟩, h4⟩
      rw [List.pairwise_cons] at h4
      exact ⟨h1, h4.1 x List.mem_cons_self, h3, h4.2⟩
theorem mayP_iff (l : List Pr) : mayP l = true ↔ (∀ x ∈ l, oneP x = true) ∧ l.Pairwise pLt := by
  have := mayPP_iff l none
  simpa [mayP] using this
end Go.Proofs.Ytannmdngejdjkaa.L
end
section
/- pair.set.has, pair.Add. By hand. -/
namespace Go.Proofs.Ytannmdngejdjkaa.L
open Go.RowKit Go.Maps Go.Sort Go.Proofs.YtannmdngejdjkaaW.PrintWords Go.Proofs.YtannmdngejdjkaaW.PrintLast Go.Proofs.YtannmdngejdjkaaW.PrintMore Go.Proofs.YtannmdngejdjkaaW
set_option linter.unusedVariables false
set_option linter.unusedSimpArgs false
set_option maxRecDepth 100000 in
theorem has_calls (gb n : Nat) (es : MapQ) (w : World) (hown : OwnsQ w gb n es) (p : Pr) (hp : okPair p) :
    Calls Try.prog 82 #[.map (some gb), .agg #[.string p.f0, .string p.f1, .int .i64 p.f2.f0, .int .i64 p.f2.f1]] w fun e w' => e = .returned (.bool (decide (0 < getQ es p))) ∧ Below w.heap.size w w' := by
  have HK := Aside0.mk (keyOf_pair p hp)
  have HO := Aside0.mk hown
  have HB := Aside0.mk (Below.refl w.heap.size w)
  clear hown hp
  go_enter Try.func82, Try.ntmps82
  go_wp2_with (first
    | (at_lookup; refine wpList_lookup_own_int _ rfl _ _ 85 rfl 57 3 .i64 lawP Try.underlying85 Try.underlying3 (zeroQ _) gb _ _ rfl (HO.out.alloc _) _ _ rfl HK.out ?_; intro c hat hwc; have HC := Aside0.mk hat; clear hat hwc))
  have h2 := HC.out
  rw [at_datQ] at h2
  injection h2 with h2
  injection h2 with _ h2
  subst h2
  go_ret
  exact ⟨rfl, below_alloc HB.out _⟩
theorem own_lower2 {w : World} {base base' : Nat} {e : TypeId} {size n : Nat} {v : Value} {xs : List Value} (h : w.ownsRow base e size v n xs) (hb : base' ≤ base) : w.ownsRow base' e size v n xs := by
  obtain ⟨h1, h2⟩ := h
  refine ⟨h1, ?_⟩
  rcases h2 with h2 | ⟨g, cap, cur, rfl, hg, hh, r⟩
  · exact .inl h2
  · exact .inr ⟨g, cap, cur, rfl, Nat.le_trans hb hg, hh, r⟩
theorem pairCells_lengthK (p : Pr) : (pairCells p).length = k57.sz := rfl
theorem R_pair {w : World} {base n : Nat} {v : Value} {xs : List Pr} (hn : n = xs.length) (h : w.ownsRow base 57 4 v n (pairRow xs)) : k57.R 57 w base (fun _ => True) v xs := by
  subst hn
  exact R_of_cells (d := k57) (enc := pairCells) pairCells_lengthK (fun w base ok x => k57_mkM w base ok x) h (fun _ _ => trivial)
/-- a list's pairs, in order, each once -/
def setP (l : List Pr) : List Pr := sortP ((ofQ l).map Prod.fst)
def okB (p : Pr) : Bool := decide (p.f0.size ≤ maxLen) && (decide (p.f1.size ≤ maxLen) && ((decide (-9223372036854775808 ≤ p.f2.f0) && decide (p.f2.f0 ≤ 9223372036854775807)) && (decide (-9223372036854775808 ≤ p.f2.f1) && decide (p.f2.f1 ≤ 9223372036854775807))))
theorem okB_iff {p : Pr} : okB p = true ↔ okPair p := by
  unfold okB okPair okT okI
  simp only [Bool.and_eq_true, decide_eq_true_eq]
def smallP (l : List Pr) : Bool := decide ((l.length + 1) * 256 ≤ 140737488351232) && l.all okB
theorem smallP_len {l : List Pr} (h : smallP l = true) : (l.length + 1) * 256 ≤ 140737488351232 := by
  unfold smallP at h; simp at h; exact h.1
theorem smallP_all {l : List Pr} (h : smallP l = true) : ∀ x ∈ l, okPair x := by
  unfold smallP at h
  simp only [Bool.and_eq_true, List.all_eq_true] at h
  exact fun x hx => okB_iff.1 (h.2 x hx)
theorem ofQ_keys (l : List Pr) : ∀ p ∈ ofQ l, p.1 ∈ l := by
  have : ∀ (l : List Pr) (es : MapQ) (S : Pr → Prop), (∀ p ∈ es, S p.1) → (∀ x ∈ l, S x) → ∀ p ∈ l.foldl incQ es, S p.1 := by
    intro l
    induction l with
    | nil => intro es S h _; exact h
    | cons x l ih =>
      intro es S h hl
      refine ih _ S (fun p hp => ?_) (fun y hy => hl y (List.mem_cons_of_mem _ hy))
      rcases setQ_mem hp with rfl | hp
      · exact hl x List.mem_cons_self
      · exact h p hp
  exact this l [] (· ∈ l) (fun p hp => by cases hp) (fun x hx => hx)
theorem setQ_len (es : MapQ) (k : Pr) (n : Int) : (setQ es k n).length ≤ es.length + 1 := by
  induction es with
  | nil => simp [setQ]
  | cons y l ih =>
    unfold setQ
    split
    · simp; exact ih
    · split <;> simp
theorem ofQ_len (l : List Pr) : (ofQ l).length ≤ l.length := by
  have : ∀ (l : List Pr) (es : MapQ), (l.foldl incQ es).length ≤ es.length + l.length := by
    intro l
    induction l with
    | nil => intro es; simp
    | cons x l ih =>
      intro es
      have h1 := ih (incQ es x)
      have h2 := setQ_len es x (wrap64 (getQ es x + 1))
      unfold incQ at h1
      show (l.foldl incQ (incQ es x)).length ≤ _
      unfold incQ at *
      simp only [List.length_cons]
      omega
  have h := this l []
  simp only [List.length_nil, Nat.zero_add] at h
  exact h
theorem ofQ_snoc (l : List Pr) (p : Pr) : ofQ (l ++ [p]) = incQ (ofQ l) p := by
  unfold ofQ
  rw [List.foldl_append]; rfl
def addP (l : List Pr) (p : Pr) : List Pr := if mayP l && mayP [p] then setP (l ++ [p]) else []
def pair_Add.f (l0 : List (S57)) (a1_0 : ByteArray) (a1_1 : ByteArray) (a1_2 : Int) (a1_3 : Int) : Option ((List (S57))) :=
  if smallP l0 = true ∧ okB ⟨a1_0, a1_1, ⟨a1_2, a1_3⟩⟩ = true then some (addP l0 ⟨a1_0, a1_1, ⟨a1_2, a1_3⟩⟩) else none
theorem C_one {w : World} {g : Nat} {p : Pr} (h : w.heap[g]? = some (.cells #[.string p.f0, .string p.f1, .int .i64 p.f2.f0, .int .i64 p.f2.f1] 57 (0, 0))) : Kd.C k57 w (some ⟨g, 0, none⟩) 1 [p] := by
  have ho : w.ownsRow g 57 4 (.slice (some ⟨g, 0, none⟩) 1 1) [p].length (pairRow [p]) :=
    ⟨rfl, .inr ⟨g, 1, _, rfl, Nat.le_refl _, h, Nat.le_refl _, by decide, rfl, rfl⟩⟩
  obtain ⟨A, c, e, _, hC⟩ := Kd.R_reads (R_pair rfl ho)
  cases e
  exact hC
set_option maxHeartbeats 4000000 in
set_option maxRecDepth 100000 in
theorem pair_Add.calls (A0 : Option Addr) (c0 : Nat) (l0 : List (S57)) (a1_0 : ByteArray) (a1_1 : ByteArray) (a1_2 : Int) (a1_3 : Int) (r : List (S57)) (w : World) (hr0 : Kd.C k57 w A0 l0.length l0) (hc0 : l0.length ≤ c0) (h : pair_Add.f l0 a1_0 a1_1 a1_2 a1_3 = some r) :
    Calls Try.prog 49 #[.slice A0 l0.length c0, .agg #[.string a1_0, .string a1_1, .int .i64 a1_2, .int .i64 a1_3]] w fun e w' => ∃ v0_ : Value, e = .returned (v0_) ∧ Kd.R k57 57 w' w.heap.size (fun _ => True) v0_ r ∧ Below w.heap.size w w' := by
  unfold pair_Add.f at h
  split at h
  case isFalse => cases h
  case isTrue hh =>
  cases h
  obtain ⟨p, hp⟩ : ∃ p : Pr, p = ⟨a1_0, a1_1, ⟨a1_2, a1_3⟩⟩ := ⟨_, rfl⟩
  rw [← hp] at hh ⊢
  obtain rfl : p.f0 = a1_0 := by rw [hp]
  obtain rfl : p.f1 = a1_1 := by rw [hp]
  obtain rfl : p.f2.f0 = a1_2 := by rw [hp]
  obtain rfl : p.f2.f1 = a1_3 := by rw [hp]
  clear hp
  have hlen := smallP_len hh.1
  have hl64 : l0.length < 4611686018427387904 := by omega
  have hall := smallP_all hh.1
  have hkp := okB_iff.1 hh.2
  have HMAY := Aside0.mk (fun (W : World) (hb : Below w.heap.size w W) => pair_May.calls (l0.length + 6) A0 c0 l0 (mayP l0) W (Kd.C_below hr0 hb) hc0 (mayP_f _ l0 (by omega) hl64 hall))
  have HMAY1 := Aside0.mk (fun (W : World) (g : Nat) (hW : W.heap[g]? = some (.cells #[.string p.f0, .string p.f1, .int .i64 p.f2.f0, .int .i64 p.f2.f1] 57 (0, 0))) => pair_May.calls 7 (some ⟨g, 0, none⟩) 1 [p] (mayP [p]) W (C_one hW) (Nat.le_refl _) (mayP_f _ [p] (show 1 + 5 < 7 by decide) (show 1 < 4611686018427387904 by decide) (fun x hx => by rw [List.mem_singleton.1 hx]; exact hkp)))
  have HR := Aside0.mk hr0
  have HS := Aside0.mk hall
  have hlm : l0.length < maxLen := by unfold maxLen; omega
  have HOF := Aside0.mk (fun (W : World) (hb : Below w.heap.size w W) => of_calls A0 c0 l0 W (Kd.C_below hr0 hb) hlm hall)
  clear hr0 hh hall
  have hu := Try.underlying57
  have hum := Try.underlying85
  go_enter Try.func49, Try.ntmps49
  go_wp2_with fail
  have hbx := blk_new w (.cells #[.string p.f0, .string p.f1, .int .i64 p.f2.f0, .int .i64 p.f2.f1] 57)
  refine (HMAY.out _ (below_alloc (Below.refl _ _) _)).mono ?_
  rintro e w1 ⟨rfl, hb1⟩
  have HB1 := Aside0.mk (below_step (below_alloc (Below.refl _ _) _) hb1)
  have hbx1 := blk_below hbx hb1
  clear hb1 HMAY hbx
  cases hm : mayP l0 with
  | false =>
    have HI := Aside0.mk (show addP l0 p = [] by simp [addP, hm])
    clear hm
    go_wp2
    go_ret
    exact ⟨_, rfl, by rw [HI.out]; exact Kd.R_nil _ _ _ _ _, HB1.out⟩
  | true =>
    have c0 := (blk_cell hbx1 0).trans rfl
    have c1 := (blk_cell hbx1 1).trans rfl
    have c2 := (blk_cell hbx1 2).trans rfl
    have c3 := (blk_cell hbx1 3).trans rfl
    have HX1 := Aside0.mk hbx1
    clear hbx1
    go_wp2_with fail
    refine (HMAY1.out _ _ (blk_new _ _)).mono ?_
    rintro e w2 ⟨rfl, hb2⟩
    have HB2 := Aside0.mk (below_step (below_alloc HB1.out _) hb2)
    have hbx2 := blk_below (blk_alloc HX1.out _) hb2
    clear hb2 HMAY1 HX1 HB1 c0 c1 c2 c3
    cases hm1 : mayP [p] with
    | false =>
      have HI := Aside0.mk (show addP l0 p = [] by simp [addP, hm1])
      clear hm hm1
      go_wp2
      go_ret
      exact ⟨_, rfl, by rw [HI.out]; exact Kd.R_nil _ _ _ _ _, HB2.out⟩
    | true =>
      have HI := Aside0.mk (show addP l0 p = setP (l0 ++ [p]) by simp [addP, hm, hm1])
      clear hm hm1
      go_wp2_with fail
      refine (HOF.out _ HB2.out).mono ?_
      rintro e w3 ⟨gb, rfl, hgb, ho3, hb3⟩
      have HB3 := Aside0.mk (below_step HB2.out hb3)
      have hbx3 := blk_below hbx2 hb3
      have c0 := (blk_cell hbx3 0).trans rfl
      have c1 := (blk_cell hbx3 1).trans rfl
      have c2 := (blk_cell hbx3 2).trans rfl
      have c3 := (blk_cell hbx3 3).trans rfl
      have hsz2 := HB2.out.size
      obtain ⟨st, w4, w5, c, r1, r2, r3, r5, ho5, hg5⟩ := incQ_at ho3.drew (ofQ_up l0) hlm p hkp
      rw [← ofQ_snoc] at ho5
      have HB5 := Aside0.mk ((below_drew HB3.out).grown hg5 (by have := HB3.out.size; simpa using this) (fun j hj => by simp at hj; omega))
      have hlenI : (ofQ (l0 ++ [p])).length * 64 ≤ 140737488355328 := Nat.le_trans (Nat.mul_le_mul_right 64 (ofQ_len _)) (by simp; omega)
      have HL := Aside0.mk (plist_calls gb _ (ofQ (l0 ++ [p])) w5 ho5 (ofQ_up _) (fun q hq => by
        have := ofQ_keys _ q hq
        rcases List.mem_append.1 this with h | h
        · exact HS.out _ h
        · rw [List.mem_singleton.1 h]; exact hkp) hlenI)
      clear HB2 HB3 HOF ho3 hb3 hbx2 hbx3 ho5 hg5
      go_wp2_with fail
      go_region
      all_goals
        go_wp2_with fail
        refine HL.out.mono ?_
        rintro e w6 ⟨v, rfl, ho6, hb6⟩
        obtain ⟨A', c', rfl⟩ := own_slice ho6
        have HO6 := Aside0.mk (own_lower2 ho6 HB5.out.size)
        have HB6 := Aside0.mk (below_step HB5.out hb6)
        clear ho6 hb6 HL HB5
        go_wp2
        go_ret
        exact ⟨_, rfl, by rw [HI.out]; exact R_pair (by unfold setP; rw [sortP_length, List.length_map]) HO6.out, HB6.out⟩
end Go.Proofs.Ytannmdngejdjkaa.L
end
section
/- slices.Clone, slices.IndexFunc, slices.DeleteFunc at pairs, with pair.Del's closure. By hand. -/
namespace Go.Proofs.Ytannmdngejdjkaa.L
open Go.RowKit Go.Proofs.YtannmdngejdjkaaW.PrintWords Go.Proofs.YtannmdngejdjkaaW.PrintLast Go.Proofs.YtannmdngejdjkaaW.PrintMore Go.Proofs.YtannmdngejdjkaaW
set_option linter.unusedVariables false
set_option linter.unusedSimpArgs false
set_option maxHeartbeats 1000000 in
set_option maxRecDepth 100000 in
theorem pair_clone (A0 : Option Addr) (c0 : Nat) (l0 : List Pr) (w : World) (hr0 : Kd.C k57 w A0 l0.length l0) (hlim : l0.length * 48 ≤ 140737488355328) :
    Calls Try.prog 79 #[.slice A0 l0.length c0] w fun e w' => ∃ v, e = .returned v ∧ w'.ownsRow w.heap.size 57 4 v l0.length (pairRow l0) ∧ Below w.heap.size w w' := by
  have hnil := fun (W : World) (a : Option Addr) (n c : Nat) => Lib.run_eql_slice_nil (P := Try.prog) W 55 57 a n c 0 0 Try.underlying55
  rcases A0 with _ | a
  · have h0 : l0.length = 0 := by
      rcases Nat.eq_zero_or_pos l0.length with h | h
      · exact h
      · obtain ⟨ad, h', _⟩ := hr0.2.2 h
        cases h'
    obtain rfl := List.eq_nil_of_length_eq_zero h0
    clear hr0
    go_enter Try.func79, Try.ntmps79
    go_wp2
    go_ret
    exact ⟨_, rfl, own_nil _ _ _ _, Below.refl _ _⟩
  · obtain ⟨i0, hi, hz0, hz1, hz2⟩ := info_parts info57
    have hemp : (w.alloc (.cells #[] 57)).ownsRow w.heap.size 57 4 (.slice (some ⟨w.heap.size, 0, none⟩) 0 0) 0 [] := by
      have h := World.ownsRow_lit (base := w.heap.size) (e := 57) (size := 4) w #[] 0 (Nat.le_refl _) (Nat.zero_le _) (by simp)
      simpa using h
    have hnews := C_news (d := k57) (enc := pairCells) pairCells_lengthK (fun h => k57_open h) (Kd.C_below hr0 (below_alloc (Below.refl w.heap.size w) (.cells #[] 57)))
    obtain ⟨v', w', hr, ho, hg, _, hat⟩ := run_append_own_at (P := Try.prog) (w := w.alloc (.cells #[] 57)) w.heap.size 55 55 57 i0 _ 4 48 Try.underlying55 hi hz0 hz1 hz2 (by rfl) (by omega) _ 0 [] hemp a l0.length c0 (pairRow l0)
      (flat_length (enc := pairCells) (sz := 4) (fun _ => rfl) l0) hnews (flat_one pairCells_one l0) (by unfold maxLen; omega) (by omega) (by simp)
    have HO := Aside0.mk ho
    have HB := Aside0.mk ((below_alloc (Below.refl w.heap.size w) (.cells #[] 57)).grown hg (by simp) (own_base hemp))
    clear hr0 ho hg hat hemp hnews hi hz0 hz1 hz2
    go_enter Try.func79, Try.ntmps79
    go_wp2_with (at_builtin; refine Lib.wpList_append_run _ rfl _ _ _ _ rfl _ _ rfl rfl _ _ hr ?_)
    go_ret
    exact ⟨_, rfl, by simpa using HO.out, HB.out⟩
/-- the first one of a list that meets p, behind k others -/
def firstQ (p : Pr → Bool) : Nat → List Pr → Int
  | _, [] => -1
  | k, x :: l => if p x then (k : Int) else firstQ p (k + 1) l
theorem firstQ_drop (p : Pr → Bool) (l : List Pr) : ∀ (k : Nat), k ≤ l.length → (∀ j, j < k → ∀ h : j < l.length, p l[j] = false) → firstQ p k (l.drop k) = firstQ p 0 l := by
  intro k
  induction k with
  | zero => intro _ _; rfl
  | succ k ih =>
    intro hk hp
    rw [← ih (by omega) (fun j hj h => hp j (by omega) h)]
    rw [List.drop_eq_getElem_cons (show k < l.length by omega)]
    simp [firstQ, hp k (by omega) (by omega)]
theorem firstQ_none (p : Pr → Bool) : ∀ (l : List Pr) (k : Nat), (∀ x ∈ l, p x = false) → firstQ p k l = -1
  | [], _, _ => rfl
  | x :: l, k, h => by
    unfold firstQ
    rw [if_neg (by simp [h x List.mem_cons_self])]
    exact firstQ_none p l (k + 1) (fun y hy => h y (List.mem_cons_of_mem _ hy))
theorem firstQ_cases (p : Pr → Bool) : ∀ (l : List Pr) (k : Nat), (firstQ p k l = -1 ∧ ∀ x ∈ l, p x = false) ∨ ∃ j, ∃ h : j < l.length, firstQ p k l = ((k + j : Nat) : Int) ∧ p l[j] = true ∧ ∀ i, i < j → ∀ h : i < l.length, p l[i] = false
  | [], k => .inl ⟨rfl, fun x hx => by cases hx⟩
  | x :: l, k => by
    cases hx : p x with
    | true => exact .inr ⟨0, by simp, by simp [firstQ, hx], by simpa using hx, fun i hi => by omega⟩
    | false =>
      have e : firstQ p k (x :: l) = firstQ p (k + 1) l := by simp [firstQ, hx]
      rcases firstQ_cases p l (k + 1) with ⟨h1, h2⟩ | ⟨j, hj, h1, h2, h3⟩
      · exact .inl ⟨by rw [e, h1], fun y hy => by
          rcases List.mem_cons.1 hy with rfl | hy
          · exact hx
          · exact h2 y hy⟩
      · refine .inr ⟨j + 1, by simpa using hj, by rw [e, h1]; congr 1; omega, by simpa using h2, fun i hi h => ?_⟩
        cases i with
        | zero => simpa using hx
        | succ i => simpa using h3 i (by omega) (by simpa using h)
def goneB (key elem : ByteArray) (x : Pr) : Bool := (x.f0.toList == key.toList) && (x.f1.toList == elem.toList)
set_option maxRecDepth 100000 in
theorem del_clo (key elem : ByteArray) (BK BE : Nat) (w : World) (hK : w.heap[BK]? = some (.cells #[.string key] 9 (0, 0))) (hE : w.heap[BE]? = some (.cells #[.string elem] 9 (0, 0))) (x : Pr) :
    Calls Try.prog 80 #[.agg #[.string x.f0, .string x.f1, .int .i64 x.f2.f0, .int .i64 x.f2.f1], .pointer (some ⟨BK, 0, none⟩), .pointer (some ⟨BE, 0, none⟩)] w fun e w' => e = .returned (.bool (goneB key elem x)) ∧ Below w.heap.size w w' := by
  have hk := blk_lt hK
  have he := blk_lt hE
  have hneK : BK ≠ w.heap.size := by omega
  have hneE : BE ≠ w.heap.size := by omega
  have c1 : w.cell? ⟨BK, 0, none⟩ = some (.string key) := blk_cell hK 0
  have c2 : w.cell? ⟨BE, 0, none⟩ = some (.string elem) := blk_cell hE 0
  have HB := Aside0.mk (below_alloc (Below.refl w.heap.size w) (.cells #[.string x.f0, .string x.f1, .int .i64 x.f2.f0, .int .i64 x.f2.f1] 57))
  have HG := Aside0.mk (show goneB key elem x = ((x.f0.toList == key.toList) && (x.f1.toList == elem.toList)) from rfl)
  clear hK hE
  cases h1 : (x.f0.toList == key.toList) with
  | false =>
    rw [h1] at HG
    go_enter Try.func80, Try.ntmps80
    go_wp2
    go_ret
    exact ⟨by rw [HG.out]; rfl, HB.out⟩
  | true =>
    rw [h1] at HG
    go_enter Try.func80, Try.ntmps80
    go_wp2
    go_ret
    exact ⟨by rw [HG.out]; rfl, HB.out⟩
set_option maxHeartbeats 1000000 in
set_option maxRecDepth 100000 in
theorem del_idx (key elem : ByteArray) (BK BE : Nat) (w : World) (hK : w.heap[BK]? = some (.cells #[.string key] 9 (0, 0))) (hE : w.heap[BE]? = some (.cells #[.string elem] 9 (0, 0))) (A0 : Option Addr) (c0 : Nat) (l0 : List Pr) (hr0 : Kd.C k57 w A0 l0.length l0) :
    Calls Try.prog 94 #[.slice A0 l0.length c0, .func (.func 80) #[] #[.pointer (some ⟨BK, 0, none⟩), .pointer (some ⟨BE, 0, none⟩)]] w fun e w' => e = .returned (.int .i64 (firstQ (goneB key elem) 0 l0)) ∧ Below w.heap.size w w' := by
  have HR := Aside0.mk hr0
  have HL := Aside0.mk hr0.2.1
  have HK := Aside0.mk hK
  have HE := Aside0.mk hE
  clear hr0 hK hE
  go_enter Try.func94, Try.ntmps94
  go_wp2
  go_loopw [8] (fun i wr => ∃ k : Nat, k ≤ l0.length ∧ i = .int .i64 k ∧ Aside0 (∀ j, j < k → ∀ h : j < l0.length, goneB key elem l0[j] = false) ∧ Aside0 (Below w.heap.size w wr)) (fun i _ => l0.length - (intOf i).toNat)
  case atStart => exact ⟨0, Nat.zero_le _, rfl, ⟨fun j hj => by omega⟩, ⟨Below.refl _ _⟩⟩
  case round =>
    obtain ⟨k, hk, rfl, ha, HB⟩ := hrel
    by_cases hlt : k < l0.length
    · obtain ⟨ad, e, hx0, hx1, hx2, hx3⟩ := at_T57 HR.out k (by omega) (by omega)
      cases e
      replace hx0 := (HB.out.cell (World.block_lt_of_cell? w _ hx0)).trans hx0
      replace hx1 := (HB.out.cell (World.block_lt_of_cell? w _ hx1)).trans hx1
      replace hx2 := (HB.out.cell (World.block_lt_of_cell? w _ hx2)).trans hx2
      replace hx3 := (HB.out.cell (World.block_lt_of_cell? w _ hx3)).trans hx3
      simp only [Int.toNat_natCast] at hx0 hx1 hx2 hx3
      have HX := Aside0.mk (rdP_at l0 k hlt)
      have h63 := HL.out
      have HCL := Aside0.mk (del_clo key elem BK BE wr (blk_below HK.out HB.out) (blk_below HE.out HB.out) (rd_T57 l0 k))
      cases hq : goneB key elem (rd_T57 l0 k) with
      | true =>
        have HF := Aside0.mk (show firstQ (goneB key elem) 0 l0 = (k : Int) by
          rw [← firstQ_drop (goneB key elem) l0 k hk ha.out, List.drop_eq_getElem_cons hlt]
          rw [HX.out] at hq
          simp [firstQ, hq])
        rw [hq] at HCL
        clear hq
        go_wp2_with fail
        refine HCL.out.mono ?_
        rintro e w' ⟨rfl, hb⟩
        have HB' := Aside0.mk (below_step HB.out hb)
        clear hx0 hx1 hx2 hx3 HB hb HCL
        go_wp2
        go_ret
        exact ⟨by rw [HF.out]; rfl, HB'.out⟩
      | false =>
        have HF := Aside0.mk (show ∀ j, j < k + 1 → ∀ h : j < l0.length, goneB key elem l0[j] = false by
          intro j hj h
          rcases Nat.lt_or_ge j k with q | q
          · exact ha.out j q h
          · obtain rfl : j = k := by omega
            rw [← HX.out]; exact hq)
        rw [hq] at HCL
        clear hq
        go_wp2_with fail
        refine HCL.out.mono ?_
        rintro e w' ⟨rfl, hb⟩
        have HB' := Aside0.mk (below_step HB.out hb)
        clear hx0 hx1 hx2 hx3 HB hb HCL ha
        go_wp2
        go_roundw
        case rel => exact ⟨k + 1, by omega, by go_num, HF, HB'⟩
        case measure => simp [intOf]; omega
    · have HF := Aside0.mk (show firstQ (goneB key elem) 0 l0 = -1 by
        obtain rfl : k = l0.length := by omega
        rw [← firstQ_drop (goneB key elem) l0 _ (Nat.le_refl _) ha.out, List.drop_length]; rfl)
      go_wp2
      go_ret
      exact ⟨by rw [HF.out]; rfl, HB.out⟩
end Go.Proofs.Ytannmdngejdjkaa.L
end
section
/- slices.DeleteFunc at pairs in a row of the call's own; pair.Del. By hand. -/
namespace Go.Proofs.Ytannmdngejdjkaa.L
open Go.RowKit Go.Proofs.YtannmdngejdjkaaW.PrintWords Go.Proofs.YtannmdngejdjkaaW.PrintLast Go.Proofs.YtannmdngejdjkaaW.PrintMore Go.Proofs.YtannmdngejdjkaaW
set_option linter.unusedVariables false
set_option linter.unusedSimpArgs false
section
variable {P : Program}
theorem wp_clear_runH (w : World) {o : Oper} {a : Act} {K : Act → World → Prop} {Q : Exit → Act → World → Prop} (s : Operand) (t : TypeId)
    (ho : o.op = .call { callee := .builtin .clear, args := #[s], argTypes := #[t] }) (v : Value) (hs : a.eval s = v) {v' : Value} {w' : World}
    (hr : (Builtin.clear_ #[t] o.type #[v]).run P w = .ok v' w') (h : K (a.put o.dst v') w') : o.wp P a w K Q := by
  unfold Oper.wp execOp
  simp only [ho, resolve, invoke, builtin, Sem.run_bind, Sem.run_pure, Result.andThen_ok, List.map_toArray, List.map_cons, List.map_nil, hs, hr]
  exact h
theorem wpList_clear_runH (w : World) {ops : Array Oper} {rest : List Oper} {o : Oper} {a : Act} {Q : Exit → Act → World → Prop} (hgd : o.guard = none) (s : Operand) (t : TypeId)
    (ho : o.op = .call { callee := .builtin .clear, args := #[s], argTypes := #[t] }) (v : Value) (hs : a.eval s = v) {v' : Value} {w' : World}
    (hr : (Builtin.clear_ #[t] o.type #[v]).run P w = .ok v' w') (h : wpList P ops Q rest (a.put o.dst v') w') : wpList P ops Q (o :: rest) a w :=
  wpList_plain hgd fun _ hK => wp_clear_runH w s t ho v hs hr (hK _ _ h)
end
theorem heap_setRow2 (w : World) (g : Nat) (cur cs : Array Value) (t : TypeId) (hg : w.heap[g]? = some (.cells cur t (0, 0))) : (w.setRow g cs).heap[g]? = some (.cells cs t (0, 0)) := by
  simp [World.setRow, Array.getElem?_modify, hg]
theorem grown_setRow2 (w : World) (g : Nat) (cs : Array Value) : w.grownBy (w.setRow g cs) (some g) := by
  refine ⟨rfl, rfl, rfl, by simp [World.setRow], fun k hk hne => ?_⟩
  have : g ≠ k := fun e => hne (by rw [e])
  simp [World.setRow, Array.getElem?_modify, this]
theorem zeroVP (w : World) : (zeroValue 57).run Try.prog w = .ok (.agg #[.string ⟨#[]⟩, .string ⟨#[]⟩, .int .i64 0, .int .i64 0]) w := by kernel_rfl
def zerosP (n : Nat) : List Value := (Builtin.zeroCells #[.string ⟨#[]⟩, .string ⟨#[]⟩, .int .i64 0, .int .i64 0] n).toList
theorem zerosP_length (n : Nat) : (zerosP n).length = n * 4 := by
  unfold zerosP
  simp [Builtin.zeroCells]
theorem zerosP_one (n : Nat) : ∀ v ∈ zerosP n, v.oneCell' = true := by
  intro v hv
  unfold zerosP at hv
  simp [Builtin.zeroCells] at hv
  obtain ⟨i, _, rfl⟩ := hv
  have : i % 4 < 4 := Nat.mod_lt _ (by decide)
  match h : i % 4 with
  | 0 => rfl
  | 1 => rfl
  | 2 => rfl
  | 3 => rfl
  | k + 4 => omega
theorem run_clearP (w : World) (g o n c : Nat) (cur : Array Value) (hg : w.heap[g]? = some (.cells cur 57 (0, 0))) (hn : 0 < n) (hfit : o + n * 4 ≤ cur.size) (ty : TypeId) :
    (Builtin.clear_ #[55] ty #[.slice (some ⟨g, o, none⟩) n c]).run Try.prog w = .ok (.tuple #[]) (w.setRow g (cur.toList.take o ++ zerosP n ++ cur.toList.drop (o + (zerosP n).length)).toArray) := by
  have hst := run_storeCells_at Try.prog g o 57 (zerosP n) 0 cur w hg (by rw [zerosP_length]; simpa using hfit) (zerosP_one n)
  obtain ⟨m, rfl⟩ : ∃ m, n = m + 1 := ⟨n - 1, by omega⟩
  have hz := zeroVP w
  simp [Builtin.clear_, run_underlying Try.underlying55, hz, Value.cells, Result.andThen]
  unfold zerosP at hst ⊢
  rw [hst]
  simp
theorem pairRow_set : ∀ (l : List Pr) (i : Nat) (r : Pr), i < l.length → pairRow (l.set i r) = ((((pairRow l).set (i * 4) (.string r.f0)).set (i * 4 + 1) (.string r.f1)).set (i * 4 + 2) (.int .i64 r.f2.f0)).set (i * 4 + 3) (.int .i64 r.f2.f1)
  | [], i, r, h => by simp at h
  | x :: l, 0, r, _ => by
    simp only [List.set_cons_zero, pairRow, List.flatMap_cons, pairCells, List.cons_append, List.nil_append, Nat.zero_mul, Nat.zero_add]
    rfl
  | x :: l, i + 1, r, h => by
    have ih := pairRow_set l i r (by simpa using h)
    have e : ∀ j : Nat, (i + 1) * 4 + j = (i * 4 + j) + 1 + 1 + 1 + 1 := fun j => by omega
    have e0 : (i + 1) * 4 = (i * 4) + 1 + 1 + 1 + 1 := by omega
    rw [List.set_cons_succ]
    show pairCells x ++ pairRow (l.set i r) = _
    rw [ih, e 1, e 2, e 3, e0]
    show _ = ((((pairCells x ++ pairRow l).set _ _).set _ _).set _ _).set _ _
    simp only [pairCells, List.cons_append, List.nil_append, List.set_cons_succ]
theorem C_ofown {w : World} {base n c : Nat} {A : Option Addr} {cur : List Pr} (hn : n = cur.length) (h : w.ownsRow base 57 4 (.slice A n c) n (pairRow cur)) : Kd.C k57 w A cur.length cur ∧ n ≤ c := by
  subst hn
  obtain ⟨A3, c3, e3, hl, hC⟩ := Kd.R_reads (R_pair rfl h)
  cases e3
  exact ⟨hC, hl⟩
def keepP (key elem : ByteArray) (l : List Pr) : List Pr := l.filter fun x => !goneB key elem x
theorem filter_first (q : Pr → Bool) (l : List Pr) (j : Nat) (hj : j < l.length) (h1 : q l[j] = true) (h2 : ∀ i, i < j → ∀ h : i < l.length, q l[i] = false) : (l.take (j + 1)).filter (fun x => !q x) = l.take j := by
  rw [List.take_succ_eq_append_getElem hj, List.filter_append]
  have e1 : (l.take j).filter (fun x => !q x) = l.take j := by
    rw [List.filter_eq_self]
    intro a ha
    obtain ⟨i, hi, rfl⟩ := List.mem_iff_getElem.1 ha
    rw [List.getElem_take]
    rw [h2 i (by simp at hi; omega) (by simp at hi; omega)]; rfl
  rw [e1]
  simp [h1]
set_option maxHeartbeats 4000000 in
set_option maxRecDepth 100000 in
/-- slices.DeleteFunc in a row of the call's own -/
theorem delfunc (w0 : World) (key elem : ByteArray) (BK BE : Nat) (A : Option Addr) (c : Nat) (l : List Pr) (w : World) (hB : Below w0.heap.size w0 w) (hK : w.heap[BK]? = some (.cells #[.string key] 9 (0, 0))) (hE : w.heap[BE]? = some (.cells #[.string elem] 9 (0, 0)))
    (ho : w.ownsRow w0.heap.size 57 4 (.slice A l.length c) l.length (pairRow l)) (hlm : l.length < 4611686018427387904) :
    Calls Try.prog 78 #[.slice A l.length c, .func (.func 80) #[] #[.pointer (some ⟨BK, 0, none⟩), .pointer (some ⟨BE, 0, none⟩)]] w fun e w' =>
      ∃ A' c', e = .returned (.slice A' (keepP key elem l).length c') ∧ w'.ownsRow w0.heap.size 57 4 (.slice A' (keepP key elem l).length c') (keepP key elem l).length (pairRow (keepP key elem l)) ∧ Below w0.heap.size w0 w' := by
  obtain ⟨A2, c2, e2, hlc, hC⟩ := Kd.R_reads (R_pair rfl ho)
  cases e2
  have HIDX := Aside0.mk (del_idx key elem BK BE w hK hE A c l hC)
  rcases firstQ_cases (goneB key elem) l 0 with ⟨h1, h2⟩ | ⟨j0, hj0, h1, h2, h3⟩
  · have HF := Aside0.mk (show keepP key elem l = l by
      unfold keepP
      rw [List.filter_eq_self]
      intro a ha; rw [h2 a ha]; rfl)
    have HO := Aside0.mk ho
    have HB := Aside0.mk hB
    rw [h1] at HIDX
    clear h1 h2 hC ho hB hK hE
    go_enter Try.func78, Try.ntmps78
    go_wp2_with fail
    refine HIDX.out.mono ?_
    rintro e w1 ⟨rfl, hb1⟩
    have HO1 := Aside0.mk (pw_own_below HO.out hb1)
    have HB1 := Aside0.mk (below_then HB.out HB.out.size hb1)
    clear hb1
    go_wp2
    go_ret
    rw [HF.out]
    exact ⟨_, _, rfl, HO1.out, HB1.out⟩
  · obtain ⟨g, c', e, hgb0, hglt0⟩ := ho.form (by omega)
    cases e
    have HO := Aside0.mk ho
    have HB := Aside0.mk hB
    have HK := Aside0.mk hK
    have HE := Aside0.mk hE
    have HF0 := Aside0.mk (filter_first (goneB key elem) l j0 hj0 h2 h3)
    rw [Nat.zero_add] at h1
    rw [h1] at HIDX
    clear h1 h2 h3 hC ho hB hK hE
    go_enter Try.func78, Try.ntmps78
    go_wp2_with fail
    refine HIDX.out.mono ?_
    rintro e w1 ⟨rfl, hb1⟩
    have HO1 := Aside0.mk (pw_own_below HO.out hb1)
    have HB1 := Aside0.mk (below_then HB.out HB.out.size hb1)
    have HK1 := Aside0.mk (blk_below HK.out hb1)
    have HE1 := Aside0.mk (blk_below HE.out hb1)
    clear hb1 HO HB HK HE HIDX
    have hjm : (((j0 : Nat) : Int) == -1) = false := beq_eq_false_iff_ne.2 (by omega)
    go_wp2
    go_loopw [5, 6] (fun v u wr => ∃ (i j : Nat) (cur : List Pr), j ≤ l.length ∧ i < j ∧ v = .int .i64 i ∧ u = .int .i64 j ∧ cur.length = l.length ∧ Aside0 (cur.take i = (l.take j).filter (fun x => !goneB key elem x)) ∧ Aside0 (cur.drop j = l.drop j) ∧
      Aside0 (wr.ownsRow w0.heap.size 57 4 (.slice (some ⟨g, 0, none⟩) l.length c) l.length (pairRow cur)) ∧ Aside0 (Below w0.heap.size w0 wr) ∧ Aside0 (wr.heap[BK]? = some (.cells #[.string key] 9 (0, 0))) ∧ Aside0 (wr.heap[BE]? = some (.cells #[.string elem] 9 (0, 0))))
      (fun _ u _ => l.length - (intOf u).toNat)
    case atStart => exact ⟨j0, j0 + 1, l, by omega, by omega, rfl, by go_num, rfl, ⟨HF0.out.symm⟩, ⟨rfl⟩, HO1, HB1, HK1, HE1⟩
    case round =>
      clear HO1 HB1 HK1 HE1 HF0
      obtain ⟨i, j, cur, hjl, hij, rfl, rfl, hcl, ht, hd, hO, hBr, hKr, hEr⟩ := hrel
      have hgl : g < wr.heap.size := (hO.out.lt g rfl).2
      by_cases hlt : j < l.length
      · have hC := (C_ofown hcl.symm hO.out).1
        obtain ⟨ad, e, hx0, hx1, hx2, hx3⟩ := at_T57 hC (j : Nat) (by omega) (by omega)
        cases e
        have hxl : rd_T57 cur (j : Nat) = l[j] := by
          rw [rdP_at cur j (by omega)]
          have h1 := List.drop_eq_getElem_cons (show j < cur.length by omega)
          have h2 := List.drop_eq_getElem_cons hlt
          rw [hd.out, h2] at h1
          injection h1 with h1
          exact h1.symm
        simp only [Int.toNat_natCast, add_plain] at hx0 hx1 hx2 hx3
        have HXL := Aside0.mk hxl
        clear hxl
        generalize rd_T57 cur (j : Nat) = x at hx0 hx1 hx2 hx3 HXL
        have hnew := blk_new wr (.cells #[.string x.f0, .string x.f1, .int .i64 x.f2.f0, .int .i64 x.f2.f1] 57)
        have HCLO := Aside0.mk (del_clo key elem BK BE (wr.alloc (.cells #[.string x.f0, .string x.f1, .int .i64 x.f2.f0, .int .i64 x.f2.f1] 57)) (blk_alloc hKr.out _) (blk_alloc hEr.out _) x)
        have HNEW := Aside0.mk hnew
        clear hnew hC
        cases hq : goneB key elem x with
        | true =>
          have HT : Aside0 (cur.take i = (l.take (j + 1)).filter (fun x => !goneB key elem x)) := ⟨by
            rw [List.take_succ_eq_append_getElem hlt, List.filter_append, ht.out, ← HXL.out]
            simp [hq]⟩
          have HD : Aside0 (cur.drop (j + 1) = l.drop (j + 1)) := ⟨by
            have := congrArg (List.drop 1) hd.out
            simpa [List.drop_drop] using this⟩
          rw [hq] at HCLO
          clear hq
          go_wp2_with fail
          refine HCLO.out.mono ?_
          rintro e w2 ⟨rfl, hb2⟩
          have HO2 := Aside0.mk (pw_own_below (hO.out.alloc _) hb2)
          have HB2 := Aside0.mk (below_then (below_alloc hBr.out _) (by have := hBr.out.size; simp; omega) hb2)
          have HK2 := Aside0.mk (blk_below (blk_alloc hKr.out _) hb2)
          have HE2 := Aside0.mk (blk_below (blk_alloc hEr.out _) hb2)
          clear hb2 hO hBr hKr hEr HCLO HNEW HXL ht hd hx0 hx1 hx2 hx3
          go_wp2
          go_roundw
          case rel => exact ⟨i, j + 1, cur, by omega, by omega, rfl, by go_num, hcl, HT, HD, HO2, HB2, HK2, HE2⟩
          case measure => simp [intOf]; omega
        | false =>
          have HT : Aside0 ((cur.set i x).take (i + 1) = (l.take (j + 1)).filter (fun x => !goneB key elem x)) := ⟨by
            rw [List.take_succ_eq_append_getElem hlt, List.filter_append, ← ht.out, ← HXL.out]
            rw [List.take_succ_eq_append_getElem (by simp; omega), List.take_set_of_le (Nat.le_refl _)]
            simp [hq]⟩
          have HD : Aside0 ((cur.set i x).drop (j + 1) = l.drop (j + 1)) := ⟨by
            rw [List.drop_set_of_lt (by omega)]
            have := congrArg (List.drop 1) hd.out
            simpa [List.drop_drop] using this⟩
          rw [hq] at HCLO
          clear hq
          go_wp2_with fail
          refine HCLO.out.mono ?_
          rintro e w2 ⟨rfl, hb2⟩
          have HO2 := Aside0.mk (pw_own_below (hO.out.alloc _) hb2)
          have HB2 := Aside0.mk (below_then (below_alloc hBr.out _) (by have := hBr.out.size; simp; omega) hb2)
          have HK2 := Aside0.mk (blk_below (blk_alloc hKr.out _) hb2)
          have HE2 := Aside0.mk (blk_below (blk_alloc hEr.out _) hb2)
          have hbx := blk_below HNEW.out hb2
          have b0 : w2.cell? ⟨wr.heap.size, 0, none⟩ = some (.string x.f0) := blk_cell hbx 0
          have b1 : w2.cell? ⟨wr.heap.size, 1, none⟩ = some (.string x.f1) := blk_cell hbx 1
          have b2 : w2.cell? ⟨wr.heap.size, 2, none⟩ = some (.int .i64 x.f2.f0) := blk_cell hbx 2
          have b3 : w2.cell? ⟨wr.heap.size, 3, none⟩ = some (.int .i64 x.f2.f1) := blk_cell hbx 3
          have hC2 := (C_ofown hcl.symm HO2.out).1
          obtain ⟨ad, e, hy0, hy1, hy2, hy3⟩ := at_T57 hC2 (i : Nat) (by omega) (by omega)
          cases e
          simp only [Int.toNat_natCast, add_plain] at hy0 hy1 hy2 hy3
          have f0 := HO2.out.frozenAt (i * 4)
          have f1 := HO2.out.frozenAt (i * 4 + 1)
          have f2 := HO2.out.frozenAt (i * 4 + 2)
          have f3 := HO2.out.frozenAt (i * 4 + 3)
          obtain ⟨cells, hcells⟩ := own_typed HO2.out g rfl
          have HKg := Aside0.mk (blk_ne HK2.out hcells (by decide))
          have HEg := Aside0.mk (blk_ne HE2.out hcells (by decide))
          have hne1 : wr.heap.size ≠ g := by omega
          have hne2 : g ≠ wr.heap.size := by omega
          clear hb2 hO hBr hKr hEr HCLO HNEW HXL ht hd hx0 hx1 hx2 hx3 hbx hC2 hcells
          go_wp2
          have HO3 : Aside0 (((((w2.setCell ⟨g, i * 4, none⟩ (.string x.f0)).setCell ⟨g, i * 4 + 1, none⟩ (.string x.f1)).setCell ⟨g, i * 4 + 2, none⟩ (.int .i64 x.f2.f0)).setCell ⟨g, i * 4 + 3, none⟩ (.int .i64 x.f2.f1)).ownsRow w0.heap.size 57 4 (.slice (some ⟨g, 0, none⟩) l.length c) l.length (pairRow (cur.set i x))) := ⟨by
            rw [pairRow_set cur i x (by omega)]
            exact ((((HO2.out.stored (i * 4) (.string x.f0)).1.stored (i * 4 + 1) (.string x.f1)).1.stored (i * 4 + 2) (.int .i64 x.f2.f0)).1.stored (i * 4 + 3) (.int .i64 x.f2.f1)).1⟩
          have HB3 := Aside0.mk (Below.setCell (p := ⟨g, i * 4 + 3, none⟩) (Below.setCell (p := ⟨g, i * 4 + 2, none⟩) (Below.setCell (p := ⟨g, i * 4 + 1, none⟩) (Below.setCell (p := ⟨g, i * 4, none⟩) HB2.out hgb0 (.string x.f0)) hgb0 (.string x.f1)) hgb0 (.int .i64 x.f2.f0)) hgb0 (.int .i64 x.f2.f1))
          have HK3 := Aside0.mk (blk_far (blk_far (blk_far (blk_far HK2.out (p := ⟨g, i * 4, none⟩) HKg.out (.string x.f0)) (p := ⟨g, i * 4 + 1, none⟩) HKg.out (.string x.f1)) (p := ⟨g, i * 4 + 2, none⟩) HKg.out (.int .i64 x.f2.f0)) (p := ⟨g, i * 4 + 3, none⟩) HKg.out (.int .i64 x.f2.f1))
          have HE3 := Aside0.mk (blk_far (blk_far (blk_far (blk_far HE2.out (p := ⟨g, i * 4, none⟩) HEg.out (.string x.f0)) (p := ⟨g, i * 4 + 1, none⟩) HEg.out (.string x.f1)) (p := ⟨g, i * 4 + 2, none⟩) HEg.out (.int .i64 x.f2.f0)) (p := ⟨g, i * 4 + 3, none⟩) HEg.out (.int .i64 x.f2.f1))
          go_roundw
          case rel => exact ⟨i + 1, j + 1, cur.set i x, by omega, by omega, by go_num, by go_num, by rw [List.length_set]; exact hcl, HT, HD, HO3, HB3, HK3, HE3⟩
          case measure => simp [intOf]; omega
      · have hje : j = l.length := by omega
        have HF : Aside0 (keepP key elem l = cur.take i) := ⟨by
          have := ht.out
          rw [hje, List.take_length] at this
          exact this.symm⟩
        have hil : i < l.length := by omega
        obtain ⟨h5, h6⟩ := hO.out
        rcases h6 with ⟨h6, _⟩ | ⟨g', cap', cells, h6, q1, q2, q3, q4, q5, q6⟩
        · cases h6
        · cases h6
          have hcs : i * 4 + (l.length - i) * 4 ≤ cells.size := by rw [q5]; omega
          have hclr := fun ty => run_clearP wr g (i * 4) (l.length - i) (c - i) cells q2 (by omega) hcs ty
          have HX := Aside0.mk (And.intro q2 (And.intro q4 (And.intro q5 q6)))
          have hcm : c ≤ 9223372036854775807 := by unfold maxLen at q4; omega
          clear q2 q4 q5 q6 hcs h5
          go_wp2_with (first | (at_builtin; refine wpList_clear_runH _ rfl _ _ rfl _ rfl (hclr _) ?_))
          have hkl : (keepP key elem l).length = i := by rw [HF.out, List.length_take]; omega
          have hrl : (pairRow (keepP key elem l)).length = i * 4 := by rw [flat_length (enc := pairCells) (sz := 4) (fun _ => rfl), hkl]
          have hz := zerosP_length (l.length - i)
          go_ret
          refine ⟨some ⟨g, 0, none⟩, c, by rw [hkl]; rfl, ?_, hBr.out.grown (grown_setRow2 wr g _) hBr.out.size (fun k hk => by injection hk with hk; omega)⟩
          rw [hkl]
          refine ⟨hrl, .inr ⟨g, c, _, rfl, hgb0, heap_setRow2 _ g _ _ _ HX.out.1, by omega, HX.out.2.1, ?_, ?_⟩⟩
          · have h1 := HX.out.2.2.1
            simp only [List.size_toArray, List.length_append, List.length_take, List.length_drop, Array.length_toList, hz]
            omega
          · have h1 := HX.out.2.2.1
            have h2 := HX.out.2.2.2
            rw [HF.out]
            show List.take (i * 4) (List.take (i * 4) cells.toList ++ _) = _
            rw [List.take_append_of_le_length (by simp; omega), List.take_take, Nat.min_self]
            have h3 : cells.toList.take (i * 4) = (cells.toList.take (l.length * 4)).take (i * 4) := by rw [List.take_take, Nat.min_eq_left (by omega)]
            rw [h3, h2]
            exact flat_take (sz := 4) (fun _ => rfl) cur i
def delP (l : List Pr) (key elem : ByteArray) : List Pr := if mayP l then keepP key elem l else []
def pair_Del.f (l0 : List (S57)) (a1 : ByteArray) (a2 : ByteArray) : Option ((List (S57))) :=
  if smallP l0 = true then some (delP l0 a1 a2) else none
set_option maxHeartbeats 4000000 in
set_option maxRecDepth 100000 in
theorem pair_Del.calls (A0 : Option Addr) (c0 : Nat) (l0 : List (S57)) (a1 : ByteArray) (a2 : ByteArray) (r : List (S57)) (w : World) (hr0 : Kd.C k57 w A0 l0.length l0) (hc0 : l0.length ≤ c0) (h : pair_Del.f l0 a1 a2 = some r) :
    Calls Try.prog 51 #[.slice A0 l0.length c0, .string a1, .string a2] w fun e w' => ∃ v0_ : Value, e = .returned (v0_) ∧ Kd.R k57 57 w' w.heap.size (fun _ => True) v0_ r ∧ Below w.heap.size w w' := by
  unfold pair_Del.f at h
  split at h
  case isFalse => cases h
  case isTrue hh =>
  cases h
  have hlen := smallP_len hh
  have hl64 : l0.length < 4611686018427387904 := by omega
  have hall := smallP_all hh
  have HMAY := Aside0.mk (fun (W : World) (hb : Below w.heap.size w W) => pair_May.calls (l0.length + 6) A0 c0 l0 (mayP l0) W (Kd.C_below hr0 hb) hc0 (mayP_f _ l0 (by omega) hl64 hall))
  have HCL := Aside0.mk (fun (W : World) (hb : Below w.heap.size w W) => pair_clone A0 c0 l0 W (Kd.C_below hr0 hb) (by omega))
  clear hr0 hh hall
  go_enter Try.func51, Try.ntmps51
  go_wp2_with fail
  have hb0 : Below w.heap.size w ((w.alloc (.cells #[.string a1] 9)).alloc (.cells #[.string a2] 9)) := below_alloc (below_alloc (Below.refl _ _) _) _
  have hK : ((w.alloc (.cells #[.string a1] 9)).alloc (.cells #[.string a2] 9)).heap[w.heap.size]? = some (.cells #[.string a1] 9 (0, 0)) := blk_alloc (blk_new w _) _
  have hE : ((w.alloc (.cells #[.string a1] 9)).alloc (.cells #[.string a2] 9)).heap[w.heap.size + 1]? = some (.cells #[.string a2] 9 (0, 0)) := by have := blk_new (w.alloc (.cells #[.string a1] 9)) (.cells #[.string a2] 9); simpa using this
  refine (HMAY.out _ hb0).mono ?_
  rintro e w1 ⟨rfl, hb1⟩
  have HB1 := Aside0.mk (below_step hb0 hb1)
  have HK1 := Aside0.mk (blk_below hK hb1)
  have HE1 := Aside0.mk (blk_below hE hb1)
  clear hb1 hb0 hK hE HMAY
  cases hm : mayP l0 with
  | false =>
    have HI := Aside0.mk (show delP l0 a1 a2 = [] by simp [delP, hm])
    clear hm
    go_wp2
    go_ret
    exact ⟨_, rfl, by rw [HI.out]; exact Kd.R_nil _ _ _ _ _, HB1.out⟩
  | true =>
    have HI := Aside0.mk (show delP l0 a1 a2 = keepP a1 a2 l0 by simp [delP, hm])
    clear hm
    go_wp2_with fail
    refine (HCL.out _ HB1.out).mono ?_
    rintro e w2 ⟨v, rfl, ho2, hb2⟩
    obtain ⟨A2, c2, rfl⟩ := own_slice ho2
    have HD := Aside0.mk (delfunc w a1 a2 w.heap.size (w.heap.size + 1) A2 c2 l0 w2 (below_step HB1.out hb2) (blk_below HK1.out hb2) (blk_below HE1.out hb2) (own_lower2 ho2 HB1.out.size) hl64)
    clear ho2 hb2 HB1 HK1 HE1 HCL
    go_wp2_with fail
    refine HD.out.mono ?_
    rintro e w3 ⟨A3, c3, rfl, ho3, hb3⟩
    have HO3 := Aside0.mk ho3
    have HB3 := Aside0.mk hb3
    clear ho3 hb3 HD
    go_wp2
    go_ret
    exact ⟨_, rfl, by rw [HI.out]; exact R_pair rfl HO3.out, HB3.out⟩
end Go.Proofs.Ytannmdngejdjkaa.L
end
section
/- pair.Elems: the elements of a key. By hand: the loop; slices.Compact by its contract. -/
namespace Go.Proofs.Ytannmdngejdjkaa.L
open Go.RowKit Go.Sort Go.Proofs.YtannmdngejdjkaaW.PrintWords Go.Proofs.YtannmdngejdjkaaW.PrintLast Go.Proofs.YtannmdngejdjkaaW.PrintMore Go.Proofs.YtannmdngejdjkaaW
set_option linter.unusedVariables false
set_option linter.unusedSimpArgs false
theorem enc_data (a : ByteArray) : encStr a.data.toList = .string a := by
  unfold encStr; simp
def keyIs (key : ByteArray) (x : Pr) : Bool := x.f0.toList == key.toList
def elemL (l : List Pr) (key : ByteArray) : List (List UInt8) := (l.filter (keyIs key)).map fun x => x.f1.data.toList
def elemsP (l : List Pr) (key : ByteArray) : List ByteArray := (Lib.compact (elemL l key)).map fun b => ⟨b.toArray⟩
def pair_Elems.f (l0 : List (S57)) (a1 : ByteArray) : Option (List ByteArray) :=
  if smallP l0 = true then some (elemsP l0 a1) else none
theorem own_short {w : World} {base n c m : Nat} {A : Option Addr} {e : TypeId} {xs : List Value} (h : w.ownsRow base e 1 (.slice A n c) n xs) (hm : m ≤ n) (hp : 0 < n) : w.ownsRow base e 1 (.slice A m c) m (xs.take m) := by
  obtain ⟨h1, h2⟩ := h
  rcases h2 with ⟨h2, _⟩ | ⟨g, cap, cur, h2, hg, hh, h3, h4, h5, h6⟩
  · injection h2 with _ h2; omega
  · cases h2
    refine ⟨by rw [List.length_take, h1]; omega, .inr ⟨g, c, cur, rfl, hg, hh, by omega, h4, h5, ?_⟩⟩
    rw [← h6, List.take_take]
    congr 1
    omega
theorem elemL_take (l : List Pr) (key : ByteArray) (k : Nat) (h : k < l.length) : elemL (l.take (k + 1)) key = elemL (l.take k) key ++ (if keyIs key (rd_T57 l (k : Nat)) = true then [(rd_T57 l (k : Nat)).f1.data.toList] else []) := by
  unfold elemL
  rw [List.take_succ_eq_append_getElem h, List.filter_append, List.map_append, rdP_at l k h]
  congr 1
  cases hq : keyIs key l[k] <;> simp [hq]
theorem elemL_len (l : List Pr) (key : ByteArray) : (elemL l key).length ≤ l.length := by
  unfold elemL
  rw [List.length_map]; exact List.length_filter_le _ _
theorem compact_len (zs : List (List UInt8)) : (Lib.compact zs).length ≤ zs.length := by
  unfold Lib.compact Lib.compactUpTo
  rw [List.length_map]
  exact Nat.le_trans (List.length_filter_le _ _) (by simp)
/-- slices.Compact in a row of the call's own -/
theorem compact_own (base : Nat) (A : Option Addr) (c : Nat) (zs : List (List UInt8)) (w : World) (ho : w.ownsRow base 9 1 (.slice A zs.length c) zs.length (zs.map encStr)) (hm : zs.length ≤ 9223372036854775807) :
    Calls Try.prog 84 #[.slice A zs.length c] w fun e w' => ∃ A' c', e = .returned (.slice A' (Lib.compact zs).length c') ∧ w'.ownsRow base 9 1 (.slice A' (Lib.compact zs).length c') (Lib.compact zs).length ((Lib.compact zs).map encStr) ∧ w.grownBy w' (Value.slice A zs.length c).ownBlock := by
  rcases Nat.eq_zero_or_pos zs.length with h0 | hpos
  · obtain rfl := List.eq_nil_of_length_eq_zero h0
    refine (Try.slices_Compact_string_empty A c w).mono ?_
    rintro e w' ⟨rfl, rfl⟩
    exact ⟨A, c, rfl, ho, World.grownBy.refl _ _⟩
  · rcases ho.2 with ⟨hnil, h0⟩ | ⟨g, cap, cur, he, hbase, hb, h1, h2, h3, h4⟩
    · injection hnil with _ hn _; omega
    · cases he
      have hH : Holds encStr w g 0 zs.toArray := holds_of_block hb (by simpa using h4)
      refine (Try.slices_Compact_string g 0 c zs w hH hm h1).mono ?_
      rintro e w' ⟨rfl, q, rfl⟩
      have hl := compact_len zs
      have hrow := ownsRow_sorted (ss := zs) (ts := Lib.compact zs ++ List.replicate (zs.length - (Lib.compact zs).length) []) (os := #[]) (n := q) (by simp; omega) hbase hb h1 h2 h3
      rw [grow_empty] at hrow
      have hg := grownBy_sorted (w := w) (g := g) (n := q) (os := #[]) (Lib.compact zs ++ List.replicate (zs.length - (Lib.compact zs).length) []).toArray
      rw [grow_empty] at hg
      refine ⟨_, _, rfl, ?_, hg⟩
      have := own_short hrow hl hpos
      rw [List.map_append, List.take_append_of_le_length (by simp), List.take_of_length_le (by simp)] at this
      exact this
theorem cell_one2 (w4 : World) (o : Obj) (a : ByteArray) : ∀ j u, ([encStr a.data.toList] : List Value)[j]? = some u → ((w4.alloc o).alloc (.cells #[.string a] 9)).cell? ((⟨w4.heap.size + 1, 0, none⟩ : Addr).add j) = some u := by
  have hb : ((w4.alloc o).alloc (.cells #[.string a] 9)).heap[w4.heap.size + 1]? = some (.cells #[.string a] 9 (0, 0)) := by
    have := blk_new (w4.alloc o) (.cells #[.string a] 9)
    simpa using this
  intro j u hj
  rw [add_plain, blk_cell hb j]
  match j, hj with
  | 0, hj => rw [enc_data] at hj; exact hj
  | j + 1, hj => simp at hj
theorem R_texts {w : World} {base : Nat} {A : Option Addr} {c : Nat} {zs : List (List UInt8)} (h : w.ownsRow base 9 1 (.slice A zs.length c) zs.length (zs.map encStr)) : Kd.R Kd.string 9 w base (fun _ => True) (.slice A zs.length c) (zs.map fun b => (⟨b.toArray⟩ : ByteArray)) := by
  have e : (zs.map fun b => (⟨b.toArray⟩ : ByteArray)).flatMap (fun a => [Value.string a]) = zs.map encStr := by
    rw [← List.map_eq_flatMap, List.map_map]
    rfl
  refine R_of_cells (d := Kd.string) (enc := fun a => [Value.string a]) (fun _ => rfl) (fun _ _ _ _ => rfl) ?_ (fun _ _ => trivial)
  rw [e, List.length_map]
  exact h
set_option maxHeartbeats 4000000 in
set_option maxRecDepth 100000 in
theorem pair_Elems.calls (A0 : Option Addr) (c0 : Nat) (l0 : List (S57)) (a1 : ByteArray) (r : List ByteArray) (w : World) (hr0 : Kd.C k57 w A0 l0.length l0) (hc0 : l0.length ≤ c0) (h : pair_Elems.f l0 a1 = some r) :
    Calls Try.prog 56 #[.slice A0 l0.length c0, .string a1] w fun e w' => ∃ v0_ : Value, e = .returned (v0_) ∧ Kd.R Kd.string 9 w' w.heap.size (fun _ => True) v0_ r ∧ Below w.heap.size w w' := by
  unfold pair_Elems.f at h
  split at h
  case isFalse => cases h
  case isTrue hh =>
  cases h
  have hlen := smallP_len hh
  obtain ⟨i0, hi, hz0, hz1, hz2⟩ := info_parts (show (Try.prog.info? 9).map (fun i => (i.zero, i.size, i.bytes)) = some (some (.string ⟨#[]⟩), 1, 16) by kernel_rfl)
  have HR := Aside0.mk hr0
  have hl63 := hr0.2.1
  have hu := Try.underlying57
  clear hr0 hh
  go_enter Try.func56, Try.ntmps56
  go_wp2
  go_loopw [5, 10] (fun v i wr => ∃ (k : Nat) (ss : List (List UInt8)), k ≤ l0.length ∧ i = .int .i64 k ∧ Aside0 (ss = elemL (l0.take k) a1) ∧ Aside0 (wr.ownsRow w.heap.size 9 1 v ss.length (ss.map encStr)) ∧ Aside0 (Below w.heap.size w wr)) (fun _ i _ => l0.length - (intOf i).toNat)
  case atStart => exact ⟨0, [], Nat.zero_le _, rfl, ⟨rfl⟩, ⟨own_nil _ _ _ _⟩, ⟨Below.refl _ _⟩⟩
  case round =>
    obtain ⟨k, ss, hk, rfl, hS, hO, HB⟩ := hrel
    obtain ⟨A, c, rfl⟩ := own_slice hO.out
    by_cases hlt : k < l0.length
    · obtain ⟨ad, e, hx0, hx1, hx2, hx3⟩ := at_T57 HR.out k (by omega) (by omega)
      cases e
      replace hx0 := (HB.out.cell (World.block_lt_of_cell? w _ hx0)).trans hx0
      replace hx1 := (HB.out.cell (World.block_lt_of_cell? w _ hx1)).trans hx1
      replace hx2 := (HB.out.cell (World.block_lt_of_cell? w _ hx2)).trans hx2
      replace hx3 := (HB.out.cell (World.block_lt_of_cell? w _ hx3)).trans hx3
      simp only [Int.toNat_natCast] at hx0 hx1 hx2 hx3
      have HT := Aside0.mk (elemL_take l0 a1 k hlt)
      generalize rd_T57 l0 (k : Nat) = x at hx0 hx1 hx2 hx3 HT
      have hsl : ss.length ≤ k := by
        have := elemL_len (l0.take k) a1
        rw [← hS.out, List.length_take] at this
        omega
      cases hq : (x.f0.toList == a1.toList) with
      | true =>
        have HS2 : Aside0 (ss ++ [x.f1.data.toList] = elemL (l0.take (k + 1)) a1) := ⟨by rw [HT.out, ← hS.out]; simp [keyIs, hq]⟩
        have hb16 : (ss.length + 1) * 16 ≤ 140737488355328 := by omega
        have hml : ss.length + 1 ≤ maxLen := by unfold maxLen; omega
        have hnw := Aside0.mk (cell_one2 wr (.cells #[.string x.f0, .string x.f1, .int .i64 x.f2.f0, .int .i64 x.f2.f1] 57) x.f1)
        have hwsz := HB.out.size
        clear HT hS
        go_wp2_with (first
          | (at_builtin; refine wpList_append_own _ rfl _ _ 64 rfl w.heap.size 9 i0 (.string ⟨#[]⟩) 1 16 Try.underlying64 hi hz0 hz1 hz2 rfl (by decide) _ _ _ rfl ((hO.out.alloc _).alloc _) ⟨wr.heap.size + 1, 0, none⟩ 1 1 [encStr x.f1.data.toList] rfl rfl hnw.out (by simp [Value.oneCell', encStr]) hml hb16 (by simp; omega) ?_; intro v' w3 hown' hg3 hnil3; go_frame))
        have HB3 := Aside0.mk ((below_alloc (below_alloc HB.out _) _).grown hg3 (by simp; omega) (own_base hO.out))
        have HO3 : Aside0 (w3.ownsRow w.heap.size 9 1 v' (ss ++ [x.f1.data.toList]).length ((ss ++ [x.f1.data.toList]).map encStr)) := ⟨by simpa using hown'⟩
        clear hown' hg3 hnil3 hO HB hnw
        go_roundw
        case rel => exact ⟨k + 1, _, by omega, by go_num, HS2, HO3, HB3⟩
        case measure => simp [intOf]; omega
      | false =>
        have HS2 : Aside0 (ss = elemL (l0.take (k + 1)) a1) := ⟨by rw [HT.out, ← hS.out]; simp [keyIs, hq]⟩
        have HO3 := Aside0.mk (hO.out.alloc (.cells #[.string x.f0, .string x.f1, .int .i64 x.f2.f0, .int .i64 x.f2.f1] 57))
        have HB3 := Aside0.mk (below_alloc HB.out (.cells #[.string x.f0, .string x.f1, .int .i64 x.f2.f0, .int .i64 x.f2.f1] 57))
        clear HT hS hO HB
        go_wp2
        go_roundw
        case rel => exact ⟨k + 1, ss, by omega, by go_num, HS2, HO3, HB3⟩
        case measure => simp [intOf]; omega
    · have hsl : ss.length ≤ l0.length := by
        have := elemL_len (l0.take k) a1
        rw [← hS.out, List.length_take] at this
        omega
      have HC := Aside0.mk (compact_own w.heap.size A c ss wr hO.out (by omega))
      have HE := Aside0.mk (show elemL l0 a1 = ss by rw [hS.out, List.take_of_length_le (by omega)])
      have HOB := Aside0.mk (own_base hO.out)
      clear hO hS
      go_wp2_with fail
      refine HC.out.mono ?_
      rintro e w3 ⟨A3, c3, rfl, ho3, hg3⟩
      have HB3 := Aside0.mk (HB.out.grown hg3 HB.out.size HOB.out)
      have HO3 := Aside0.mk ho3
      clear ho3 hg3
      go_wp2
      go_ret
      refine ⟨_, rfl, ?_, HB3.out⟩
      have e1 : elemsP l0 a1 = (Lib.compact ss).map fun b => ⟨b.toArray⟩ := by unfold elemsP; rw [HE.out]
      rw [e1]
      exact R_texts HO3.out
end Go.Proofs.Ytannmdngejdjkaa.L
end
section
/- slices.Grow and slices.Concat at pairs, two of them. By hand. -/
namespace Go.Proofs.Ytannmdngejdjkaa.L
open Go.RowKit Go.Proofs.YtannmdngejdjkaaW.PrintWords Go.Proofs.YtannmdngejdjkaaW.PrintLast Go.Proofs.YtannmdngejdjkaaW.PrintMore Go.Proofs.YtannmdngejdjkaaW
set_option linter.unusedVariables false
set_option linter.unusedSimpArgs false
theorem append_nil_src (w : World) (ty : TypeId) {base n : Nat} {v : Value} {xs : List Value} (hown : w.ownsRow base 57 4 v n xs) (c : Nat) : (Builtin.append_ #[55, 55] ty #[v, .slice none 0 c]).run Try.prog w = .ok v w := by
  obtain ⟨i0, hi, hz0, hz1, hz2⟩ := info_parts info57
  rcases hown.2 with ⟨rfl, rfl⟩ | ⟨g, cap, cur, rfl, _, _, hnc, _⟩
  · simp [Builtin.append_, run_underlying Try.underlying55, sizeOf, typeInfo, hi, Builtin.lenOf, Builtin.firstCells]
  · simp [Builtin.append_, run_underlying Try.underlying55, sizeOf, typeInfo, hi, Builtin.lenOf, Builtin.firstCells, hnc, storeCells, Result.andThen]
theorem app_pairs (w : World) (ty : TypeId) {base : Nat} {v : Value} {l1 : List Pr} (ho : w.ownsRow base 57 4 v l1.length (pairRow l1)) (A : Option Addr) (c : Nat) (l2 : List Pr) (hC : Kd.C k57 w A l2.length l2) (hlim : (l1.length + l2.length) * 48 ≤ 140737488355328) (hbase : base ≤ w.heap.size) :
    ∃ v' w', (Builtin.append_ #[55, 55] ty #[v, .slice A l2.length c]).run Try.prog w = .ok v' w' ∧ w'.ownsRow base 57 4 v' (l1 ++ l2).length (pairRow (l1 ++ l2)) ∧ w.grownBy w' v.ownBlock ∧ (∃ A' c', v' = .slice A' (l1 ++ l2).length c') := by
  rcases A with _ | a
  · have h0 : l2.length = 0 := by
      rcases Nat.eq_zero_or_pos l2.length with h | h
      · exact h
      · obtain ⟨ad, h', _⟩ := hC.2.2 h
        cases h'
    obtain rfl := List.eq_nil_of_length_eq_zero h0
    obtain ⟨A', c', rfl⟩ := own_slice ho
    exact ⟨_, w, append_nil_src w ty ho c, by rw [List.append_nil]; exact ho, World.grownBy.refl _ _, A', c', by rw [List.append_nil]⟩
  · obtain ⟨i0, hi, hz0, hz1, hz2⟩ := info_parts info57
    have hnews := C_news (d := k57) (enc := pairCells) pairCells_lengthK (fun h => k57_open h) hC
    obtain ⟨v', w', hr, ho', hg, _, hat⟩ := run_append_own_at (P := Try.prog) (w := w) base 55 ty 57 i0 _ 4 48 Try.underlying55 hi hz0 hz1 hz2 (by rfl) (by omega) v l1.length (pairRow l1) ho a l2.length c (pairRow l2)
      (flat_length (enc := pairCells) (sz := 4) (fun _ => rfl) l2) hnews (flat_one pairCells_one l2) (by unfold maxLen; omega) (by omega) hbase
    have ho2 : w'.ownsRow base 57 4 v' (l1 ++ l2).length (pairRow (l1 ++ l2)) := by rw [List.length_append]; unfold pairRow; rw [List.flatMap_append]; exact ho'
    obtain ⟨A', c', rfl⟩ := own_slice ho2
    exact ⟨_, w', hr, ho2, hg, A', c', rfl⟩
set_option maxHeartbeats 1000000 in
set_option maxRecDepth 100000 in
theorem grow_calls (n : Nat) (w : World) (hlim : n * 48 ≤ 140737488355328) :
    Calls Try.prog 95 #[.slice none 0 0, .int .i64 n] w fun e w' => ∃ A c, e = .returned (.slice A 0 c) ∧ w'.ownsRow w.heap.size 57 4 (.slice A 0 c) 0 (pairRow []) ∧ Below w.heap.size w w' := by
  rcases Nat.eq_zero_or_pos n with rfl | hn
  · go_enter Try.func95, Try.ntmps95
    go_wp2
    go_ret
    exact ⟨none, 0, rfl, own_nil _ _ _ _, Below.refl _ _⟩
  · obtain ⟨i0, hi, hz0, hz1, hz2⟩ := info_parts info57
    have hr := fun ty => Lib.run_append_nil_zeros (P := Try.prog) w 55 3 ty 57 i0 _ .i64 .i64 Try.underlying55 Try.underlying3 hi hz0 n hn (by omega) (by omega) (by rw [hz2]; omega)
    have hG1 := grownCap_ge w n 0 57
    have hG2 := grownCap_le_maxLen w n 0 57 (by unfold maxLen; omega)
    generalize grownCap w n 0 57 = G at hr hG1 hG2
    have HO : (w.drew.alloc (.cells (Builtin.zeroCells (Value.agg #[.string ⟨#[]⟩, .string ⟨#[]⟩, .int .i64 0, .int .i64 0]).cells n ++ Builtin.zeroCells (Value.agg #[.string ⟨#[]⟩, .string ⟨#[]⟩, .int .i64 0, .int .i64 0]).cells (G - n)) 57)).ownsRow w.heap.size 57 4 (.slice (some ⟨w.heap.size, 0, none⟩) 0 G) 0 (pairRow []) := by
      refine ⟨rfl, .inr ⟨w.heap.size, G, _, rfl, Nat.le_refl _, blk_new w.drew _, Nat.zero_le _, hG2, ?_, by simp⟩⟩
      simp only [Array.size_append, Builtin.zeroCells, Array.size_map, Array.size_range, Value.cells]
      simp
      omega
    have HA := Aside0.mk HO
    have hGm : G ≤ 9223372036854775807 := by unfold maxLen at hG2; omega
    have hnm : n ≤ 9223372036854775807 := by omega
    clear HO hi hz0 hz1 hz2 hG2
    go_enter Try.func95, Try.ntmps95
    go_wp2_with (at_builtin; refine Lib.wpList_append_run _ rfl _ _ _ _ rfl _ _ rfl rfl _ _ (hr _) ?_)
    go_ret
    exact ⟨_, _, rfl, HA.out, below_drew (below_alloc (Below.refl w.heap.size w) _)⟩
set_option maxHeartbeats 4000000 in
set_option maxRecDepth 100000 in
/-- slices.Concat of two -/
theorem concat_calls (A1 : Option Addr) (c1 : Nat) (l1 : List Pr) (A2 : Option Addr) (c2 : Nat) (l2 : List Pr) (vb : Nat) (w : World) (hv : w.heap[vb]? = some (.cells #[.slice A1 l1.length c1, .slice A2 l2.length c2] 55 (0, 0)))
    (h1 : Kd.C k57 w A1 l1.length l1) (h2 : Kd.C k57 w A2 l2.length l2) (hlim : (l1.length + l2.length) * 48 ≤ 140737488355328) :
    Calls Try.prog 81 #[.slice (some ⟨vb, 0, none⟩) 2 2] w fun e w' => ∃ A c, e = .returned (.slice A (l1 ++ l2).length c) ∧ w'.ownsRow w.heap.size 57 4 (.slice A (l1 ++ l2).length c) (l1 ++ l2).length (pairRow (l1 ++ l2)) ∧ Below w.heap.size w w' := by
  have v0 : w.cell? ⟨vb, 0, none⟩ = some (.slice A1 l1.length c1) := blk_cell hv 0
  have v1 : w.cell? ⟨vb, 1, none⟩ = some (.slice A2 l2.length c2) := blk_cell hv 1
  have HV := Aside0.mk hv
  have H1 := Aside0.mk h1
  have H2 := Aside0.mk h2
  have hn1 : l1.length ≤ 9223372036854775807 := by omega
  have hn2 : l2.length ≤ 9223372036854775807 := by omega
  have hgr := grow_calls (l1.length + l2.length) w hlim
  rw [Int.natCast_add] at hgr
  have HG := Aside0.mk hgr
  clear hv h1 h2 hgr
  go_enter Try.func81, Try.ntmps81
  go_wp2
  go_loopw [3, 11] (fun s i wr => Aside0 (wr = w) ∧ ((i = .int .i64 0 ∧ s = .int .i64 0) ∨ (i = .int .i64 1 ∧ s = .int .i64 l1.length) ∨ (i = .int .i64 2 ∧ s = .int .i64 ((l1.length : Int) + (l2.length : Int))))) (fun _ i _ => 2 - (intOf i).toNat)
  case atStart => exact ⟨⟨rfl⟩, .inl ⟨rfl, rfl⟩⟩
  case round =>
    obtain ⟨⟨hwr⟩, hc⟩ := hrel
    have hwr2 := hwr.symm
    clear hwr
    subst hwr2
    rcases hc with ⟨rfl, rfl⟩ | ⟨rfl, rfl⟩ | ⟨rfl, rfl⟩
    · have hneg : ¬ ((l1.length : Int) < 0) := by omega
      go_wp2
      go_roundw
      case rel => exact ⟨⟨by first | trivial | rfl⟩, .inr (.inl ⟨rfl, rfl⟩)⟩
      case measure => simp [intOf]
    · have hneg : ¬ ((l1.length : Int) + (l2.length : Int) < 0) := by omega
      go_wp2
      go_roundw
      case rel => exact ⟨⟨by first | trivial | rfl⟩, .inr (.inr ⟨rfl, rfl⟩)⟩
      case measure => simp [intOf]
    · clear v0 v1
      go_wp2_with fail
      refine HG.out.mono ?_
      rintro e w1 ⟨A, c, rfl, ho1, hb1⟩
      have HO1 := Aside0.mk ho1
      have HB1 := Aside0.mk hb1
      clear ho1 hb1 HG
      go_wp2
      go_loopw [6, 27] (fun v i wr => ∃ l : List Pr, Aside0 (wr.ownsRow w.heap.size 57 4 v l.length (pairRow l)) ∧ Aside0 (Below w.heap.size w wr) ∧ ((i = .int .i64 0 ∧ Aside0 (l = [])) ∨ (i = .int .i64 1 ∧ Aside0 (l = l1)) ∨ (i = .int .i64 2 ∧ Aside0 (l = l1 ++ l2)))) (fun _ i _ => 2 - (intOf i).toNat)
      case atStart => exact ⟨[], HO1, HB1, .inl ⟨rfl, ⟨rfl⟩⟩⟩
      case round =>
        clear HO1 HB1
        obtain ⟨l, HO, HB, hc⟩ := hrel
        have hvs := blk_below HV.out HB.out
        have v0 : wr.cell? ⟨vb, 0, none⟩ = some (.slice A1 l1.length c1) := blk_cell hvs 0
        have v1 : wr.cell? ⟨vb, 1, none⟩ = some (.slice A2 l2.length c2) := blk_cell hvs 1
        clear hvs
        obtain ⟨A', c', rfl⟩ := own_slice HO.out
        rcases hc with ⟨rfl, ⟨rfl⟩⟩ | ⟨rfl, ⟨rfl⟩⟩ | ⟨rfl, ⟨rfl⟩⟩
        · obtain ⟨v', w', hr, ho', hg', A3, c3, rfl⟩ := app_pairs wr 55 HO.out A1 c1 l1 (Kd.C_below H1.out HB.out) (by simp; omega) HB.out.size
          have HO3 := Aside0.mk ho'
          have HB3 := Aside0.mk (HB.out.grown hg' HB.out.size (own_base HO.out))
          clear ho' hg' HO HB
          go_wp2_with (at_builtin; refine Lib.wpList_append_run _ rfl _ _ _ _ rfl _ _ rfl rfl _ _ hr ?_)
          go_roundw
          case rel => exact ⟨l1, HO3, HB3, .inr (.inl ⟨rfl, ⟨rfl⟩⟩)⟩
          case measure => simp [intOf]
        · obtain ⟨v', w', hr, ho', hg', A3, c3, rfl⟩ := app_pairs wr 55 HO.out A2 c2 l2 (Kd.C_below H2.out HB.out) hlim HB.out.size
          have HO3 := Aside0.mk ho'
          have HB3 := Aside0.mk (HB.out.grown hg' HB.out.size (own_base HO.out))
          clear ho' hg' HO HB
          go_wp2_with (at_builtin; refine Lib.wpList_append_run _ rfl _ _ _ _ rfl _ _ rfl rfl _ _ hr ?_)
          go_roundw
          case rel => exact ⟨_, ⟨by rw [← List.length_append]; exact HO3.out⟩, HB3, .inr (.inr ⟨rfl, ⟨rfl⟩⟩)⟩
          case measure => simp [intOf]
        · go_wp2
          go_ret
          exact ⟨_, _, rfl, HO.out, HB.out⟩
end Go.Proofs.Ytannmdngejdjkaa.L
end
section
/- pair.Merge: what two come to that come from a third one. By hand. -/
namespace Go.Proofs.Ytannmdngejdjkaa.L
open Go.RowKit Go.Maps Go.Proofs.YtannmdngejdjkaaW.PrintWords Go.Proofs.YtannmdngejdjkaaW.PrintLast Go.Proofs.YtannmdngejdjkaaW.PrintMore Go.Proofs.YtannmdngejdjkaaW
set_option linter.unusedVariables false
set_option linter.unusedSimpArgs false
def inP (l : List Pr) (p : Pr) : Bool := decide (0 < getQ (ofQ l) p)
def mcond (base a b : List Pr) (p : Pr) : Bool := (inP a p && inP b p) || !inP base p
def mergeP (base a b : List Pr) : List Pr := if mayP base && (mayP a && mayP b) then setP ((a ++ b).filter (mcond base a b)) else []
def pair_Merge.f (l0 : List (S57)) (l1 : List (S57)) (l2 : List (S57)) : Option ((List (S57))) :=
  if smallP l0 = true ∧ smallP l1 = true ∧ smallP l2 = true then some (mergeP l0 l1 l2) else none
theorem mapQ_below {w w1 : World} {gb n : Nat} {es : MapQ} (h : OwnsQ w gb n es) (hb : Below w.heap.size w w1) : OwnsQ w1 gb n es := by
  obtain ⟨es', clock, h1, h2⟩ := h
  exact ⟨es', clock, blk_below h1 hb, h2⟩
theorem mapQ_row {w : World} {gb n base m : Nat} {es : MapQ} {e : TypeId} {size : Nat} {v : Value} {xs : List Value} (h : OwnsQ w gb n es) (hr : w.ownsRow base e size v m xs) : v.ownBlock ≠ some gb := by
  intro e1
  obtain ⟨cells, h1⟩ := own_typed hr gb e1
  obtain ⟨es', clock, h2, _⟩ := h
  rw [h1] at h2
  cases h2
/-- what holds in a round of Merge's loop -/
structure MSt (w W : World) (g0 g1 g2 go n0 n1 n2 k : Nat) (base a b F ab : List Pr) (A : Option Addr) (c : Nat) : Prop where
  m0 : OwnsQ W g0 n0 (ofQ base)
  m1 : OwnsQ W g1 n1 (ofQ a)
  m2 : OwnsQ W g2 n2 (ofQ b)
  mo : OwnsQ W go k (ofQ F)
  row : W.ownsRow w.heap.size 57 4 (.slice A ab.length c) ab.length (pairRow ab)
  bel : Below w.heap.size w W
theorem MSt.below {w W W' : World} {g0 g1 g2 go n0 n1 n2 k : Nat} {base a b F ab : List Pr} {A : Option Addr} {c : Nat} (h : MSt w W g0 g1 g2 go n0 n1 n2 k base a b F ab A c) (hb : Below W.heap.size W W') : MSt w W' g0 g1 g2 go n0 n1 n2 k base a b F ab A c :=
  ⟨mapQ_below h.m0 hb, mapQ_below h.m1 hb, mapQ_below h.m2 hb, mapQ_below h.mo hb, pw_own_below h.row hb, below_step h.bel hb⟩
theorem MSt.grow {w W W' : World} {g0 g1 g2 go n0 n1 n2 k k' : Nat} {base a b F F' ab : List Pr} {A : Option Addr} {c : Nat} (h : MSt w W g0 g1 g2 go n0 n1 n2 k base a b F ab A c) (ho : OwnsQ W' go k' (ofQ F')) (hg : W.grownBy W' (some go)) (h0 : g0 ≠ go) (h1 : g1 ≠ go) (h2 : g2 ≠ go) (hgo : w.heap.size ≤ go) : MSt w W' g0 g1 g2 go n0 n1 n2 k' base a b F' ab A c :=
  ⟨h.m0.kept hg (fun e => h0 (Option.some.inj e)), h.m1.kept hg (fun e => h1 (Option.some.inj e)), h.m2.kept hg (fun e => h2 (Option.some.inj e)), ho, h.row.kept hg (Or.inr (mapQ_row h.mo h.row)), h.bel.grown hg h.bel.size (fun j hj => by injection hj with hj; omega)⟩
theorem MSt.more {w W : World} {g0 g1 g2 go n0 n1 n2 k k' : Nat} {base a b F ab : List Pr} {A : Option Addr} {c : Nat} (h : MSt w W g0 g1 g2 go n0 n1 n2 k base a b F ab A c) (hk : k ≤ k') : MSt w W g0 g1 g2 go n0 n1 n2 k' base a b F ab A c :=
  ⟨h.m0, h.m1, h.m2, h.mo.mono hk, h.row, h.bel⟩
theorem filter_take_succ (q : Pr → Bool) (l : List Pr) (k : Nat) (h : k < l.length) (x : Pr) (hx : x = l[k]) : (l.take (k + 1)).filter q = if q x = true then (l.take k).filter q ++ [x] else (l.take k).filter q := by
  subst hx
  rw [List.take_succ_eq_append_getElem h, List.filter_append]
  cases hq : q l[k] <;> simp [hq]
set_option maxHeartbeats 8000000 in
set_option maxRecDepth 100000 in
theorem pair_Merge.calls (A0 : Option Addr) (c0 : Nat) (l0 : List (S57)) (A1 : Option Addr) (c1 : Nat) (l1 : List (S57)) (A2 : Option Addr) (c2 : Nat) (l2 : List (S57)) (r : List (S57)) (w : World) (hr0 : Kd.C k57 w A0 l0.length l0) (hc0 : l0.length ≤ c0) (hr1 : Kd.C k57 w A1 l1.length l1) (hc1 : l1.length ≤ c1) (hr2 : Kd.C k57 w A2 l2.length l2) (hc2 : l2.length ≤ c2) (h : pair_Merge.f l0 l1 l2 = some r) :
    Calls Try.prog 53 #[.slice A0 l0.length c0, .slice A1 l1.length c1, .slice A2 l2.length c2] w fun e w' => ∃ v0_ : Value, e = .returned (v0_) ∧ Kd.R k57 57 w' w.heap.size (fun _ => True) v0_ r ∧ Below w.heap.size w w' := by
  unfold pair_Merge.f at h
  split at h
  case isFalse => cases h
  case isTrue hh =>
  cases h
  obtain ⟨q0, q1, q2⟩ := hh
  have hlen0 := smallP_len q0
  have hlen1 := smallP_len q1
  have hlen2 := smallP_len q2
  have HMAY0 := Aside0.mk (fun (W : World) (hb : Below w.heap.size w W) => pair_May.calls (l0.length + 6) A0 c0 l0 (mayP l0) W (Kd.C_below hr0 hb) hc0 (mayP_f _ l0 (by omega) (by omega) (smallP_all q0)))
  have HMAY1 := Aside0.mk (fun (W : World) (hb : Below w.heap.size w W) => pair_May.calls (l1.length + 6) A1 c1 l1 (mayP l1) W (Kd.C_below hr1 hb) hc1 (mayP_f _ l1 (by omega) (by omega) (smallP_all q1)))
  have HMAY2 := Aside0.mk (fun (W : World) (hb : Below w.heap.size w W) => pair_May.calls (l2.length + 6) A2 c2 l2 (mayP l2) W (Kd.C_below hr2 hb) hc2 (mayP_f _ l2 (by omega) (by omega) (smallP_all q2)))
  have HOF0 := Aside0.mk (fun (W : World) (hb : Below w.heap.size w W) => of_calls A0 c0 l0 W (Kd.C_below hr0 hb) (by unfold maxLen; omega) (smallP_all q0))
  have HOF1 := Aside0.mk (fun (W : World) (hb : Below w.heap.size w W) => of_calls A1 c1 l1 W (Kd.C_below hr1 hb) (by unfold maxLen; omega) (smallP_all q1))
  have HOF2 := Aside0.mk (fun (W : World) (hb : Below w.heap.size w W) => of_calls A2 c2 l2 W (Kd.C_below hr2 hb) (by unfold maxLen; omega) (smallP_all q2))
  have HCAT := Aside0.mk (fun (W : World) (vb : Nat) (hv : W.heap[vb]? = some (.cells #[.slice A1 l1.length c1, .slice A2 l2.length c2] 55 (0, 0))) (hb : Below w.heap.size w W) => concat_calls A1 c1 l1 A2 c2 l2 vb W hv (Kd.C_below hr1 hb) (Kd.C_below hr2 hb) (by omega))
  have HS1 := Aside0.mk (smallP_all q1)
  have HS2 := Aside0.mk (smallP_all q2)
  have hu := Try.underlying57
  have hum := Try.underlying85
  have hmm := @run_makeMap Try.prog
  clear hr0 hr1 hr2 q0 q1 q2
  go_enter Try.func53, Try.ntmps53
  go_wp2_with fail
  refine (HMAY0.out _ (Below.refl _ _)).mono ?_
  rintro e w1 ⟨rfl, hb1⟩
  have HB1 := Aside0.mk hb1
  clear hb1 HMAY0
  cases hm0 : mayP l0 with
  | false =>
    have HI := Aside0.mk (show mergeP l0 l1 l2 = [] by simp [mergeP, hm0])
    clear hm0
    go_wp2
    go_ret
    exact ⟨_, rfl, by rw [HI.out]; exact Kd.R_nil _ _ _ _ _, HB1.out⟩
  | true =>
    go_wp2_with fail
    refine (HMAY1.out _ HB1.out).mono ?_
    rintro e w2 ⟨rfl, hb2⟩
    have HB2 := Aside0.mk (below_step HB1.out hb2)
    clear hb2 HMAY1 HB1
    cases hm1 : mayP l1 with
    | false =>
      have HI := Aside0.mk (show mergeP l0 l1 l2 = [] by simp [mergeP, hm1])
      clear hm0 hm1
      go_wp2
      go_ret
      exact ⟨_, rfl, by rw [HI.out]; exact Kd.R_nil _ _ _ _ _, HB2.out⟩
    | true =>
      go_wp2_with fail
      refine (HMAY2.out _ HB2.out).mono ?_
      rintro e w3 ⟨rfl, hb3⟩
      have HB3 := Aside0.mk (below_step HB2.out hb3)
      clear hb3 HMAY2 HB2
      cases hm2 : mayP l2 with
      | false =>
        have HI := Aside0.mk (show mergeP l0 l1 l2 = [] by simp [mergeP, hm2])
        clear hm0 hm1 hm2
        go_wp2
        go_ret
        exact ⟨_, rfl, by rw [HI.out]; exact Kd.R_nil _ _ _ _ _, HB3.out⟩
      | true =>
        have HI := Aside0.mk (show mergeP l0 l1 l2 = setP ((l1 ++ l2).filter (mcond l0 l1 l2)) by simp [mergeP, hm0, hm1, hm2])
        clear hm0 hm1 hm2
        go_wp2_with fail
        refine (HOF0.out _ HB3.out).mono ?_
        rintro e w4 ⟨g0, rfl, hg0, ho0, hb4⟩
        have HB4 := Aside0.mk (below_step HB3.out hb4)
        clear hb4 HOF0
        go_wp2_with fail
        refine (HOF1.out _ HB4.out).mono ?_
        rintro e w5 ⟨g1, rfl, hg1, ho1, hb5⟩
        have HB5 := Aside0.mk (below_step HB4.out hb5)
        replace ho0 := mapQ_below ho0 hb5
        clear hb5 HOF1
        go_wp2_with fail
        refine (HOF2.out _ HB5.out).mono ?_
        rintro e w6 ⟨g2, rfl, hg2, ho2, hb6⟩
        have HB6 := Aside0.mk (below_step HB5.out hb6)
        replace ho0 := mapQ_below ho0 hb6
        replace ho1 := mapQ_below ho1 hb6
        have hl0 := ho0.lt
        have hl1 := ho1.lt
        have hl2 := ho2.lt
        have HO0 := Aside0.mk ho0
        have HO1 := Aside0.mk ho1
        have HO2 := Aside0.mk ho2
        have hw6 := HB6.out.size
        clear hb6 HOF2 ho0 ho1 ho2 HB3 HB4 HB5
        go_wp2_with fail
        have hv7 : ((w6.alloc (.map #[] 0)).alloc (.cells #[.slice A1 l1.length c1, .slice A2 l2.length c2] 55)).heap[w6.heap.size + 1]? = some (.cells #[.slice A1 l1.length c1, .slice A2 l2.length c2] 55 (0, 0)) := by
          have := blk_new (w6.alloc (.map #[] 0)) (.cells #[.slice A1 l1.length c1, .slice A2 l2.length c2] 55)
          simpa using this
        have hb67 : Below w6.heap.size w6 ((w6.alloc (.map #[] 0)).alloc (.cells #[.slice A1 l1.length c1, .slice A2 l2.length c2] 55)) := below_alloc (below_alloc (Below.refl _ _) _) _
        refine (HCAT.out _ _ hv7 (below_step HB6.out hb67)).mono ?_
        rintro e w7 ⟨A, c, rfl, ho7, hb7⟩
        have hom0 : OwnsQ ((w6.alloc (.map #[] 0)).alloc (.cells #[.slice A1 l1.length c1, .slice A2 l2.length c2] 55)) w6.heap.size 0 [] := (World.ownsMap_made w6 Try.prog 57 (plainElem (H := Unit) Try.prog 3)).alloc _
        have hom := mapQ_below hom0 hb7
        have hb8 := below_step hb67 hb7
        have hbw := below_step HB6.out hb8
        obtain ⟨ab, hab⟩ : ∃ ab, ab = l1 ++ l2 := ⟨_, rfl⟩
        rw [← hab] at ho7 HI ⊢
        have HST := Aside0.mk (show MSt w w7 g0 g1 g2 w6.heap.size l0.length l1.length l2.length 0 l0 l1 l2 ((ab.take 0).filter (mcond l0 l1 l2)) ab A c from ⟨mapQ_below HO0.out hb8, mapQ_below HO1.out hb8, mapQ_below HO2.out hb8, hom, own_lower2 ho7 (below_step HB6.out hb67).size, hbw⟩)
        have HOK := Aside0.mk (show ∀ x ∈ ab, okPair x by
          intro x hx
          rw [hab] at hx
          rcases List.mem_append.1 hx with h | h
          · exact HS1.out x h
          · exact HS2.out x h)
        have hablen : ab.length = l1.length + l2.length := by rw [hab, List.length_append]
        have hab48 : ab.length * 64 ≤ 140737488355328 := by omega
        clear hab ho7 hb7 hom hom0 hb8 hbw hb67 hv7 HO0 HO1 HO2 HB6 HCAT HS1 HS2 hg0 hg1 hg2 hmm
        go_wp2
        go_loopw [38] (fun i wr => ∃ k : Nat, k ≤ ab.length ∧ i = .int .i64 k ∧ Aside0 (MSt w wr g0 g1 g2 w6.heap.size l0.length l1.length l2.length k l0 l1 l2 ((ab.take k).filter (mcond l0 l1 l2)) ab A c)) (fun i _ => ab.length - (intOf i).toNat)
        case atStart => exact ⟨0, Nat.zero_le _, rfl, HST⟩
        case round =>
          clear HST
          obtain ⟨k, hk, rfl, HS0⟩ := hrel
          by_cases hlt : k < ab.length
          · have hC := (C_ofown rfl HS0.out.row).1
            obtain ⟨ad, e, hx0, hx1, hx2, hx3⟩ := at_T57 hC (k : Nat) (by omega) (by omega)
            have HXK := Aside0.mk (rdP_at ab k hlt)
            have hkx : okPair (rd_T57 ab (k : Nat)) := by rw [HXK.out]; exact HOK.out _ (List.getElem_mem _)
            cases e
            simp only [Int.toNat_natCast] at hx0 hx1 hx2 hx3
            have hkm : k < maxLen := by unfold maxLen; omega
            generalize rd_T57 ab (k : Nat) = x at hx0 hx1 hx2 hx3 HXK hkx
            have HST_wa := Aside0.mk (HS0.out.below (below_alloc (Below.refl _ _) (.cells #[.string x.f0, .string x.f1, .int .i64 x.f2.f0, .int .i64 x.f2.f1] 57)))
            have HX_wa := Aside0.mk (blk_new wr (.cells #[.string x.f0, .string x.f1, .int .i64 x.f2.f0, .int .i64 x.f2.f1] 57))
            clear hC HS0
            have HCw8 := Aside0.mk (has_calls g1 l1.length (ofQ l1) (wr.alloc (.cells #[.string x.f0, .string x.f1, .int .i64 x.f2.f0, .int .i64 x.f2.f1] 57)) HST_wa.out.m1 x hkx)
            go_wp2_with fail
            refine HCw8.out.mono ?_
            rintro e w8 ⟨rfl, hb⟩
            have HST_w8 := Aside0.mk (HST_wa.out.below hb)
            have HX_w8 := Aside0.mk (blk_below HX_wa.out hb)
            have b0 : w8.cell? ⟨wr.heap.size, 0, none⟩ = some (.string x.f0) := blk_cell HX_w8.out 0
            have b1 : w8.cell? ⟨wr.heap.size, 1, none⟩ = some (.string x.f1) := blk_cell HX_w8.out 1
            have b2 : w8.cell? ⟨wr.heap.size, 2, none⟩ = some (.int .i64 x.f2.f0) := blk_cell HX_w8.out 2
            have b3 : w8.cell? ⟨wr.heap.size, 3, none⟩ = some (.int .i64 x.f2.f1) := blk_cell HX_w8.out 3
            clear hb HCw8 HST_wa HX_wa
            cases h1 : decide (0 < getQ (ofQ l1) x) with
            | true =>
              have HCw9 := Aside0.mk (has_calls g2 l2.length (ofQ l2) w8 HST_w8.out.m2 x hkx)
              go_wp2_with fail
              refine HCw9.out.mono ?_
              rintro e w9 ⟨rfl, hb⟩
              have HST_w9 := Aside0.mk (HST_w8.out.below hb)
              have HX_w9 := Aside0.mk (blk_below HX_w8.out hb)
              have b0 : w9.cell? ⟨wr.heap.size, 0, none⟩ = some (.string x.f0) := blk_cell HX_w9.out 0
              have b1 : w9.cell? ⟨wr.heap.size, 1, none⟩ = some (.string x.f1) := blk_cell HX_w9.out 1
              have b2 : w9.cell? ⟨wr.heap.size, 2, none⟩ = some (.int .i64 x.f2.f0) := blk_cell HX_w9.out 2
              have b3 : w9.cell? ⟨wr.heap.size, 3, none⟩ = some (.int .i64 x.f2.f1) := blk_cell HX_w9.out 3
              clear hb HCw9 HST_w8 HX_w8
              cases h2 : decide (0 < getQ (ofQ l2) x) with
              | true =>
                have hq : mcond l0 l1 l2 x = true := by unfold mcond inP; simp [h1, h2]
                obtain ⟨st, v2, v3, cc, r1, r2, r3, r5, ho5, hg5⟩ := incQ_at HST_w9.out.mo.drew (ofQ_up _) hkm x hkx
                rw [← ofQ_snoc] at ho5
                have HST2 : Aside0 (MSt w v3 g0 g1 g2 w6.heap.size l0.length l1.length l2.length (k + 1) l0 l1 l2 ((ab.take (k + 1)).filter (mcond l0 l1 l2)) ab (some ad) c) := ⟨by
                  rw [filter_take_succ _ ab k hlt x HXK.out, if_pos hq]
                  exact (HST_w9.out.below (below_drew (Below.refl _ _))).grow ho5 hg5 (by omega) (by omega) (by omega) hw6⟩
                clear ho5 hg5 HST_w9 HX_w9 hq h1 h2
                go_wp2_with fail
                go_region
                all_goals
                  go_wp2
                  go_roundw
                  case rel => exact ⟨k + 1, by omega, by go_num, HST2⟩
                  case measure => simp [intOf]; omega
              | false =>
                have HCw10 := Aside0.mk (has_calls g0 l0.length (ofQ l0) w9 HST_w9.out.m0 x hkx)
                go_wp2_with fail
                refine HCw10.out.mono ?_
                rintro e w10 ⟨rfl, hb⟩
                have HST_w10 := Aside0.mk (HST_w9.out.below hb)
                have HX_w10 := Aside0.mk (blk_below HX_w9.out hb)
                have b0 : w10.cell? ⟨wr.heap.size, 0, none⟩ = some (.string x.f0) := blk_cell HX_w10.out 0
                have b1 : w10.cell? ⟨wr.heap.size, 1, none⟩ = some (.string x.f1) := blk_cell HX_w10.out 1
                have b2 : w10.cell? ⟨wr.heap.size, 2, none⟩ = some (.int .i64 x.f2.f0) := blk_cell HX_w10.out 2
                have b3 : w10.cell? ⟨wr.heap.size, 3, none⟩ = some (.int .i64 x.f2.f1) := blk_cell HX_w10.out 3
                clear hb HCw10 HST_w9 HX_w9
                cases h0 : decide (0 < getQ (ofQ l0) x) with
                | true =>
                  have hq : mcond l0 l1 l2 x = false := by unfold mcond inP; simp [h1, h2, h0]
                  have HST2 : Aside0 (MSt w w10 g0 g1 g2 w6.heap.size l0.length l1.length l2.length (k + 1) l0 l1 l2 ((ab.take (k + 1)).filter (mcond l0 l1 l2)) ab (some ad) c) := ⟨by
                    rw [filter_take_succ _ ab k hlt x HXK.out, if_neg (by simp [hq])]
                    exact HST_w10.out.more (Nat.le_succ k)⟩
                  clear HST_w10 HX_w10 hq h1 h2 h0
                  go_wp2
                  go_roundw
                  case rel => exact ⟨k + 1, by omega, by go_num, HST2⟩
                  case measure => simp [intOf]; omega
                | false =>
                  have hq : mcond l0 l1 l2 x = true := by unfold mcond inP; simp [h0]
                  obtain ⟨st, v2, v3, cc, r1, r2, r3, r5, ho5, hg5⟩ := incQ_at HST_w10.out.mo.drew (ofQ_up _) hkm x hkx
                  rw [← ofQ_snoc] at ho5
                  have HST2 : Aside0 (MSt w v3 g0 g1 g2 w6.heap.size l0.length l1.length l2.length (k + 1) l0 l1 l2 ((ab.take (k + 1)).filter (mcond l0 l1 l2)) ab (some ad) c) := ⟨by
                    rw [filter_take_succ _ ab k hlt x HXK.out, if_pos hq]
                    exact (HST_w10.out.below (below_drew (Below.refl _ _))).grow ho5 hg5 (by omega) (by omega) (by omega) hw6⟩
                  clear ho5 hg5 HST_w10 HX_w10 hq h0
                  go_wp2_with fail
                  go_region
                  all_goals
                    go_wp2
                    go_roundw
                    case rel => exact ⟨k + 1, by omega, by go_num, HST2⟩
                    case measure => simp [intOf]; omega
            | false =>
              have HCw9 := Aside0.mk (has_calls g0 l0.length (ofQ l0) w8 HST_w8.out.m0 x hkx)
              go_wp2_with fail
              refine HCw9.out.mono ?_
              rintro e w9 ⟨rfl, hb⟩
              have HST_w9 := Aside0.mk (HST_w8.out.below hb)
              have HX_w9 := Aside0.mk (blk_below HX_w8.out hb)
              have b0 : w9.cell? ⟨wr.heap.size, 0, none⟩ = some (.string x.f0) := blk_cell HX_w9.out 0
              have b1 : w9.cell? ⟨wr.heap.size, 1, none⟩ = some (.string x.f1) := blk_cell HX_w9.out 1
              have b2 : w9.cell? ⟨wr.heap.size, 2, none⟩ = some (.int .i64 x.f2.f0) := blk_cell HX_w9.out 2
              have b3 : w9.cell? ⟨wr.heap.size, 3, none⟩ = some (.int .i64 x.f2.f1) := blk_cell HX_w9.out 3
              clear hb HCw9 HST_w8 HX_w8
              cases h0 : decide (0 < getQ (ofQ l0) x) with
              | true =>
                have hq : mcond l0 l1 l2 x = false := by unfold mcond inP; simp [h1, h0]
                have HST2 : Aside0 (MSt w w9 g0 g1 g2 w6.heap.size l0.length l1.length l2.length (k + 1) l0 l1 l2 ((ab.take (k + 1)).filter (mcond l0 l1 l2)) ab (some ad) c) := ⟨by
                  rw [filter_take_succ _ ab k hlt x HXK.out, if_neg (by simp [hq])]
                  exact HST_w9.out.more (Nat.le_succ k)⟩
                clear HST_w9 HX_w9 hq h1 h0
                go_wp2
                go_roundw
                case rel => exact ⟨k + 1, by omega, by go_num, HST2⟩
                case measure => simp [intOf]; omega
              | false =>
                have hq : mcond l0 l1 l2 x = true := by unfold mcond inP; simp [h0]
                obtain ⟨st, v2, v3, cc, r1, r2, r3, r5, ho5, hg5⟩ := incQ_at HST_w9.out.mo.drew (ofQ_up _) hkm x hkx
                rw [← ofQ_snoc] at ho5
                have HST2 : Aside0 (MSt w v3 g0 g1 g2 w6.heap.size l0.length l1.length l2.length (k + 1) l0 l1 l2 ((ab.take (k + 1)).filter (mcond l0 l1 l2)) ab (some ad) c) := ⟨by
                  rw [filter_take_succ _ ab k hlt x HXK.out, if_pos hq]
                  exact (HST_w9.out.below (below_drew (Below.refl _ _))).grow ho5 hg5 (by omega) (by omega) (by omega) hw6⟩
                clear ho5 hg5 HST_w9 HX_w9 hq h0
                go_wp2_with fail
                go_region
                all_goals
                  go_wp2
                  go_roundw
                  case rel => exact ⟨k + 1, by omega, by go_num, HST2⟩
                  case measure => simp [intOf]; omega
          · have hF : (ab.take k).filter (mcond l0 l1 l2) = ab.filter (mcond l0 l1 l2) := by rw [List.take_of_length_le (by omega)]
            have hfl : (ofQ (ab.filter (mcond l0 l1 l2))).length * 64 ≤ 140737488355328 := Nat.le_trans (Nat.mul_le_mul_right 64 (Nat.le_trans (ofQ_len _) (List.length_filter_le _ _))) hab48
            have hmo := HS0.out.mo
            rw [hF] at hmo
            have HL := Aside0.mk (plist_calls w6.heap.size _ _ wr hmo (ofQ_up _) (fun q hq => HOK.out _ (List.mem_filter.1 (ofQ_keys _ q hq)).1) hfl)
            have HB := Aside0.mk HS0.out.bel
            clear HS0 hmo
            go_wp2_with fail
            refine HL.out.mono ?_
            rintro e w8 ⟨v, rfl, ho8, hb8⟩
            obtain ⟨A', c', rfl⟩ := own_slice ho8
            have HO8 := Aside0.mk (own_lower2 ho8 HB.out.size)
            have HB8 := Aside0.mk (below_step HB.out hb8)
            clear ho8 hb8 HL HB
            go_wp2
            go_ret
            exact ⟨_, rfl, by rw [HI.out]; exact R_pair (by unfold setP; rw [sortP_length, List.length_map]) HO8.out, HB8.out⟩
end Go.Proofs.Ytannmdngejdjkaa.L
end
