/- slices.Insert of one whole number into a row of the call's own. By hand: the library's text is walked; three ways: at the end; inside, with room; inside, without. -/
import Derived.Test.YtameeejfkgoheaaPx0
import Derived.Lib.SliceRun
import Derived.Lib.AppendZeros
import Derived.Lib.AppendZerosOnto
import Derived.Lib.Overlaps
import Derived.Laws.Externs
import Derived.Laws.CopyRow
import Derived.Laws.IdiomCopy
import Derived.Laws.NewBlocks
import Derived.Deep.RegionLaw
namespace Go.Proofs.Ytameeejfkgoheaa.P
open Go.RowKit Go.Proofs.YtameeejfkgoheaaW.PrintWords Go.Proofs.YtameeejfkgoheaaW.PrintLast Go.Proofs.YtameeejfkgoheaaW.PrintMore
set_option linter.unusedVariables false
set_option linter.unusedSimpArgs false
section
variable {P : Program}
theorem wp_copy_runH (w : World) {o : Oper} {a : Act} {K : Act → World → Prop} {Q : Exit → Act → World → Prop} (d s : Operand) (t t' : TypeId)
    (ho : o.op = .call { callee := .builtin .copy, args := #[d, s], argTypes := #[t, t'] }) (v u : Value) (hd : a.eval d = v) (hs : a.eval s = u) {v' : Value} {w' : World}
    (hr : (Builtin.copy_ #[t, t'] o.type #[v, u]).run P w = .ok v' w') (h : K (a.put o.dst v') w') : o.wp P a w K Q := by
  unfold Oper.wp execOp
  simp only [ho, resolve, invoke, builtin, Sem.run_bind, Sem.run_pure, Result.andThen_ok, List.map_toArray, List.map_cons, List.map_nil, hd, hs, hr]
  exact h
theorem wpList_copy_runH (w : World) {ops : Array Oper} {rest : List Oper} {o : Oper} {a : Act} {Q : Exit → Act → World → Prop} (hgd : o.guard = none) (d s : Operand) (t t' : TypeId)
    (ho : o.op = .call { callee := .builtin .copy, args := #[d, s], argTypes := #[t, t'] }) (v u : Value) (hd : a.eval d = v) (hs : a.eval s = u) {v' : Value} {w' : World}
    (hr : (Builtin.copy_ #[t, t'] o.type #[v, u]).run P w = .ok v' w') (h : wpList P ops Q rest (a.put o.dst v') w') : wpList P ops Q (o :: rest) a w :=
  wpList_plain hgd fun _ hK => wp_copy_runH w d s t t' ho v u hd hs hr (hK _ _ h)
theorem step_copy_runH {ops : Array Oper} {o : Oper} {a : Act} {w : World} {K : Act → World → Prop} {Q : Exit → Act → World → Prop} {E : Prop}
    (hg : o.guard = none) (d x : Operand) (dT sT : TypeId) (hop : o.op = Op.call { callee := Callee.builtin Builtin.copy, args := #[d, x], argTypes := #[dT, sT] })
    (v u : Value) (hd : a.eval d = v) (hx : a.eval x = u) {v' : Value} {w' : World} (hr : (Builtin.copy_ #[dT, sT] o.type #[v, u]).run P w = .ok v' w') (hK : K (a.put o.dst v') w') :
    if Region.wanted o (yielded ops a.tmps) = true then Oper.wp P o a w K Q else E := by
  have hw : Region.wanted o (yielded ops a.tmps) = true := by simp [Region.wanted, hg]
  rw [if_pos hw]
  unfold Oper.wp
  simp [execOp, hop, resolve, invoke, builtin, hd, hx, hr, Result.andThen]
  exact hK
theorem append_types (t t' ty e e' : TypeId) (ht : P.underlying t = some (.slice e)) (ht' : P.underlying t' = some (.slice e')) (s x : Value) (w : World) :
    (Builtin.append_ #[t, t'] ty #[s, x]).run P w = (Builtin.append_ #[t, t] ty #[s, x]).run P w := by
  cases s <;> simp [Builtin.append_, run_underlying ht, run_underlying ht']
/-- copy into a row of a block, elements of k cells -/
theorem run_copy_rowK (w : World) (dT sT ty elem : TypeId) (k g o dLen dCap : Nat) (a : Addr) (sLen sCap : Nat) (cur : Array Value) (t : TypeId) (cs : List Value)
    (hu : P.underlying dT = some (.slice elem)) (hs : (P.info? elem).map (·.size) = some k)
    (hg : w.heap[g]? = some (.cells cur t (0, 0))) (m : Nat) (hm : m = Nat.min sLen dLen) (hn : cs.length = m * k)
    (hsrc : ∀ j v, cs[j]? = some v → w.cell? (a.add j) = some v) (hfit : o + cs.length ≤ cur.size) (h1 : ∀ v ∈ cs, v.oneCell' = true) :
    (Builtin.copy_ #[dT, sT] ty #[.slice (some ⟨g, o, none⟩) dLen dCap, .slice (some a) sLen sCap]).run P w =
      .ok (goInt m) (w.setRow g (cur.toList.take o ++ cs ++ cur.toList.drop (o + cs.length)).toArray) := by
  have hl := run_loadCells_list (P := P) w a cs hsrc
  have hst := run_storeCells_at P g o t cs 0 cur w hg (by simpa using hfit) h1
  cases hq : P.info? elem with
  | none => simp [hq] at hs
  | some i =>
    have hi : i.size = k := by simpa [hq] using hs
    rw [hn] at hl
    simp [Builtin.copy_, run_underlying hu, Builtin.lenOf, Builtin.firstCells, sizeOf, typeInfo, hq, hi, ← hm, hl, hst]
end
theorem infoI : (Try.prog.info? 3).map (fun i => (i.zero, i.size, i.bytes)) = some (some (.int .i64 0), 1, 8) := by kernel_rfl
theorem heap_setRow (w : World) (g : Nat) (cur cs : Array Value) (t : TypeId) (hg : w.heap[g]? = some (.cells cur t (0, 0))) : (w.setRow g cs).heap[g]? = some (.cells cs t (0, 0)) := by
  simp [World.setRow, Array.getElem?_modify, hg]
theorem grown_setRow (w : World) (g : Nat) (cs : Array Value) : w.grownBy (w.setRow g cs) (some g) := by
  refine ⟨rfl, rfl, rfl, by simp [World.setRow], fun k hk hne => ?_⟩
  have : g ≠ k := fun e => hne (by rw [e])
  simp [World.setRow, Array.getElem?_modify, this]

theorem news_block {w : World} {g : Nat} {cs : Array Value} {t : TypeId} (h : w.heap[g]? = some (.cells cs t (0, 0))) : ∀ j u, cs.toList[j]? = some u → w.cell? ((⟨g, 0, none⟩ : Addr).add j) = some u := fun j u hu => by
  rw [add_plain, blk_cell h j]; simpa using hu
set_option maxHeartbeats 1000000 in
theorem ins_end (base : Nat) (v : Value) (n : Nat) (xs : List Value) (w : World) (hown : w.ownsRow base 3 1 v n xs) (hbase : base ≤ w.heap.size) (vb : Nat) (x : List Value) (hl : x.length = 1) (h1 : ∀ u ∈ x, u.oneCell' = true)
    (hx : w.heap[vb]? = some (.cells x.toArray 3 (0, 0))) (hlim : (n + 1) * 8 ≤ 140737488355328) :
    Calls Try.prog 29 #[v, .int .i64 n, .slice (some ⟨vb, 0, none⟩) 1 1] w fun e w' => ∃ v', e = .returned v' ∧ w'.ownsRow base 3 1 v' (n + 1) (xs ++ x) ∧ w.grownBy w' v.ownBlock ∧ (v'.ownBlock = v.ownBlock ∨ ∃ b, v'.ownBlock = some b ∧ w.heap.size ≤ b) := by
  obtain ⟨i0, hi, hz0, hz1, hz2⟩ := info_parts infoI
  obtain ⟨v', w', hr, ho, hg, _, hat⟩ := run_append_own_at (P := Try.prog) (w := w) base 28 28 3 i0 _ 1 8 Try.underlying28 hi hz0 hz1 hz2 (by rfl) (by omega) v n xs hown ⟨vb, 0, none⟩ 1 1 x (by omega)
    (news_block (cs := x.toArray) hx) h1 (by unfold maxLen; omega) hlim hbase
  have HO := Aside0.mk ho
  have HG := Aside0.mk hg
  have HA := Aside0.mk hat
  have hnm : n ≤ 9223372036854775807 := by omega
  clear ho hg hat
  have hr2 : ∀ ty, (Builtin.append_ #[28, 28] ty #[v, .slice (some ⟨vb, 0, none⟩) 1 1]).run Try.prog w = .ok v' w' := fun ty => by
    rw [append_types _ _ ty _ _ Try.underlying28 Try.underlying28]; exact hr
  clear hr
  have hown2 := hown.2
  have hxl : x.length = 1 := hl
  rcases hown2 with ⟨rfl, rfl⟩ | ⟨g, cap, cur, rfl, hg1, hg2, hg3, hg4, hg5, hg6⟩
  · clear hown hbase hx hlim hl h1 hxl hi hz0 hz1 hz2
    go_enter Try.func29, Try.ntmps29
    go_wp2_with (at_builtin; refine Lib.wpList_append_run _ rfl _ _ _ _ rfl _ _ rfl rfl _ _ (hr2 _) ?_)
    go_ret
    exact ⟨v', rfl, HO.out, HG.out, HA.out.imp id fun h => ⟨_, h, Nat.le_refl _⟩⟩
  · clear hown hbase hx hlim hl h1 hxl hi hz0 hz1 hz2 hg1 hg2 hg5 hg6
    go_enter Try.func29, Try.ntmps29
    go_wp2_with (at_builtin; refine Lib.wpList_append_run _ rfl _ _ _ _ rfl _ _ rfl rfl _ _ (hr2 _) ?_)
    all_goals (go_ret; exact ⟨v', rfl, HO.out, HG.out, HA.out.imp id fun h => ⟨_, h, Nat.le_refl _⟩⟩)

theorem add_plain' (g o j : Nat) : (⟨g, o, none⟩ : Addr).add j = ⟨g, o + j, none⟩ := by unfold Addr.add; split <;> simp_all
theorem cur_cell {w : World} {g : Nat} {cur : Array Value} {t : TypeId} (h : w.heap[g]? = some (.cells cur t (0, 0))) (j : Nat) (u : Value) (hu : cur.toList[j]? = some u) : w.cell? ⟨g, j, none⟩ = some u := by
  rw [blk_cell h j]; simpa using hu
set_option maxHeartbeats 2000000 in
set_option maxRecDepth 100000 in
/-- inside, with room: in place -/
theorem ins_shift (base : Nat) (g n cap i : Nat) (cur : Array Value) (xs : List Value) (w : World) (hin : i < n) (hroom : n + 1 ≤ cap) (hcm : cap ≤ maxLen) (hg : w.heap[g]? = some (.cells cur 3 (0, 0))) (hgb : base ≤ g) (hsz : cur.size = cap) (htk : cur.toList.take (n) = xs)
    (hone : ∀ u ∈ xs, u.oneCell' = true) (vb : Nat) (x : List Value) (hl : x.length = 1) (h1 : ∀ u ∈ x, u.oneCell' = true) (hne : vb ≠ g)
    (hx : w.heap[vb]? = some (.cells x.toArray 3 (0, 0))) :
    Calls Try.prog 29 #[.slice (some ⟨g, 0, none⟩) n cap, .int .i64 i, .slice (some ⟨vb, 0, none⟩) 1 1] w fun e w' => e = .returned (.slice (some ⟨g, 0, none⟩) (n + 1) cap) ∧
      w'.ownsRow base 3 1 (.slice (some ⟨g, 0, none⟩) (n + 1) cap) (n + 1) (xs.take (i) ++ x ++ xs.drop (i)) ∧ w.grownBy w' (some g) := by
  have hxs : xs.length = n := by rw [← htk, List.length_take, Array.length_toList, hsz]; omega
  have hcl : cur.toList.length = cap := by rw [Array.length_toList, hsz]
  unfold maxLen at hcm
  have hz1 : ¬ ((i : Int) = (n : Int)) := by omega
  have hsize : (Try.prog.info? 3).map (·.size) = some 1 := by
    obtain ⟨i0, hi, hz0, hz1, hz2⟩ := info_parts infoI
    rw [hi]; simp [hz1]
  have hgw := blk_lt hg
  have hvw := blk_lt hx
  -- the two copies
  have hdl : (xs.drop (i)).length = (n - i) := by rw [List.length_drop, hxs]
  obtain ⟨c1, hc1⟩ : ∃ c1, c1 = (cur.toList.take ((i + 1)) ++ xs.drop (i) ++ cur.toList.drop ((i + 1) + (xs.drop (i)).length)).toArray := ⟨_, rfl⟩
  have hcp1 : ∀ (W : World), (∀ x, W.heap[x]? = w.heap[x]?) → ∀ ty dc sc, (Builtin.copy_ #[28, 28] ty #[.slice (some ⟨g, (i + 1), none⟩) (n - i) dc, .slice (some ⟨g, i, none⟩) (n + 1 - i) sc]).run Try.prog W = .ok (goInt ((n - i : Nat) : Int)) (W.setRow g c1) := fun W hW ty dc sc => by
    rw [hc1]
    refine run_copy_rowK W _ _ ty 3 1 g ((i + 1)) (n - i) dc ⟨g, i, none⟩ (n + 1 - i) sc cur 3 (xs.drop (i)) Try.underlying28 hsize ((hW g).trans hg) (n - i) ?_ (by rw [Nat.mul_one]; exact hdl) ?_ ?_ ?_
    · simp only [Nat.min_def]; split <;> omega
    · intro j u hj
      rw [add_plain']
      refine cur_cell ((hW g).trans hg) _ _ ?_
      rw [List.getElem?_drop] at hj
      rw [← htk, List.getElem?_take] at hj
      split at hj
      · exact hj
      · cases hj
    · rw [hdl, hsz]; omega
    · intro u hu; exact hone u (List.mem_of_mem_drop hu)
  have hc1l : c1.toList = cur.toList.take ((i + 1)) ++ xs.drop (i) ++ cur.toList.drop ((i + 1) + (xs.drop (i)).length) := by rw [hc1]
  have hc1s : c1.size = cap := by
    rw [← Array.length_toList, hc1l]
    simp only [List.length_append, List.length_take, List.length_drop, hcl, hdl]
    omega
  obtain ⟨c2, hc2⟩ : ∃ c2, c2 = (c1.toList.take (i) ++ x ++ c1.toList.drop (i + x.length)).toArray := ⟨_, rfl⟩
  have hcp2 : ∀ (W : World), W.heap[g]? = some (.cells c1 3 (0, 0)) → W.heap[vb]? = some (.cells x.toArray 3 (0, 0)) → ∀ ty dc, (Builtin.copy_ #[28, 28] ty #[.slice (some ⟨g, i, none⟩) (n + 1 - i) dc, .slice (some ⟨vb, 0, none⟩) 1 1]).run Try.prog W = .ok (goInt ((1 : Nat) : Int)) (W.setRow g c2) := fun W hW1 hW2 ty dc => by
    rw [hc2]
    refine run_copy_rowK W _ _ ty 3 1 g (i) (n + 1 - i) dc ⟨vb, 0, none⟩ 1 1 c1 3 x Try.underlying28 hsize hW1 1 ?_ (by omega) ?_ ?_ h1
    · simp only [Nat.min_def]; split <;> omega
    · exact news_block (cs := x.toArray) hW2
    · rw [hl, hc1s]; omega
  have hfin : c2.toList.take ((n + 1)) = xs.take (i) ++ x ++ xs.drop (i) := by
    have e1 : c1.toList.take (i) = xs.take (i) := by
      rw [hc1l, List.append_assoc, List.take_append_of_le_length (by rw [List.length_take, hcl]; omega), List.take_take, ← htk, List.take_take]
      congr 1; omega
    have e2 : c1.toList.drop (i + x.length) = xs.drop (i) ++ cur.toList.drop ((i + 1) + (xs.drop (i)).length) := by
      rw [hc1l, List.append_assoc]
      exact List.drop_left' (by rw [List.length_take, hcl, hl]; omega)
    rw [hc2]
    show List.take _ (_ ++ _ ++ _) = _
    rw [e1, e2, ← List.append_assoc]
    exact List.take_left' (by simp only [List.length_append, List.length_take, hxs, hdl, hl]; omega)
  have hc2s : c2.size = cap := by
    rw [← Array.length_toList, hc2]
    simp only [List.length_append, List.length_take, List.length_drop, Array.length_toList, hc1s, hl]
    omega
  have hov : ∀ lb cb, (callFunc 38 #[.slice (some ⟨vb, 0, none⟩) 1 1, .slice (some ⟨g, (i + 1), none⟩) lb cb]).run Try.prog w = .ok (.value (.bool false)) w := fun lb cb => by
    rw [run_callFunc_extern Try.func38 (by kernel_rfl) (by kernel_rfl) (by kernel_rfl) (e := Extern.SlicesOverlaps.overlaps #[28, 28] #[4]) (by kernel_rfl),
      Lib.run_overlaps_apart w 28 4 3 Try.underlying28 1 Try.sizeOf3 ⟨vb, 0, none⟩ ⟨g, (i + 1), none⟩ 1 1 lb cb hne _ _ _ _ (by simp [World.shape?, hx]; exact ⟨rfl, rfl⟩) (by simp [World.shape?, hg]; exact ⟨rfl, rfl⟩) (by omega) (blk_frozen hx 0) (blk_frozen hx _)]
    rfl
  have HR := Aside0.mk (show (w.setRow g c1).heap[g]? = some (.cells c1 3 (0, 0)) ∧ (w.setRow g c1).heap[vb]? = some (.cells x.toArray 3 (0, 0)) from ⟨heap_setRow w g cur c1 _ hg, ((grown_setRow w g c1).block vb hvw (fun e => hne (Option.some.inj e))).trans hx⟩)
  have HF := Aside0.mk (And.intro hfin hc2s)
  have HG := Aside0.mk hg
  have HL := Aside0.mk hl
  have HX := Aside0.mk (And.intro hxs hgb)
  have hb0 : ¬ ((cap : Int) < (n : Int) + 1) := by omega
  have hw1 : IntKind.i64.wrap ((i : Int) + 1) = (i : Int) + 1 := by rw [IntKind.wrap_i64]; omega
  have hb1 : (0 : Int) ≤ (i : Int) + 1 := by omega
  have hle : i ≤ n := by omega
  have htn : ((i : Int) + 1).toNat = i + 1 := by omega
  have hb2 : ¬ (cap = i + 1) := by omega
  have hb3 : (i : Int) ≤ (n : Int) + 1 := by omega
  have hb4 : ¬ (cap = i) := by omega
  clear hfin hc2s hc1s hc1l hc2 hc1 hdl hcl htk hone h1 hx hg hgb hgw hvw hsize hxs hl hsz hne
  go_enter Try.func29, Try.ntmps29
  go_wp2_with (simp only [hov])
  go_region_law (refine step_copy_runH rfl _ _ 28 28 rfl (.slice (some ⟨g, (i + 1), none⟩) (n - i) (cap - (i + 1))) (.slice (some ⟨g, i, none⟩) (n + 1 - i) (cap - i)) (by simp [Act.eval, Act.put]) (by simp [Act.eval, Act.put]) (hcp1 w.drew (fun _ => rfl) _ _ _) ?_)
  go_wp2_with (refine wpList_copy_runH _ rfl (.tmp 80) (.tmp 81) 28 28 rfl (.slice (some ⟨g, i, none⟩) (n + 1 - i) (cap - i)) (.slice (some ⟨vb, 0, none⟩) 1 1) rfl rfl (hcp2 (w.drew.setRow g c1) HR.out.1 HR.out.2 _ _) ?_)
  go_ret
  refine ⟨rfl, ⟨?_, .inr ⟨g, cap, c2, rfl, HX.out.2, heap_setRow _ g c1 c2 _ HR.out.1, hroom, by unfold maxLen; omega, (by rw [Nat.mul_one]; exact HF.out.2), (by rw [Nat.mul_one]; exact HF.out.1)⟩⟩, ?_⟩
  · have e1 := HL.out; have e2 := HX.out.1
    simp only [List.length_append, List.length_take, List.length_drop, e1, e2]
    omega
  · have q := grown_setRow w g c1
    have q2 : w.grownBy (w.drew.setRow g c1) (some g) := ⟨q.os, q.tape, q.output, q.size, q.block⟩
    exact World.grownBy.trans q2 (grown_setRow (w.drew.setRow g c1) g c2)

theorem zeroCells_size (z : Array Value) (n : Nat) : (Builtin.zeroCells z n).size = n * z.size := by simp [Builtin.zeroCells]
set_option maxHeartbeats 4000000 in
set_option maxRecDepth 100000 in
/-- inside, without room: a new row -/
theorem ins_grow (base : Nat) (g n cap i : Nat) (cur : Array Value) (xs : List Value) (w : World) (hbase : base ≤ w.heap.size) (hin : i < n) (hnc : n ≤ cap) (hroom : cap < n + 1) (hlim : (n + 1) * 8 ≤ 140737488355328) (hg : w.heap[g]? = some (.cells cur 3 (0, 0))) (hsz : cur.size = cap) (htk : cur.toList.take (n) = xs)
    (hone : ∀ u ∈ xs, u.oneCell' = true) (vb : Nat) (x : List Value) (hl : x.length = 1) (h1 : ∀ u ∈ x, u.oneCell' = true)
    (hx : w.heap[vb]? = some (.cells x.toArray 3 (0, 0))) :
    Calls Try.prog 29 #[.slice (some ⟨g, 0, none⟩) n cap, .int .i64 i, .slice (some ⟨vb, 0, none⟩) 1 1] w fun e w' => ∃ v', e = .returned v' ∧
      w'.ownsRow base 3 1 v' (n + 1) (xs.take (i) ++ x ++ xs.drop (i)) ∧ w.grownBy w' (some g) ∧ v'.ownBlock = some w.heap.size := by
  have hxs : xs.length = n := by rw [← htk, List.length_take, Array.length_toList, hsz]; omega
  have hcl : cur.toList.length = cap := by rw [Array.length_toList, hsz]
  have hz0' : ¬ ((i : Int) = (n : Int)) := by omega
  have hz3 : (cap : Int) < (n : Int) + 1 := by omega
  obtain ⟨i0, hi0, hz0, hzs, hzb⟩ := info_parts infoI
  have hsize : (Try.prog.info? 3).map (·.size) = some 1 := by rw [hi0]; simp [hzs]
  have hgw := blk_lt hg
  have hvw := blk_lt hx
  have hdl : (xs.drop (i)).length = (n - i) := by rw [List.length_drop, hxs]
  have htl : (xs.take (i)).length = i := by rw [List.length_take, hxs]; omega
  have hkk : (n : Int) + 1 - (i : Int) = ((n + 1 - i : Nat) : Int) := by omega
  have hik : i + (n + 1 - i) = n + 1 := by omega
  have hcells : ∀ j u, xs[j]? = some u → w.cell? ⟨g, j, none⟩ = some u := fun j u hj => by
    refine cur_cell hg _ _ ?_
    rw [← htk, List.getElem?_take] at hj
    split at hj
    · exact hj
    · cases hj
  have hold : (Builtin.firstCells i0.size i (.slice (some ⟨g, 0, none⟩) i cap)).run Try.prog w.drew = .ok (xs.take (i)).toArray w.drew := by
    rw [hzs]
    exact run_firstCells_some w.drew 1 i ⟨g, 0, none⟩ i cap (xs.take (i)) (by rw [Nat.mul_one]; exact htl) (fun j u hj => by
      rw [add_plain]
      rw [List.getElem?_take] at hj
      split at hj
      · exact hcells j u hj
      · cases hj)
  obtain ⟨G, hG⟩ : ∃ G, G = grownCap w (n + 1) cap 3 := ⟨_, rfl⟩
  obtain ⟨zz, hzz⟩ : ∃ zz : Array Value, zz.size = 1 ∧ ∀ ty, (Builtin.append_ #[28, 3] ty #[.slice (some ⟨g, 0, none⟩) i cap, .int .i64 ((n : Int) + 1 - (i : Int))]).run Try.prog w =
      .ok (.slice (some ⟨w.heap.size, 0, none⟩) (n + 1) G) (w.drew.alloc (.cells ((xs.take (i)).toArray ++ Builtin.zeroCells zz (n + 1 - i) ++ Builtin.zeroCells zz (G - (n + 1))) 3)) := by
    refine ⟨(Value.int .i64 0).cells, rfl, fun ty => ?_⟩
    have h := Lib.run_append_grow_zeros (P := Try.prog) w 28 3 ty 3 i0 _ .i64 .i64 Try.underlying28 Try.underlying3 hi0 hz0 (some ⟨g, 0, none⟩) i cap (xs.take (i)) hold (n + 1 - i) (by omega) (by omega) (by omega) (by omega) (by rw [hzb]; omega) (by rw [hzb, hik]; exact growslice_fits hroom hlim)
    rw [hik, ← hG] at h
    rw [hkk]
    exact h
  obtain ⟨hzz5, hrz⟩ := hzz
  obtain ⟨ROW, hROW⟩ : ∃ ROW : Array Value, ROW = (xs.take (i)).toArray ++ Builtin.zeroCells zz (n + 1 - i) ++ Builtin.zeroCells zz (G - (n + 1)) := ⟨_, rfl⟩
  rw [← hROW] at hrz
  have hGn : n + 1 ≤ G := by rw [hG]; exact grownCap_ge w _ _ _
  have hG63 : G ≤ 9223372036854775807 := by
    have := grownCap_le_maxLen w (n + 1) cap 3 (by unfold maxLen; omega)
    rw [← hG] at this
    unfold maxLen at this
    omega
  have hRs : ROW.size = G := by
    rw [hROW]
    simp only [Array.size_append, zeroCells_size, List.size_toArray, htl, hzz5]
    omega
  have hRt : ROW.toList.take (i) = xs.take (i) := by
    rw [hROW]
    simp only [Array.toList_append, List.append_assoc]
    exact List.take_left' htl
  obtain ⟨rA, hrA⟩ : ∃ rA, rA = (ROW.toList.take (i) ++ x ++ ROW.toList.drop (i + x.length)).toArray := ⟨_, rfl⟩
  have hAs : rA.size = G := by
    rw [← Array.length_toList, hrA]
    simp only [List.length_append, List.length_take, List.length_drop, Array.length_toList, hRs, hl]
    omega
  obtain ⟨rB, hrB⟩ : ∃ rB, rB = (rA.toList.take ((i + 1)) ++ xs.drop (i) ++ rA.toList.drop ((i + 1) + (xs.drop (i)).length)).toArray := ⟨_, rfl⟩
  have hBs : rB.size = G := by
    rw [← Array.length_toList, hrB]
    simp only [List.length_append, List.length_take, List.length_drop, Array.length_toList, hAs, hdl]
    omega
  have hfin : rB.toList.take ((n + 1)) = xs.take (i) ++ x ++ xs.drop (i) := by
    have e1 : rA.toList.take ((i + 1)) = xs.take (i) ++ x := by
      rw [hrA]
      show List.take _ (_ ++ _ ++ _) = _
      rw [hRt]
      exact List.take_left' (by simp only [List.length_append, htl, hl])
    rw [hrB]
    show List.take _ (_ ++ _ ++ _) = _
    rw [e1]
    exact List.take_left' (by simp only [List.length_append, htl, hdl, hl]; omega)
  have hcpA : ∀ (W : World), W.heap[w.heap.size]? = some (.cells ROW 3 (0, 0)) → W.heap[vb]? = some (.cells x.toArray 3 (0, 0)) → ∀ ty dc, (Builtin.copy_ #[28, 28] ty #[.slice (some ⟨w.heap.size, i, none⟩) (n + 1 - i) dc, .slice (some ⟨vb, 0, none⟩) 1 1]).run Try.prog W = .ok (goInt ((1 : Nat) : Int)) (W.setRow w.heap.size rA) := fun W hW1 hW2 ty dc => by
    rw [hrA]
    refine run_copy_rowK W _ _ ty 3 1 w.heap.size (i) (n + 1 - i) dc ⟨vb, 0, none⟩ 1 1 ROW 3 x Try.underlying28 hsize hW1 1 ?_ (by omega) ?_ ?_ h1
    · simp only [Nat.min_def]; split <;> omega
    · exact news_block (cs := x.toArray) hW2
    · rw [hl, hRs]; omega
  have hcpB : ∀ (W : World), W.heap[w.heap.size]? = some (.cells rA 3 (0, 0)) → W.heap[g]? = some (.cells cur 3 (0, 0)) → ∀ ty dc sc, (Builtin.copy_ #[28, 28] ty #[.slice (some ⟨w.heap.size, (i + 1), none⟩) (n - i) dc, .slice (some ⟨g, i, none⟩) (n - i) sc]).run Try.prog W = .ok (goInt ((n - i : Nat) : Int)) (W.setRow w.heap.size rB) := fun W hW1 hW2 ty dc sc => by
    rw [hrB]
    refine run_copy_rowK W _ _ ty 3 1 w.heap.size ((i + 1)) (n - i) dc ⟨g, i, none⟩ (n - i) sc rA 3 (xs.drop (i)) Try.underlying28 hsize hW1 (n - i) ?_ (by rw [Nat.mul_one]; exact hdl) ?_ ?_ ?_
    · simp only [Nat.min_def]; split <;> omega
    · intro j u hj
      rw [add_plain']
      refine cur_cell hW2 _ _ ?_
      rw [List.getElem?_drop] at hj
      rw [← htk, List.getElem?_take] at hj
      split at hj
      · exact hj
      · cases hj
    · rw [hdl, hAs]; omega
    · intro u hu; exact hone u (List.mem_of_mem_drop hu)
  have HN := fun (o : Obj) => blk_new w o
  have HO1 := fun (o : Obj) => (Below.heap_alloc w o g hgw).trans hg
  have HO2 := fun (o : Obj) => (Below.heap_alloc w o vb hvw).trans hx
  have HF := Aside0.mk (And.intro hfin hBs)
  have HL := Aside0.mk (And.intro hl hxs)
  have HNE := Aside0.mk (And.intro (show g ≠ w.heap.size by omega) (show vb ≠ w.heap.size by omega))
  have hw1 : IntKind.i64.wrap ((i : Int) + 1) = (i : Int) + 1 := by rw [IntKind.wrap_i64]; omega
  have hb1 : (0 : Int) ≤ (i : Int) + 1 := by omega
  have hle : i ≤ n := by omega
  have htn : ((i : Int) + 1).toNat = i + 1 := by omega
  have hb2 : ¬ (G = i) := by omega
  have hb3 : ¬ (G = i + 1) := by omega
  have hb4 : ¬ (cap = i) := by omega
  have hb5 : (i : Int) ≤ (n : Int) := by omega
  have hb6 : (i : Int) ≤ (n : Int) + 1 := by omega
  have HB := Aside0.mk hbase
  clear hkk hik hold hROW hG hRt hrA hrB hAs hBs hfin hl h1 hx hg hdl htl hcl hxs hone htk hsz hcells hzz5 hRs hsize hi0 hz0 hzs hzb
  go_enter Try.func29, Try.ntmps29
  go_wp2_with (first
    | (at_builtin; refine Lib.wpList_append_run _ rfl _ _ _ _ rfl _ _ rfl rfl _ _ (hrz _) ?_)
    | (refine wpList_copy_runH ((w.alloc (.cells ROW 3)).drew) rfl (.tmp 43) (.tmp 44) 28 28 rfl (.slice (some ⟨w.heap.size, i, none⟩) (n + 1 - i) (G - i)) (.slice (some ⟨vb, 0, none⟩) 1 1) rfl rfl (hcpA ((w.alloc (.cells ROW 3)).drew) (HN _) (HO2 _) _ _) ?_))
  have q1 := heap_setRow ((w.alloc (.cells ROW 3)).drew) w.heap.size ROW rA _ (HN _)
  have q2 := ((grown_setRow ((w.alloc (.cells ROW 3)).drew) w.heap.size rA).block g (Nat.lt_of_lt_of_le hgw (by simp)) (fun e => HNE.out.1 (Option.some.inj e))).trans (HO1 _)
  have Q1 := Aside0.mk q1
  have Q2 := Aside0.mk q2
  clear q1 q2
  go_region_law (refine step_copy_runH rfl _ _ 28 28 rfl (.slice (some ⟨w.heap.size, (i + 1), none⟩) (n - i) (G - (i + 1))) (.slice (some ⟨g, i, none⟩) (n - i) (cap - i)) (by simp [Act.eval, Act.put]) (by simp [Act.eval, Act.put]) (hcpB (((w.alloc (.cells ROW 3)).drew.setRow w.heap.size rA).drew) Q1.out Q2.out _ _ _) ?_)
  go_wp2
  go_ret
  refine ⟨_, rfl, ⟨?_, .inr ⟨w.heap.size, G, rB, rfl, HB.out, heap_setRow _ w.heap.size rA rB _ Q1.out, hGn, by unfold maxLen; omega, (by rw [Nat.mul_one]; exact HF.out.2), (by rw [Nat.mul_one]; exact HF.out.1)⟩⟩, ?_, rfl⟩
  · have e1 := HL.out.1; have e2 := HL.out.2
    simp only [List.length_append, List.length_take, List.length_drop, e1, e2]
    omega
  · have p0 : Below w.heap.size w ((w.alloc (.cells ROW 3)).drew) := below_drew (below_alloc (Below.refl _ _) _)
    refine ⟨rfl, rfl, rfl, by simp [World.setRow], fun k hk hne => ?_⟩
    have hk2 : some k ≠ some w.heap.size := fun e => by have := Option.some.inj e; omega
    have hk3 : k < ((w.alloc (.cells ROW 3)).drew).heap.size := Nat.lt_of_lt_of_le hk p0.size
    have s1 := (grown_setRow ((w.alloc (.cells ROW 3)).drew) w.heap.size rA)
    have s2 := (grown_setRow ((((w.alloc (.cells ROW 3)).drew).setRow w.heap.size rA).drew) w.heap.size rB)
    exact (s2.block k (Nat.lt_of_lt_of_le hk3 s1.size) hk2).trans ((s1.block k hk3 hk2).trans (p0.block k hk))

/-- slices.Insert of one register: into a row of the call's own -/
theorem ins_calls (base : Nat) (v : Value) (n i : Nat) (xs : List Value) (w : World) (hown : w.ownsRow base 3 1 v n xs) (hbase : base ≤ w.heap.size) (hin : i ≤ n) (hone : ∀ u ∈ xs, u.oneCell' = true) (vb : Nat) (x : List Value) (hl : x.length = 1) (h1 : ∀ u ∈ x, u.oneCell' = true)
    (hx : w.heap[vb]? = some (.cells x.toArray 3 (0, 0))) (hne : v.ownBlock ≠ some vb) (hlim : (n + 1) * 8 ≤ 140737488355328) :
    Calls Try.prog 29 #[v, .int .i64 i, .slice (some ⟨vb, 0, none⟩) 1 1] w fun e w' => ∃ v', e = .returned v' ∧ w'.ownsRow base 3 1 v' (n + 1) (xs.take (i) ++ x ++ xs.drop (i)) ∧ w.grownBy w' v.ownBlock ∧ (v'.ownBlock = v.ownBlock ∨ ∃ b, v'.ownBlock = some b ∧ w.heap.size ≤ b) := by
  rcases Nat.eq_or_lt_of_le hin with rfl | hlt
  · have e1 : xs.take (i) = xs := List.take_of_length_le (by rw [hown.1]; exact Nat.le_of_eq (Nat.mul_one _))
    have e2 : xs.drop (i) = [] := List.drop_of_length_le (by rw [hown.1]; exact Nat.le_of_eq (Nat.mul_one _))
    rw [e1, e2, List.append_nil]
    exact ins_end base v i xs w hown hbase vb x hl h1 hx hlim
  · rcases hown.2 with ⟨rfl, rfl⟩ | ⟨g, cap, cur, rfl, hg1, hg2, hg3, hg4, hg5, hg6⟩
    · omega
    · rw [Nat.mul_one] at hg5 hg6
      rcases Nat.lt_or_ge cap (n + 1) with hr | hr
      · refine (ins_grow base g n cap i cur xs w hbase hlt hg3 hr hlim hg2 hg5 hg6 hone vb x hl h1 hx).mono ?_
        rintro e w' ⟨v', h, ho, hg, hb⟩
        exact ⟨v', h, ho, hg, .inr ⟨_, hb, Nat.le_refl _⟩⟩
      · refine (ins_shift base g n cap i cur xs w hlt hr hg4 hg2 hg1 hg5 hg6 hone vb x hl h1 (fun e => hne (by rw [e]; rfl)) hx).mono ?_
        rintro e w' ⟨h, ho, hg⟩
        exact ⟨_, h, ho, hg, .inl rfl⟩
end Go.Proofs.Ytameeejfkgoheaa.P
