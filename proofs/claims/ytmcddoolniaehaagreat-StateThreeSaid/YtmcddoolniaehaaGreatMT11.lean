/- Several of the walk's texts in one: SHIns, Sx12. -/
import Derived.Lib.SliceRun
import Derived.Lib.AppendZeros
import Derived.Lib.AppendZerosOnto
import Derived.Lib.Overlaps
import Derived.Laws.Externs
import Derived.Laws.CopyRow
import Derived.Laws.IdiomCopy
import Derived.Laws.NewBlocks
import Derived.Deep.RegionLaw
import Derived.Test.YtmcddoolniaehaaGreatMT03
import Derived.Test.YtmcddoolniaehaaGreatMT04
import Derived.Test.YtmcddoolniaehaaGreatMT06
section
namespace Go.Proofs.YtmcddoolniaehaaGreat.S
open Go.RowKit Go.Proofs.YtmcddoolniaehaaGreatW.PrintWords Go.Proofs.YtmcddoolniaehaaGreatW.PrintLast Go.Proofs.YtmcddoolniaehaaGreatW.PrintMore
set_option linter.unusedVariables false
set_option linter.unusedSimpArgs false
section
variable {P : Program}
theorem wp_copy_runH (w : World) {o : Oper} {a : Act} {K : Act → World → Prop} {Q : Exit → Act → World → Prop} (d s : Operand) (t t' : TypeId)
    (ho : o.op = .call { callee := .builtin .copy, args := #[d, s], argTypes := #[t, t'] }) (v u : Value) (hd : a.eval d = v) (hs : a.eval s = u) {v' : Value} {w' : World}
    (hr : (Builtin.copy_ #[t, t'] o.type #[v, u]).run P w = .ok v' w') (h : K (a.put o.dst v') w') : o.wp P a w K Q := by
  unfold Oper.wp execOp
  simp only [ho, resolve, invoke, builtin, Sem.run_bind, Sem.run_pure, Result.andThen_ok, List.map_toArray, List.map_cons, List.map_nil, hd, hs, hr]
  exact h
theorem wpList_copy_runH (w : World) {ops : Array Oper} {rest : List Oper} {o : Oper} {a : Act} {Q : Exit → Act → World → Prop} (hgd : o.guard = none) (d s : Operand) (t t' : TypeId)
    (ho : o.op = .call { callee := .builtin .copy, args := #[d, s], argTypes := #[t, t'] }) (v u : Value) (hd : a.eval d = v) (hs : a.eval s = u) {v' : Value} {w' : World}
    (hr : (Builtin.copy_ #[t, t'] o.type #[v, u]).run P w = .ok v' w') (h : wpList P ops Q rest (a.put o.dst v') w') : wpList P ops Q (o :: rest) a w :=
  wpList_plain hgd fun _ hK => wp_copy_runH w d s t t' ho v u hd hs hr (hK _ _ h)
theorem step_copy_runH {ops : Array Oper} {o : Oper} {a : Act} {w : World} {K : Act → World → Prop} {Q : Exit → Act → World → Prop} {E : Prop}
    (hg : o.guard = none) (d x : Operand) (dT sT : TypeId) (hop : o.op = Op.call { callee := Callee.builtin Builtin.copy, args := #[d, x], argTypes := #[dT, sT] })
    (v u : Value) (hd : a.eval d = v) (hx : a.eval x = u) {v' : Value} {w' : World} (hr : (Builtin.copy_ #[dT, sT] o.type #[v, u]).run P w = .ok v' w') (hK : K (a.put o.dst v') w') :
    if Region.wanted o (yielded ops a.tmps) = true then Oper.wp P o a w K Q else E := by
  have hw : Region.wanted o (yielded ops a.tmps) = true := by simp [Region.wanted, hg]
  rw [if_pos hw]
  unfold Oper.wp
  simp [execOp, hop, resolve, invoke, builtin, hd, hx, hr, Result.andThen]
  exact hK
theorem append_types (t t' ty e e' : TypeId) (ht : P.underlying t = some (.slice e)) (ht' : P.underlying t' = some (.slice e')) (s x : Value) (w : World) :
    (Builtin.append_ #[t, t'] ty #[s, x]).run P w = (Builtin.append_ #[t, t] ty #[s, x]).run P w := by
  cases s <;> simp [Builtin.append_, run_underlying ht, run_underlying ht']
theorem run_copy_rowK (w : World) (dT sT ty elem : TypeId) (k g o dLen dCap : Nat) (a : Addr) (sLen sCap : Nat) (cur : Array Value) (t : TypeId) (cs : List Value)
    (hu : P.underlying dT = some (.slice elem)) (hs : (P.info? elem).map (·.size) = some k)
    (hg : w.heap[g]? = some (.cells cur t (0, 0))) (m : Nat) (hm : m = Nat.min sLen dLen) (hn : cs.length = m * k)
    (hsrc : ∀ j v, cs[j]? = some v → w.cell? (a.add j) = some v) (hfit : o + cs.length ≤ cur.size) (h1 : ∀ v ∈ cs, v.oneCell' = true) :
    (Builtin.copy_ #[dT, sT] ty #[.slice (some ⟨g, o, none⟩) dLen dCap, .slice (some a) sLen sCap]).run P w =
      .ok (goInt m) (w.setRow g (cur.toList.take o ++ cs ++ cur.toList.drop (o + cs.length)).toArray) := by
  have hl := run_loadCells_list (P := P) w a cs hsrc
  have hst := run_storeCells_at P g o t cs 0 cur w hg (by simpa using hfit) h1
  cases hq : P.info? elem with
  | none => simp [hq] at hs
  | some i =>
    have hi : i.size = k := by simpa [hq] using hs
    rw [hn] at hl
    simp [Builtin.copy_, run_underlying hu, Builtin.lenOf, Builtin.firstCells, sizeOf, typeInfo, hq, hi, ← hm, hl, hst]
end
theorem heap_setRow (w : World) (g : Nat) (cur cs : Array Value) (t : TypeId) (hg : w.heap[g]? = some (.cells cur t (0, 0))) : (w.setRow g cs).heap[g]? = some (.cells cs t (0, 0)) := by
  simp [World.setRow, Array.getElem?_modify, hg]
theorem grown_setRow (w : World) (g : Nat) (cs : Array Value) : w.grownBy (w.setRow g cs) (some g) := by
  refine ⟨rfl, rfl, rfl, by simp [World.setRow], fun k hk hne => ?_⟩
  have : g ≠ k := fun e => hne (by rw [e])
  simp [World.setRow, Array.getElem?_modify, this]

theorem news_block {w : World} {g : Nat} {cs : Array Value} {t : TypeId} (h : w.heap[g]? = some (.cells cs t (0, 0))) : ∀ j u, cs.toList[j]? = some u → w.cell? ((⟨g, 0, none⟩ : Addr).add j) = some u := fun j u hu => by
  rw [add_plain, blk_cell h j]; simpa using hu
set_option maxHeartbeats 1000000 in
theorem ins_end (base : Nat) (v : Value) (n : Nat) (xs : List Value) (w : World) (hown : w.ownsRow base 47 5 v n xs) (hbase : base ≤ w.heap.size) (vb : Nat) (x : List Value) (hl : x.length = 5) (h1 : ∀ u ∈ x, u.oneCell' = true)
    (hx : w.heap[vb]? = some (.cells x.toArray 47 (0, 0))) (hlim : (n + 1) * 56 ≤ 140737488355328) :
    Calls Tryz.prog 123 #[v, .int .i64 n, .slice (some ⟨vb, 0, none⟩) 1 1] w fun e w' => ∃ v', e = .returned v' ∧ w'.ownsRow base 47 5 v' (n + 1) (xs ++ x) ∧ w.grownBy w' v.ownBlock ∧ (v'.ownBlock = v.ownBlock ∨ ∃ b, v'.ownBlock = some b ∧ w.heap.size ≤ b) := by
  obtain ⟨i0, hi, hz0, hz1, hz2⟩ := info_parts info47
  obtain ⟨v', w', hr, ho, hg, _, hat⟩ := run_append_own_at (P := Tryz.prog) (w := w) base 127 127 47 i0 _ 5 56 Tryz.underlying127 hi hz0 hz1 hz2 (by rfl) (by omega) v n xs hown ⟨vb, 0, none⟩ 1 1 x (by omega)
    (news_block (cs := x.toArray) hx) h1 (by unfold maxLen; omega) hlim hbase
  have HO := Aside0.mk ho
  have HG := Aside0.mk hg
  have HA := Aside0.mk hat
  have hnm : n ≤ 9223372036854775807 := by omega
  clear ho hg hat
  have hr2 : ∀ ty, (Builtin.append_ #[127, 23] ty #[v, .slice (some ⟨vb, 0, none⟩) 1 1]).run Tryz.prog w = .ok v' w' := fun ty => by
    rw [append_types _ _ ty _ _ Tryz.underlying127 Tryz.underlying23]; exact hr
  clear hr
  have hown2 := hown.2
  have hxl : x.length = 5 := hl
  rcases hown2 with ⟨rfl, rfl⟩ | ⟨g, cap, cur, rfl, hg1, hg2, hg3, hg4, hg5, hg6⟩
  · clear hown hbase hx hlim hl h1 hxl hi hz0 hz1 hz2
    go_enter Tryz.func123, Tryz.ntmps123
    go_wp2_with (at_builtin; refine Lib.wpList_append_run _ rfl _ _ _ _ rfl _ _ rfl rfl _ _ (hr2 _) ?_)
    go_ret
    exact ⟨v', rfl, HO.out, HG.out, HA.out.imp id fun h => ⟨_, h, Nat.le_refl _⟩⟩
  · clear hown hbase hx hlim hl h1 hxl hi hz0 hz1 hz2 hg1 hg2 hg5 hg6
    go_enter Tryz.func123, Tryz.ntmps123
    go_wp2_with (at_builtin; refine Lib.wpList_append_run _ rfl _ _ _ _ rfl _ _ rfl rfl _ _ (hr2 _) ?_)
    all_goals (go_ret; exact ⟨v', rfl, HO.out, HG.out, HA.out.imp id fun h => ⟨_, h, Nat.le_refl _⟩⟩)

theorem add_plain' (g o j : Nat) : (⟨g, o, none⟩ : Addr).add j = ⟨g, o + j, none⟩ := by unfold Addr.add; split <;> simp_all
theorem cur_cell {w : World} {g : Nat} {cur : Array Value} {t : TypeId} (h : w.heap[g]? = some (.cells cur t (0, 0))) (j : Nat) (u : Value) (hu : cur.toList[j]? = some u) : w.cell? ⟨g, j, none⟩ = some u := by
  rw [blk_cell h j]; simpa using hu
set_option maxHeartbeats 2000000 in
set_option maxRecDepth 100000 in
theorem ins_shift (base : Nat) (g n cap i : Nat) (cur : Array Value) (xs : List Value) (w : World) (hin : i < n) (hroom : n + 1 ≤ cap) (hcm : cap ≤ maxLen) (hg : w.heap[g]? = some (.cells cur 47 (0, 0))) (hgb : base ≤ g) (hsz : cur.size = cap * 5) (htk : cur.toList.take (n * 5) = xs)
    (hone : ∀ u ∈ xs, u.oneCell' = true) (vb : Nat) (x : List Value) (hl : x.length = 5) (h1 : ∀ u ∈ x, u.oneCell' = true) (hne : vb ≠ g)
    (hx : w.heap[vb]? = some (.cells x.toArray 47 (0, 0))) :
    Calls Tryz.prog 123 #[.slice (some ⟨g, 0, none⟩) n cap, .int .i64 i, .slice (some ⟨vb, 0, none⟩) 1 1] w fun e w' => e = .returned (.slice (some ⟨g, 0, none⟩) (n + 1) cap) ∧
      w'.ownsRow base 47 5 (.slice (some ⟨g, 0, none⟩) (n + 1) cap) (n + 1) (xs.take (i * 5) ++ x ++ xs.drop (i * 5)) ∧ w.grownBy w' (some g) := by
  have hxs : xs.length = n * 5 := by rw [← htk, List.length_take, Array.length_toList, hsz]; omega
  have hcl : cur.toList.length = cap * 5 := by rw [Array.length_toList, hsz]
  unfold maxLen at hcm
  have hz1 : ¬ ((i : Int) = (n : Int)) := by omega
  have hsize : (Tryz.prog.info? 47).map (·.size) = some 5 := by
    obtain ⟨i0, hi, hz0, hz1, hz2⟩ := info_parts info47
    rw [hi]; simp [hz1]
  have hgw := blk_lt hg
  have hvw := blk_lt hx
  -- the two copies
  have hdl : (xs.drop (i * 5)).length = (n - i) * 5 := by rw [List.length_drop, hxs]; omega
  obtain ⟨c1, hc1⟩ : ∃ c1, c1 = (cur.toList.take ((i + 1) * 5) ++ xs.drop (i * 5) ++ cur.toList.drop ((i + 1) * 5 + (xs.drop (i * 5)).length)).toArray := ⟨_, rfl⟩
  have hcp1 : ∀ (W : World), (∀ x, W.heap[x]? = w.heap[x]?) → ∀ ty dc sc, (Builtin.copy_ #[127, 127] ty #[.slice (some ⟨g, (i + 1) * 5, none⟩) (n - i) dc, .slice (some ⟨g, i * 5, none⟩) (n + 1 - i) sc]).run Tryz.prog W = .ok (goInt ((n - i : Nat) : Int)) (W.setRow g c1) := fun W hW ty dc sc => by
    rw [hc1]
    refine run_copy_rowK W _ _ ty 47 5 g ((i + 1) * 5) (n - i) dc ⟨g, i * 5, none⟩ (n + 1 - i) sc cur 47 (xs.drop (i * 5)) Tryz.underlying127 hsize ((hW g).trans hg) (n - i) ?_ hdl ?_ ?_ ?_
    · simp only [Nat.min_def]; split <;> omega
    · intro j u hj
      rw [add_plain']
      refine cur_cell ((hW g).trans hg) _ _ ?_
      rw [List.getElem?_drop] at hj
      rw [← htk, List.getElem?_take] at hj
      split at hj
      · exact hj
      · cases hj
    · rw [hdl, hsz]; omega
    · intro u hu; exact hone u (List.mem_of_mem_drop hu)
  have hc1l : c1.toList = cur.toList.take ((i + 1) * 5) ++ xs.drop (i * 5) ++ cur.toList.drop ((i + 1) * 5 + (xs.drop (i * 5)).length) := by rw [hc1]
  have hc1s : c1.size = cap * 5 := by
    rw [← Array.length_toList, hc1l]
    simp only [List.length_append, List.length_take, List.length_drop, hcl, hdl]
    omega
  obtain ⟨c2, hc2⟩ : ∃ c2, c2 = (c1.toList.take (i * 5) ++ x ++ c1.toList.drop (i * 5 + x.length)).toArray := ⟨_, rfl⟩
  have hcp2 : ∀ (W : World), W.heap[g]? = some (.cells c1 47 (0, 0)) → W.heap[vb]? = some (.cells x.toArray 47 (0, 0)) → ∀ ty dc, (Builtin.copy_ #[127, 23] ty #[.slice (some ⟨g, i * 5, none⟩) (n + 1 - i) dc, .slice (some ⟨vb, 0, none⟩) 1 1]).run Tryz.prog W = .ok (goInt ((1 : Nat) : Int)) (W.setRow g c2) := fun W hW1 hW2 ty dc => by
    rw [hc2]
    refine run_copy_rowK W _ _ ty 47 5 g (i * 5) (n + 1 - i) dc ⟨vb, 0, none⟩ 1 1 c1 47 x Tryz.underlying127 hsize hW1 1 ?_ (by omega) ?_ ?_ h1
    · simp only [Nat.min_def]; split <;> omega
    · exact news_block (cs := x.toArray) hW2
    · rw [hl, hc1s]; omega
  have hfin : c2.toList.take ((n + 1) * 5) = xs.take (i * 5) ++ x ++ xs.drop (i * 5) := by
    have e1 : c1.toList.take (i * 5) = xs.take (i * 5) := by
      rw [hc1l, List.append_assoc, List.take_append_of_le_length (by rw [List.length_take, hcl]; omega), List.take_take, ← htk, List.take_take]
      congr 1; omega
    have e2 : c1.toList.drop (i * 5 + x.length) = xs.drop (i * 5) ++ cur.toList.drop ((i + 1) * 5 + (xs.drop (i * 5)).length) := by
      rw [hc1l, List.append_assoc]
      exact List.drop_left' (by rw [List.length_take, hcl, hl]; omega)
    rw [hc2]
    show List.take _ (_ ++ _ ++ _) = _
    rw [e1, e2, ← List.append_assoc]
    exact List.take_left' (by simp only [List.length_append, List.length_take, hxs, hdl, hl]; omega)
  have hc2s : c2.size = cap * 5 := by
    rw [← Array.length_toList, hc2]
    simp only [List.length_append, List.length_take, List.length_drop, Array.length_toList, hc1s, hl]
    omega
  have hov : ∀ lb cb, (callFunc 134 #[.slice (some ⟨vb, 0, none⟩) 1 1, .slice (some ⟨g, (i + 1) * 5, none⟩) lb cb]).run Tryz.prog w = .ok (.value (.bool false)) w := fun lb cb => by
    rw [run_callFunc_extern Tryz.func134 (by kernel_rfl) (by kernel_rfl) (by kernel_rfl) (e := Extern.SlicesOverlaps.overlaps #[23, 23] #[4]) (by kernel_rfl),
      Lib.run_overlaps_apart w 23 4 47 Tryz.underlying23 5 Tryz.sizeOf47 ⟨vb, 0, none⟩ ⟨g, (i + 1) * 5, none⟩ 1 1 lb cb hne _ _ _ _ (by simp [World.shape?, hx]; exact ⟨rfl, rfl⟩) (by simp [World.shape?, hg]; exact ⟨rfl, rfl⟩) (by omega) (blk_frozen hx 0) (blk_frozen hx _)]
    rfl
  have HR := Aside0.mk (show (w.setRow g c1).heap[g]? = some (.cells c1 47 (0, 0)) ∧ (w.setRow g c1).heap[vb]? = some (.cells x.toArray 47 (0, 0)) from ⟨heap_setRow w g cur c1 _ hg, ((grown_setRow w g c1).block vb hvw (fun e => hne (Option.some.inj e))).trans hx⟩)
  have HF := Aside0.mk (And.intro hfin hc2s)
  have HG := Aside0.mk hg
  have HL := Aside0.mk hl
  have HX := Aside0.mk (And.intro hxs hgb)
  have hb0 : ¬ ((cap : Int) < (n : Int) + 1) := by omega
  have hw1 : IntKind.i64.wrap ((i : Int) + 1) = (i : Int) + 1 := by rw [IntKind.wrap_i64]; omega
  have hb1 : (0 : Int) ≤ (i : Int) + 1 := by omega
  have hle : i ≤ n := by omega
  have htn : ((i : Int) + 1).toNat = i + 1 := by omega
  have hb2 : ¬ (cap = i + 1) := by omega
  have hb3 : (i : Int) ≤ (n : Int) + 1 := by omega
  have hb4 : ¬ (cap = i) := by omega
  clear hfin hc2s hc1s hc1l hc2 hc1 hdl hcl htk hone h1 hx hg hgb hgw hvw hsize hxs hl hsz hne
  go_enter Tryz.func123, Tryz.ntmps123
  go_wp2_with (simp only [hov])
  go_region_law (refine step_copy_runH rfl _ _ 127 127 rfl (.slice (some ⟨g, (i + 1) * 5, none⟩) (n - i) (cap - (i + 1))) (.slice (some ⟨g, i * 5, none⟩) (n + 1 - i) (cap - i)) (by simp [Act.eval, Act.put]) (by simp [Act.eval, Act.put]) (hcp1 w.drew (fun _ => rfl) _ _ _) ?_)
  go_wp2_with (refine wpList_copy_runH _ rfl (.tmp 80) (.tmp 81) 127 23 rfl (.slice (some ⟨g, i * 5, none⟩) (n + 1 - i) (cap - i)) (.slice (some ⟨vb, 0, none⟩) 1 1) rfl rfl (hcp2 (w.drew.setRow g c1) HR.out.1 HR.out.2 _ _) ?_)
  go_ret
  refine ⟨rfl, ⟨?_, .inr ⟨g, cap, c2, rfl, HX.out.2, heap_setRow _ g c1 c2 _ HR.out.1, hroom, by unfold maxLen; omega, HF.out.2, HF.out.1⟩⟩, ?_⟩
  · have e1 := HL.out; have e2 := HX.out.1
    simp only [List.length_append, List.length_take, List.length_drop, e1, e2]
    omega
  · have q := grown_setRow w g c1
    have q2 : w.grownBy (w.drew.setRow g c1) (some g) := ⟨q.os, q.tape, q.output, q.size, q.block⟩
    exact World.grownBy.trans q2 (grown_setRow (w.drew.setRow g c1) g c2)

theorem zeroCells_size (z : Array Value) (n : Nat) : (Builtin.zeroCells z n).size = n * z.size := by simp [Builtin.zeroCells]
set_option maxHeartbeats 4000000 in
set_option maxRecDepth 100000 in
theorem ins_grow (base : Nat) (g n cap i : Nat) (cur : Array Value) (xs : List Value) (w : World) (hbase : base ≤ w.heap.size) (hin : i < n) (hnc : n ≤ cap) (hroom : cap < n + 1) (hlim : (n + 1) * 56 ≤ 140737488355328) (hg : w.heap[g]? = some (.cells cur 47 (0, 0))) (hsz : cur.size = cap * 5) (htk : cur.toList.take (n * 5) = xs)
    (hone : ∀ u ∈ xs, u.oneCell' = true) (vb : Nat) (x : List Value) (hl : x.length = 5) (h1 : ∀ u ∈ x, u.oneCell' = true)
    (hx : w.heap[vb]? = some (.cells x.toArray 47 (0, 0))) :
    Calls Tryz.prog 123 #[.slice (some ⟨g, 0, none⟩) n cap, .int .i64 i, .slice (some ⟨vb, 0, none⟩) 1 1] w fun e w' => ∃ v', e = .returned v' ∧
      w'.ownsRow base 47 5 v' (n + 1) (xs.take (i * 5) ++ x ++ xs.drop (i * 5)) ∧ w.grownBy w' (some g) ∧ v'.ownBlock = some w.heap.size := by
  have hxs : xs.length = n * 5 := by rw [← htk, List.length_take, Array.length_toList, hsz]; omega
  have hcl : cur.toList.length = cap * 5 := by rw [Array.length_toList, hsz]
  have hz0' : ¬ ((i : Int) = (n : Int)) := by omega
  have hz3 : (cap : Int) < (n : Int) + 1 := by omega
  obtain ⟨i0, hi0, hz0, hzs, hzb⟩ := info_parts info47
  have hsize : (Tryz.prog.info? 47).map (·.size) = some 5 := by rw [hi0]; simp [hzs]
  have hgw := blk_lt hg
  have hvw := blk_lt hx
  have hdl : (xs.drop (i * 5)).length = (n - i) * 5 := by rw [List.length_drop, hxs]; omega
  have htl : (xs.take (i * 5)).length = i * 5 := by rw [List.length_take, hxs]; omega
  have hkk : (n : Int) + 1 - (i : Int) = ((n + 1 - i : Nat) : Int) := by omega
  have hik : i + (n + 1 - i) = n + 1 := by omega
  have hcells : ∀ j u, xs[j]? = some u → w.cell? ⟨g, j, none⟩ = some u := fun j u hj => by
    refine cur_cell hg _ _ ?_
    rw [← htk, List.getElem?_take] at hj
    split at hj
    · exact hj
    · cases hj
  have hold : (Builtin.firstCells i0.size i (.slice (some ⟨g, 0, none⟩) i cap)).run Tryz.prog w.drew = .ok (xs.take (i * 5)).toArray w.drew := by
    rw [hzs]
    exact run_firstCells_some w.drew 5 i ⟨g, 0, none⟩ i cap (xs.take (i * 5)) htl (fun j u hj => by
      rw [add_plain]
      rw [List.getElem?_take] at hj
      split at hj
      · exact hcells j u hj
      · cases hj)
  obtain ⟨G, hG⟩ : ∃ G, G = grownCap w (n + 1) cap 47 := ⟨_, rfl⟩
  obtain ⟨zz, hzz⟩ : ∃ zz : Array Value, zz.size = 5 ∧ ∀ ty, (Builtin.append_ #[127, 3] ty #[.slice (some ⟨g, 0, none⟩) i cap, .int .i64 ((n : Int) + 1 - (i : Int))]).run Tryz.prog w =
      .ok (.slice (some ⟨w.heap.size, 0, none⟩) (n + 1) G) (w.drew.alloc (.cells ((xs.take (i * 5)).toArray ++ Builtin.zeroCells zz (n + 1 - i) ++ Builtin.zeroCells zz (G - (n + 1))) 47)) := by
    refine ⟨(Value.agg #[.string ⟨#[]⟩, .string ⟨#[]⟩, .int .i64 0, .int .i64 0, .int .i64 0]).cells, rfl, fun ty => ?_⟩
    have h := Lib.run_append_grow_zeros (P := Tryz.prog) w 127 3 ty 47 i0 _ .i64 .i64 Tryz.underlying127 Tryz.underlying3 hi0 hz0 (some ⟨g, 0, none⟩) i cap (xs.take (i * 5)) hold (n + 1 - i) (by omega) (by omega) (by omega) (by omega) (by rw [hzb]; omega) (by rw [hzb, hik]; exact growslice_fits hroom hlim)
    rw [hik, ← hG] at h
    rw [hkk]
    exact h
  obtain ⟨hzz5, hrz⟩ := hzz
  obtain ⟨ROW, hROW⟩ : ∃ ROW : Array Value, ROW = (xs.take (i * 5)).toArray ++ Builtin.zeroCells zz (n + 1 - i) ++ Builtin.zeroCells zz (G - (n + 1)) := ⟨_, rfl⟩
  rw [← hROW] at hrz
  have hGn : n + 1 ≤ G := by rw [hG]; exact grownCap_ge w _ _ _
  have hG63 : G ≤ 9223372036854775807 := by
    have := grownCap_le_maxLen w (n + 1) cap 47 (by unfold maxLen; omega)
    rw [← hG] at this
    unfold maxLen at this
    omega
  have hRs : ROW.size = G * 5 := by
    rw [hROW]
    simp only [Array.size_append, zeroCells_size, List.size_toArray, htl, hzz5]
    omega
  have hRt : ROW.toList.take (i * 5) = xs.take (i * 5) := by
    rw [hROW]
    simp only [Array.toList_append, List.append_assoc]
    exact List.take_left' htl
  obtain ⟨rA, hrA⟩ : ∃ rA, rA = (ROW.toList.take (i * 5) ++ x ++ ROW.toList.drop (i * 5 + x.length)).toArray := ⟨_, rfl⟩
  have hAs : rA.size = G * 5 := by
    rw [← Array.length_toList, hrA]
    simp only [List.length_append, List.length_take, List.length_drop, Array.length_toList, hRs, hl]
    omega
  obtain ⟨rB, hrB⟩ : ∃ rB, rB = (rA.toList.take ((i + 1) * 5) ++ xs.drop (i * 5) ++ rA.toList.drop ((i + 1) * 5 + (xs.drop (i * 5)).length)).toArray := ⟨_, rfl⟩
  have hBs : rB.size = G * 5 := by
    rw [← Array.length_toList, hrB]
    simp only [List.length_append, List.length_take, List.length_drop, Array.length_toList, hAs, hdl]
    omega
  have hfin : rB.toList.take ((n + 1) * 5) = xs.take (i * 5) ++ x ++ xs.drop (i * 5) := by
    have e1 : rA.toList.take ((i + 1) * 5) = xs.take (i * 5) ++ x := by
      rw [hrA]
      show List.take _ (_ ++ _ ++ _) = _
      rw [hRt]
      exact List.take_left' (by simp only [List.length_append, htl, hl]; omega)
    rw [hrB]
    show List.take _ (_ ++ _ ++ _) = _
    rw [e1]
    exact List.take_left' (by simp only [List.length_append, htl, hdl, hl]; omega)
  have hcpA : ∀ (W : World), W.heap[w.heap.size]? = some (.cells ROW 47 (0, 0)) → W.heap[vb]? = some (.cells x.toArray 47 (0, 0)) → ∀ ty dc, (Builtin.copy_ #[127, 23] ty #[.slice (some ⟨w.heap.size, i * 5, none⟩) (n + 1 - i) dc, .slice (some ⟨vb, 0, none⟩) 1 1]).run Tryz.prog W = .ok (goInt ((1 : Nat) : Int)) (W.setRow w.heap.size rA) := fun W hW1 hW2 ty dc => by
    rw [hrA]
    refine run_copy_rowK W _ _ ty 47 5 w.heap.size (i * 5) (n + 1 - i) dc ⟨vb, 0, none⟩ 1 1 ROW 47 x Tryz.underlying127 hsize hW1 1 ?_ (by omega) ?_ ?_ h1
    · simp only [Nat.min_def]; split <;> omega
    · exact news_block (cs := x.toArray) hW2
    · rw [hl, hRs]; omega
  have hcpB : ∀ (W : World), W.heap[w.heap.size]? = some (.cells rA 47 (0, 0)) → W.heap[g]? = some (.cells cur 47 (0, 0)) → ∀ ty dc sc, (Builtin.copy_ #[127, 127] ty #[.slice (some ⟨w.heap.size, (i + 1) * 5, none⟩) (n - i) dc, .slice (some ⟨g, i * 5, none⟩) (n - i) sc]).run Tryz.prog W = .ok (goInt ((n - i : Nat) : Int)) (W.setRow w.heap.size rB) := fun W hW1 hW2 ty dc sc => by
    rw [hrB]
    refine run_copy_rowK W _ _ ty 47 5 w.heap.size ((i + 1) * 5) (n - i) dc ⟨g, i * 5, none⟩ (n - i) sc rA 47 (xs.drop (i * 5)) Tryz.underlying127 hsize hW1 (n - i) ?_ hdl ?_ ?_ ?_
    · simp only [Nat.min_def]; split <;> omega
    · intro j u hj
      rw [add_plain']
      refine cur_cell hW2 _ _ ?_
      rw [List.getElem?_drop] at hj
      rw [← htk, List.getElem?_take] at hj
      split at hj
      · exact hj
      · cases hj
    · rw [hdl, hAs]; omega
    · intro u hu; exact hone u (List.mem_of_mem_drop hu)
  have HN := fun (o : Obj) => blk_new w o
  have HO1 := fun (o : Obj) => (Below.heap_alloc w o g hgw).trans hg
  have HO2 := fun (o : Obj) => (Below.heap_alloc w o vb hvw).trans hx
  have HF := Aside0.mk (And.intro hfin hBs)
  have HL := Aside0.mk (And.intro hl hxs)
  have HNE := Aside0.mk (And.intro (show g ≠ w.heap.size by omega) (show vb ≠ w.heap.size by omega))
  have hw1 : IntKind.i64.wrap ((i : Int) + 1) = (i : Int) + 1 := by rw [IntKind.wrap_i64]; omega
  have hb1 : (0 : Int) ≤ (i : Int) + 1 := by omega
  have hle : i ≤ n := by omega
  have htn : ((i : Int) + 1).toNat = i + 1 := by omega
  have hb2 : ¬ (G = i) := by omega
  have hb3 : ¬ (G = i + 1) := by omega
  have hb4 : ¬ (cap = i) := by omega
  have hb5 : (i : Int) ≤ (n : Int) := by omega
  have hb6 : (i : Int) ≤ (n : Int) + 1 := by omega
  have HB := Aside0.mk hbase
  clear hkk hik hold hROW hG hRt hrA hrB hAs hBs hfin hl h1 hx hg hdl htl hcl hxs hone htk hsz hcells hzz5 hRs hsize hi0 hz0 hzs hzb
  go_enter Tryz.func123, Tryz.ntmps123
  go_wp2_with (first
    | (at_builtin; refine Lib.wpList_append_run _ rfl _ _ _ _ rfl _ _ rfl rfl _ _ (hrz _) ?_)
    | (refine wpList_copy_runH ((w.alloc (.cells ROW 47)).drew) rfl (.tmp 43) (.tmp 44) 127 23 rfl (.slice (some ⟨w.heap.size, i * 5, none⟩) (n + 1 - i) (G - i)) (.slice (some ⟨vb, 0, none⟩) 1 1) rfl rfl (hcpA ((w.alloc (.cells ROW 47)).drew) (HN _) (HO2 _) _ _) ?_))
  have q1 := heap_setRow ((w.alloc (.cells ROW 47)).drew) w.heap.size ROW rA _ (HN _)
  have q2 := ((grown_setRow ((w.alloc (.cells ROW 47)).drew) w.heap.size rA).block g (Nat.lt_of_lt_of_le hgw (by simp)) (fun e => HNE.out.1 (Option.some.inj e))).trans (HO1 _)
  have Q1 := Aside0.mk q1
  have Q2 := Aside0.mk q2
  clear q1 q2
  go_region_law (refine step_copy_runH rfl _ _ 127 127 rfl (.slice (some ⟨w.heap.size, (i + 1) * 5, none⟩) (n - i) (G - (i + 1))) (.slice (some ⟨g, i * 5, none⟩) (n - i) (cap - i)) (by simp [Act.eval, Act.put]) (by simp [Act.eval, Act.put]) (hcpB (((w.alloc (.cells ROW 47)).drew.setRow w.heap.size rA).drew) Q1.out Q2.out _ _ _) ?_)
  go_wp2
  go_ret
  refine ⟨_, rfl, ⟨?_, .inr ⟨w.heap.size, G, rB, rfl, HB.out, heap_setRow _ w.heap.size rA rB _ Q1.out, hGn, by unfold maxLen; omega, HF.out.2, HF.out.1⟩⟩, ?_, rfl⟩
  · have e1 := HL.out.1; have e2 := HL.out.2
    simp only [List.length_append, List.length_take, List.length_drop, e1, e2]
    omega
  · have p0 : Below w.heap.size w ((w.alloc (.cells ROW 47)).drew) := below_drew (below_alloc (Below.refl _ _) _)
    refine ⟨rfl, rfl, rfl, by simp [World.setRow], fun k hk hne => ?_⟩
    have hk2 : some k ≠ some w.heap.size := fun e => by have := Option.some.inj e; omega
    have hk3 : k < ((w.alloc (.cells ROW 47)).drew).heap.size := Nat.lt_of_lt_of_le hk p0.size
    have s1 := (grown_setRow ((w.alloc (.cells ROW 47)).drew) w.heap.size rA)
    have s2 := (grown_setRow ((((w.alloc (.cells ROW 47)).drew).setRow w.heap.size rA).drew) w.heap.size rB)
    exact (s2.block k (Nat.lt_of_lt_of_le hk3 s1.size) hk2).trans ((s1.block k hk3 hk2).trans (p0.block k hk))

theorem ins_calls (base : Nat) (v : Value) (n i : Nat) (xs : List Value) (w : World) (hown : w.ownsRow base 47 5 v n xs) (hbase : base ≤ w.heap.size) (hin : i ≤ n) (hone : ∀ u ∈ xs, u.oneCell' = true) (vb : Nat) (x : List Value) (hl : x.length = 5) (h1 : ∀ u ∈ x, u.oneCell' = true)
    (hx : w.heap[vb]? = some (.cells x.toArray 47 (0, 0))) (hne : v.ownBlock ≠ some vb) (hlim : (n + 1) * 56 ≤ 140737488355328) :
    Calls Tryz.prog 123 #[v, .int .i64 i, .slice (some ⟨vb, 0, none⟩) 1 1] w fun e w' => ∃ v', e = .returned v' ∧ w'.ownsRow base 47 5 v' (n + 1) (xs.take (i * 5) ++ x ++ xs.drop (i * 5)) ∧ w.grownBy w' v.ownBlock ∧ (v'.ownBlock = v.ownBlock ∨ ∃ b, v'.ownBlock = some b ∧ w.heap.size ≤ b) := by
  rcases Nat.eq_or_lt_of_le hin with rfl | hlt
  · have e1 : xs.take (i * 5) = xs := List.take_of_length_le (by rw [hown.1]; exact Nat.le_refl _)
    have e2 : xs.drop (i * 5) = [] := List.drop_of_length_le (by rw [hown.1]; exact Nat.le_refl _)
    rw [e1, e2, List.append_nil]
    exact ins_end base v i xs w hown hbase vb x hl h1 hx hlim
  · rcases hown.2 with ⟨rfl, rfl⟩ | ⟨g, cap, cur, rfl, hg1, hg2, hg3, hg4, hg5, hg6⟩
    · omega
    · rcases Nat.lt_or_ge cap (n + 1) with hr | hr
      · refine (ins_grow base g n cap i cur xs w hbase hlt hg3 hr hlim hg2 hg5 hg6 hone vb x hl h1 hx).mono ?_
        rintro e w' ⟨v', h, ho, hg, hb⟩
        exact ⟨v', h, ho, hg, .inr ⟨_, hb, Nat.le_refl _⟩⟩
      · refine (ins_shift base g n cap i cur xs w hlt hr hg4 hg2 hg1 hg5 hg6 hone vb x hl h1 (fun e => hne (by rw [e]; rfl)) hx).mono ?_
        rintro e w' ⟨h, ho, hg⟩
        exact ⟨_, h, ho, hg, .inl rfl⟩
end Go.Proofs.YtmcddoolniaehaaGreat.S
end
section
namespace Go.Proofs.YtmcddoolniaehaaGreat.S
open Go.RowKit Go.Proofs.YtmcddoolniaehaaGreatW.PrintWords Go.Proofs.YtmcddoolniaehaaGreatW.PrintLast Go.Proofs.YtmcddoolniaehaaGreatW.PrintMore
attribute [local go_sem] max2_int min2_int max_two min_two max_three min_three max_four min_four   -- for this text's walks alone
set_option linter.unusedVariables false
set_option linter.unusedSimpArgs false

def reg_Newer.f (k : Nat) (a0_0 : ByteArray) (a0_1 : ByteArray) (a0_2 : Int) (a0_3 : Int) (a0_4 : Int) (a1_0 : ByteArray) (a1_1 : ByteArray) (a1_2 : Int) (a1_3 : Int) (a1_4 : Int) : Option (Bool) := (cmp_Compare_int.f a0_2 a1_2).bind fun t143 => ((cmp_Compare_int.f a0_3 a1_3).bind fun t144 => ((cmp_Compare_int.f a0_4 a1_4).bind fun t145 => ((cmp_Compare_string.f a0_1 a1_1).bind fun t146 => ((cmp_Or_int.f k (([t143, t144, t145, t146] : List Int))).bind fun t150 => (some (decide (t150 > 0)))))))
theorem reg_Newer.mono : ∀ a0 a1 a2 a3 a4 a5 a6 a7 a8 a9 k, LeO (reg_Newer.f k a0 a1 a2 a3 a4 a5 a6 a7 a8 a9) (reg_Newer.f (k + 1) a0 a1 a2 a3 a4 a5 a6 a7 a8 a9) := by
 intro a0 a1 a2 a3 a4 a5 a6 a7 a8 a9 k
 unfold reg_Newer.f
 repeat' first
   | (with_reducible exact cmp_Or_int.mono _ _)
   | (with_reducible exact LeO.refl _)
   | (with_reducible exact LeO.none _)
   | (with_reducible refine LeO.ite ?_ ?_)
   | (with_reducible refine LeO.bind ?_ (fun _ => ?_))
   | exact cmp_Or_int.mono _ _
   | exact LeO.none _
   | refine LeO.ite ?_ ?_
   | refine LeO.bind ?_ (fun _ => ?_)
def reg_Newer.T1 : Bool × List (List Nat × List Nat) := (true, [([], []), ([0], [0]), ([], []), ([2], [2]), ([1, 3], [1, 3]), ([], []), ([5], [5]), ([6], [6]), ([], []), ([8], [8]), ([9], [9]), ([7, 10, 4], [7, 10]), ([], []), ([12], [12]), ([13], [13]), ([], []), ([15], [15]), ([16], [16]), ([14, 17, 11], [14, 17]), ([], []), ([19], [19]), ([], []), ([21], [21]), ([20, 22, 18], [20, 22]), ([4, 11, 18, 23], [4, 11, 18, 23]), ([24, 23], [24]), ([25], [25]), ([26, 25, 0, 1, 2, 3, 4, 5, 6, 7, 8, 9, 10, 11, 12, 13, 14, 15, 16, 17, 18, 19, 20, 21, 22, 23, 24, 25, 26], [26])])
def reg_Newer.B1 : List Nat := [0, 1, 0, 4, 15, 0, 32, 96, 0, 256, 768, 2047, 0, 4096, 12288, 0, 32768, 98304, 262143, 0, 524288, 0, 2097152, 8388607, 16777215, 33554431, 67108863, 134217727]
theorem reg_Newer.tab1 : rtab .any (opsOf Tryz.f124 1) = reg_Newer.T1 := by kernel_rfl
theorem reg_Newer.bits1 : waitsOk reg_Newer.T1.2 reg_Newer.B1 = true := by kernel_rfl
set_option maxHeartbeats 8000000 in
set_option maxRecDepth 100000 in
theorem reg_Newer.calls (k : Nat) (a0_0 : ByteArray) (a0_1 : ByteArray) (a0_2 : Int) (a0_3 : Int) (a0_4 : Int) (a1_0 : ByteArray) (a1_1 : ByteArray) (a1_2 : Int) (a1_3 : Int) (a1_4 : Int) (r : Bool) (w : World) (h : reg_Newer.f k a0_0 a0_1 a0_2 a0_3 a0_4 a1_0 a1_1 a1_2 a1_3 a1_4 = some r) :
  Calls Tryz.prog 124 #[.agg #[.string a0_0, .string a0_1, .int .i64 a0_2, .int .i64 a0_3, .int .i64 a0_4], .agg #[.string a1_0, .string a1_1, .int .i64 a1_2, .int .i64 a1_3, .int .i64 a1_4]] w fun e w' => e = .returned (.bool r) ∧ Below w.heap.size w w' := by
 have hu47 := Tryz.underlying47
 have HB := Aside0.mk (Below.refl w.heap.size w)
 have H : ((cmp_Compare_int.f a0_2 a1_2).bind fun t143 => ((cmp_Compare_int.f a0_3 a1_3).bind fun t144 => ((cmp_Compare_int.f a0_4 a1_4).bind fun t145 => ((cmp_Compare_string.f a0_1 a1_1).bind fun t146 => ((cmp_Or_int.f k (([t143, t144, t145, t146] : List Int))).bind fun t150 => (some (decide (t150 > 0)))))))) = some r := h
 clear h
 replace H := Option.bind_eq_some_iff.mp H
 obtain ⟨t143, A30, H⟩ := H
 replace H : ((cmp_Compare_int.f a0_3 a1_3).bind fun t144 => ((cmp_Compare_int.f a0_4 a1_4).bind fun t145 => ((cmp_Compare_string.f a0_1 a1_1).bind fun t146 => ((cmp_Or_int.f k (([t143, t144, t145, t146] : List Int))).bind fun t150 => (some (decide (t150 > 0))))))) = some r := H
 have A3 := Aside0.mk A30
 clear A30
 replace H := Option.bind_eq_some_iff.mp H
 obtain ⟨t144, A40, H⟩ := H
 replace H : ((cmp_Compare_int.f a0_4 a1_4).bind fun t145 => ((cmp_Compare_string.f a0_1 a1_1).bind fun t146 => ((cmp_Or_int.f k (([t143, t144, t145, t146] : List Int))).bind fun t150 => (some (decide (t150 > 0)))))) = some r := H
 have A4 := Aside0.mk A40
 clear A40
 replace H := Option.bind_eq_some_iff.mp H
 obtain ⟨t145, A50, H⟩ := H
 replace H : ((cmp_Compare_string.f a0_1 a1_1).bind fun t146 => ((cmp_Or_int.f k (([t143, t144, t145, t146] : List Int))).bind fun t150 => (some (decide (t150 > 0))))) = some r := H
 have A5 := Aside0.mk A50
 clear A50
 replace H := Option.bind_eq_some_iff.mp H
 obtain ⟨t146, A60, H⟩ := H
 replace H : ((cmp_Or_int.f k (([t143, t144, t145, t146] : List Int))).bind fun t150 => (some (decide (t150 > 0)))) = some r := H
 have A6 := Aside0.mk A60
 clear A60
 obtain ⟨y147, hy147⟩ : ∃ y_ : List Int, y_ = (([t143, t144, t145, t146] : List Int)) := ⟨_, rfl⟩
 replace H : ((cmp_Or_int.f k y147).bind fun t150 => (some (decide (t150 > 0)))) = some r := by first | (rw [hy147]; with_reducible exact H) | (have H2_ := (Option.bind_some _ _).symm.trans H; rw [hy147]; with_reducible exact H2_) | (have H2_ := (Option.bind_some _ _).symm.trans H; with_reducible exact H2_) | with_reducible exact H | (rw [hy147]; exact H) | exact H
 have Ny147 := Aside0.mk hy147
 clear hy147
 replace H := Option.bind_eq_some_iff.mp H
 obtain ⟨t150, A70, H⟩ := H
 replace H : (some (decide (t150 > 0))) = some r := H
 have A7 := Aside0.mk A70
 clear A70
 obtain rfl := Option.some.inj H
 go_enter Tryz.func124, Tryz.ntmps124
 try go_wp2_with (first | ((with_reducible refine gate_dst (N := 2) rfl ?_); refine box_event ?hg (N := 2) ?hd (cs := #[.string a0_0, .string a0_1, .int .i64 a0_2, .int .i64 a0_3, .int .i64 a0_4]) (t := 47) ?hr ?_; (case hd => rfl); (case hg => rfl); (case hr => first | (go_simp; done) | (go_simp; rfl)); intro gb141 hg w8 hbox hb; have n0_ := Aside0.mk (below_step (by repeat (first | (with_reducible first | exact HB.out | apply below_alloc | apply pw_below_drewN | apply below_drew1) | exact HB.out)) hb); have n1_ := Aside0.mk (hbox); have n2_ := Aside0.mk ((by rw [hg]; exact (below_size (by repeat (first | (with_reducible first | exact HB.out | apply below_alloc | apply pw_below_drewN | apply below_drew1) | exact HB.out))) : w.heap.size ≤ gb141)); have n3_ := Aside0.mk ((by rw [hg]; exact (below_size (by repeat (first | (with_reducible first | exact HB.out | apply below_alloc | apply pw_below_drewN | apply below_drew1) | exact HB.out))) : w.heap.size ≤ gb141)); clear HB; have HB := n0_; have BK141 := n1_; have GW141 := n2_; have GE141 := n3_; clear n0_ n1_ n2_ n3_; clear hb hbox hg) | ((with_reducible refine gate_dst (N := 3) rfl ?_); refine box_event ?hg (N := 3) ?hd (cs := #[.string a1_0, .string a1_1, .int .i64 a1_2, .int .i64 a1_3, .int .i64 a1_4]) (t := 47) ?hr ?_; (case hd => rfl); (case hg => rfl); (case hr => first | (go_simp; done) | (go_simp; rfl)); intro gb142 hg w9 hbox hb; have n0_ := Aside0.mk (blk_below (g := gb141) (o := .cells #[.string a0_0, .string a0_1, .int .i64 a0_2, .int .i64 a0_3, .int .i64 a0_4] 47 (0, 0)) (by (with_reducible repeat (first | apply blN | apply blD | apply blA)); exact BK141.out) hb); have n1_ := Aside0.mk (below_step (by repeat (first | (with_reducible first | exact HB.out | apply below_alloc | apply pw_below_drewN | apply below_drew1 | refine below_set ?_ GE141.out) | exact HB.out)) hb); have n2_ := Aside0.mk (hbox); have n3_ := Aside0.mk ((by rw [hg]; exact (below_size (by repeat (first | (with_reducible first | exact HB.out | apply below_alloc | apply pw_below_drewN | apply below_drew1 | refine below_set ?_ GE141.out) | exact HB.out))) : w.heap.size ≤ gb142)); have n4_ := Aside0.mk ((by rw [hg]; exact (below_size (by repeat (first | (with_reducible first | exact HB.out | apply below_alloc | apply pw_below_drewN | apply below_drew1 | refine below_set ?_ GE141.out) | exact HB.out))) : w.heap.size ≤ gb142)); have n5_ := Aside0.mk ((by rw [hg]; exact Nat.ne_of_lt (blk_lt (g := gb141) (o := .cells #[.string a0_0, .string a0_1, .int .i64 a0_2, .int .i64 a0_3, .int .i64 a0_4] 47 (0, 0)) (by (with_reducible repeat (first | apply blN | apply blD | apply blA)); exact BK141.out)) : gb141 ≠ gb142)); have n6_ := Aside0.mk ((by rw [hg]; exact Nat.ne_of_gt (blk_lt (g := gb141) (o := .cells #[.string a0_0, .string a0_1, .int .i64 a0_2, .int .i64 a0_3, .int .i64 a0_4] 47 (0, 0)) (by (with_reducible repeat (first | apply blN | apply blD | apply blA)); exact BK141.out)) : gb142 ≠ gb141)); clear BK141; clear HB; have BK141 := n0_; have HB := n1_; have BK142 := n2_; have GW142 := n3_; have GE142 := n4_; have NB141_142 := n5_; have NB142_141 := n6_; clear n0_ n1_ n2_ n3_ n4_ n5_ n6_; clear hb hbox hg))
 have n0_ := Aside0.mk (blk_drew BK141.out)
 have n1_ := Aside0.mk (blk_drew BK142.out)
 have n2_ := Aside0.mk (below_drew1 HB.out)
 clear BK141
 clear BK142
 clear HB
 have BK141 := n0_
 have BK142 := n1_
 have HB := n2_
 clear n0_ n1_ n2_
 refine start_ (n := 28) (S := fun w' => w'.cell? ⟨gb141, 0, none⟩ = some (.string a0_0) ∧ w'.cell? ⟨gb141, 1, none⟩ = some (.string a0_1) ∧ w'.cell? ⟨gb141, 2, none⟩ = some (.int .i64 a0_2) ∧ w'.cell? ⟨gb141, 3, none⟩ = some (.int .i64 a0_3) ∧ w'.cell? ⟨gb141, 4, none⟩ = some (.int .i64 a0_4) ∧ w'.cell? ⟨gb142, 0, none⟩ = some (.string a1_0) ∧ w'.cell? ⟨gb142, 1, none⟩ = some (.string a1_1) ∧ w'.cell? ⟨gb142, 2, none⟩ = some (.int .i64 a1_2) ∧ w'.cell? ⟨gb142, 3, none⟩ = some (.int .i64 a1_3) ∧ w'.cell? ⟨gb142, 4, none⟩ = some (.int .i64 a1_4)) (ds := []) #[O,O,O,O,O,O,O,O,O,O,O,O,O,O,O,O,O,O,O,O,O,O,O,O,O,O,O,O] (by kernel_rfl) rfl rfl ⟨(blk_cell BK141.out 0).trans rfl, (blk_cell BK141.out 1).trans rfl, (blk_cell BK141.out 2).trans rfl, (blk_cell BK141.out 3).trans rfl, (blk_cell BK141.out 4).trans rfl, (blk_cell BK142.out 0).trans rfl, (blk_cell BK142.out 1).trans rfl, (blk_cell BK142.out 2).trans rfl, (blk_cell BK142.out 3).trans rfl, (blk_cell BK142.out 4).trans rfl⟩ (fun hHeld => ?_); refine with_tabW reg_Newer.tab1 reg_Newer.bits1 (fun HT_ HW_ => ?_)
 generalize w9.drew = w10 at BK141 BK142 HB hHeld ⊢
 refine sqP (i := 0) (N := some 5) (v := ?_) (a' := ?_) #[I,O,O,O,O,O,O,O,O,O,O,O,O,O,O,O,O,O,O,O,O,O,O,O,O,O,O,O] rfl rfl HT_.out (Or.inl ⟨by rfl, ?_⟩) ?_ ?_
 rotate_left
 ·intro w'
  go_simp
  with_reducible rfl
 rotate_left
 ·simp only [Act.put, sqA, sqB, sqC, i64_w, i32_w]
  rfl
 refine sqP (i := 2) (N := some 7) (v := ?_) (a' := ?_) #[I,O,I,O,O,O,O,O,O,O,O,O,O,O,O,O,O,O,O,O,O,O,O,O,O,O,O,O] rfl rfl HT_.out (Or.inl ⟨by rfl, ?_⟩) ?_ ?_
 rotate_left
 ·intro w'
  go_simp
  with_reducible rfl
 rotate_left
 ·simp only [Act.put, sqA, sqB, sqC, i64_w, i32_w]
  rfl
 refine sqP (i := 5) (N := some 10) (v := ?_) (a' := ?_) #[I,O,I,O,O,I,O,O,O,O,O,O,O,O,O,O,O,O,O,O,O,O,O,O,O,O,O,O] rfl rfl HT_.out (Or.inl ⟨by rfl, ?_⟩) ?_ ?_
 rotate_left
 ·intro w'
  go_simp
  with_reducible rfl
 rotate_left
 ·simp only [Act.put, sqA, sqB, sqC, i64_w, i32_w]
  rfl
 refine sqP (i := 6) (N := some 11) (v := ?_) (a' := ?_) #[I,O,I,O,O,I,I,O,O,O,O,O,O,O,O,O,O,O,O,O,O,O,O,O,O,O,O,O] rfl rfl HT_.out (Or.inl ⟨by rfl, ?_⟩) ?_ ?_
 rotate_left
 ·intro w'
  go_simp
  with_reducible rfl
 rotate_left
 ·simp only [Act.put, sqA, sqB, sqC, i64_w, i32_w]
  rfl
 refine sqP (i := 8) (N := some 13) (v := ?_) (a' := ?_) #[I,O,I,O,O,I,I,O,I,O,O,O,O,O,O,O,O,O,O,O,O,O,O,O,O,O,O,O] rfl rfl HT_.out (Or.inl ⟨by rfl, ?_⟩) ?_ ?_
 rotate_left
 ·intro w'
  go_simp
  with_reducible rfl
 rotate_left
 ·simp only [Act.put, sqA, sqB, sqC, i64_w, i32_w]
  rfl
 refine sqP (i := 9) (N := some 14) (v := ?_) (a' := ?_) #[I,O,I,O,O,I,I,O,I,I,O,O,O,O,O,O,O,O,O,O,O,O,O,O,O,O,O,O] rfl rfl HT_.out (Or.inl ⟨by rfl, ?_⟩) ?_ ?_
 rotate_left
 ·intro w'
  go_simp
  with_reducible rfl
 rotate_left
 ·simp only [Act.put, sqA, sqB, sqC, i64_w, i32_w]
  rfl
 refine sqP (i := 12) (N := some 17) (v := ?_) (a' := ?_) #[I,O,I,O,O,I,I,O,I,I,O,O,I,O,O,O,O,O,O,O,O,O,O,O,O,O,O,O] rfl rfl HT_.out (Or.inl ⟨by rfl, ?_⟩) ?_ ?_
 rotate_left
 ·intro w'
  go_simp
  with_reducible rfl
 rotate_left
 ·simp only [Act.put, sqA, sqB, sqC, i64_w, i32_w]
  rfl
 refine sqP (i := 13) (N := some 18) (v := ?_) (a' := ?_) #[I,O,I,O,O,I,I,O,I,I,O,O,I,I,O,O,O,O,O,O,O,O,O,O,O,O,O,O] rfl rfl HT_.out (Or.inl ⟨by rfl, ?_⟩) ?_ ?_
 rotate_left
 ·intro w'
  go_simp
  with_reducible rfl
 rotate_left
 ·simp only [Act.put, sqA, sqB, sqC, i64_w, i32_w]
  rfl
 refine sqP (i := 15) (N := some 20) (v := ?_) (a' := ?_) #[I,O,I,O,O,I,I,O,I,I,O,O,I,I,O,I,O,O,O,O,O,O,O,O,O,O,O,O] rfl rfl HT_.out (Or.inl ⟨by rfl, ?_⟩) ?_ ?_
 rotate_left
 ·intro w'
  go_simp
  with_reducible rfl
 rotate_left
 ·simp only [Act.put, sqA, sqB, sqC, i64_w, i32_w]
  rfl
 refine sqP (i := 16) (N := some 21) (v := ?_) (a' := ?_) #[I,O,I,O,O,I,I,O,I,I,O,O,I,I,O,I,I,O,O,O,O,O,O,O,O,O,O,O] rfl rfl HT_.out (Or.inl ⟨by rfl, ?_⟩) ?_ ?_
 rotate_left
 ·intro w'
  go_simp
  with_reducible rfl
 rotate_left
 ·simp only [Act.put, sqA, sqB, sqC, i64_w, i32_w]
  rfl
 refine sqP (i := 19) (N := some 24) (v := ?_) (a' := ?_) #[I,O,I,O,O,I,I,O,I,I,O,O,I,I,O,I,I,O,O,I,O,O,O,O,O,O,O,O] rfl rfl HT_.out (Or.inl ⟨by rfl, ?_⟩) ?_ ?_
 rotate_left
 ·intro w'
  go_simp
  with_reducible rfl
 rotate_left
 ·simp only [Act.put, sqA, sqB, sqC, i64_w, i32_w]
  rfl
 refine sqP (i := 21) (N := some 26) (v := ?_) (a' := ?_) #[I,O,I,O,O,I,I,O,I,I,O,O,I,I,O,I,I,O,O,I,O,I,O,O,O,O,O,O] rfl rfl HT_.out (Or.inl ⟨by rfl, ?_⟩) ?_ ?_
 rotate_left
 ·intro w'
  go_simp
  with_reducible rfl
 rotate_left
 ·simp only [Act.put, sqA, sqB, sqC, i64_w, i32_w]
  rfl
 refine take_ (i := 1) (N := some 6) (v := ?_) (a' := ?_) #[I,I,I,O,O,I,I,O,I,I,O,O,I,I,O,I,I,O,O,I,O,I,O,O,O,O,O,O] rfl rfl (take_ofW HT_.out HW_.out (by kernel_rfl)) (fun _ _ _ h => h) (Or.inl ⟨by rfl, ?_⟩) hHeld ?_ ?_
 rotate_left
 ·rintro w' ⟨s0, s1, s2, s3, s4, s5, s6, s7, s8, s9⟩
  go_simp
  with_reducible rfl
 rotate_left
 ·simp only [Act.put, sqA, sqB, sqC, i64_w, i32_w]
  rfl
 refine take_ (i := 3) (N := some 8) (v := ?_) (a' := ?_) #[I,I,I,I,O,I,I,O,I,I,O,O,I,I,O,I,I,O,O,I,O,I,O,O,O,O,O,O] rfl rfl (take_ofW HT_.out HW_.out (by kernel_rfl)) (fun _ _ _ h => h) (Or.inl ⟨by rfl, ?_⟩) hHeld ?_ ?_
 rotate_left
 ·rintro w' ⟨s0, s1, s2, s3, s4, s5, s6, s7, s8, s9⟩
  go_simp
  with_reducible rfl
 rotate_left
 ·simp only [Act.put, sqA, sqB, sqC, i64_w, i32_w]
  rfl
 refine take_ (i := 7) (N := some 12) (v := ?_) (a' := ?_) #[I,I,I,I,O,I,I,I,I,I,O,O,I,I,O,I,I,O,O,I,O,I,O,O,O,O,O,O] rfl rfl (take_ofW HT_.out HW_.out (by kernel_rfl)) (fun _ _ _ h => h) (Or.inl ⟨by rfl, ?_⟩) hHeld ?_ ?_
 rotate_left
 ·rintro w' ⟨s0, s1, s2, s3, s4, s5, s6, s7, s8, s9⟩
  go_simp
  with_reducible rfl
 rotate_left
 ·simp only [Act.put, sqA, sqB, sqC, i64_w, i32_w]
  rfl
 refine take_ (i := 10) (N := some 15) (v := ?_) (a' := ?_) #[I,I,I,I,O,I,I,I,I,I,I,O,I,I,O,I,I,O,O,I,O,I,O,O,O,O,O,O] rfl rfl (take_ofW HT_.out HW_.out (by kernel_rfl)) (fun _ _ _ h => h) (Or.inl ⟨by rfl, ?_⟩) hHeld ?_ ?_
 rotate_left
 ·rintro w' ⟨s0, s1, s2, s3, s4, s5, s6, s7, s8, s9⟩
  go_simp
  with_reducible rfl
 rotate_left
 ·simp only [Act.put, sqA, sqB, sqC, i64_w, i32_w]
  rfl
 refine take_ (i := 14) (N := some 19) (v := ?_) (a' := ?_) #[I,I,I,I,O,I,I,I,I,I,I,O,I,I,I,I,I,O,O,I,O,I,O,O,O,O,O,O] rfl rfl (take_ofW HT_.out HW_.out (by kernel_rfl)) (fun _ _ _ h => h) (Or.inl ⟨by rfl, ?_⟩) hHeld ?_ ?_
 rotate_left
 ·rintro w' ⟨s0, s1, s2, s3, s4, s5, s6, s7, s8, s9⟩
  go_simp
  with_reducible rfl
 rotate_left
 ·simp only [Act.put, sqA, sqB, sqC, i64_w, i32_w]
  rfl
 refine take_ (i := 17) (N := some 22) (v := ?_) (a' := ?_) #[I,I,I,I,O,I,I,I,I,I,I,O,I,I,I,I,I,I,O,I,O,I,O,O,O,O,O,O] rfl rfl (take_ofW HT_.out HW_.out (by kernel_rfl)) (fun _ _ _ h => h) (Or.inl ⟨by rfl, ?_⟩) hHeld ?_ ?_
 rotate_left
 ·rintro w' ⟨s0, s1, s2, s3, s4, s5, s6, s7, s8, s9⟩
  go_simp
  with_reducible rfl
 rotate_left
 ·simp only [Act.put, sqA, sqB, sqC, i64_w, i32_w]
  rfl
 refine take_ (i := 20) (N := some 25) (v := ?_) (a' := ?_) #[I,I,I,I,O,I,I,I,I,I,I,O,I,I,I,I,I,I,O,I,I,I,O,O,O,O,O,O] rfl rfl (take_ofW HT_.out HW_.out (by kernel_rfl)) (fun _ _ _ h => h) (Or.inl ⟨by rfl, ?_⟩) hHeld ?_ ?_
 rotate_left
 ·rintro w' ⟨s0, s1, s2, s3, s4, s5, s6, s7, s8, s9⟩
  go_simp
  with_reducible rfl
 rotate_left
 ·simp only [Act.put, sqA, sqB, sqC, i64_w, i32_w]
  rfl
 refine take_ (i := 22) (N := some 27) (v := ?_) (a' := ?_) #[I,I,I,I,O,I,I,I,I,I,I,O,I,I,I,I,I,I,O,I,I,I,I,O,O,O,O,O] rfl rfl (take_ofW HT_.out HW_.out (by kernel_rfl)) (fun _ _ _ h => h) (Or.inl ⟨by rfl, ?_⟩) hHeld ?_ ?_
 rotate_left
 ·rintro w' ⟨s0, s1, s2, s3, s4, s5, s6, s7, s8, s9⟩
  go_simp
  with_reducible rfl
 rotate_left
 ·simp only [Act.put, sqA, sqB, sqC, i64_w, i32_w]
  rfl
 refine one_ (i := 4) (N := some 9) #[I,I,I,I,I,I,I,I,I,I,I,O,I,I,I,I,I,I,O,I,I,I,I,O,O,O,O,O] rfl rfl (one_of HT_.out (by kernel_rfl)) (by decide) (fun K hK => ?_)
 refine goes_ Tryz.func129 (by kernel_rfl) rfl #[.int .i64 a0_2, .int .i64 a1_2] (by rfl) rfl rfl (by (try simp only [List.map_toArray, List.map_cons, List.map_nil]); first | done | rfl | (simp only [List.length_drop, List.length_take]; rfl)) ?_
 with_reducible refine (cmp_Compare_int.calls a0_2 a1_2 t143 _ A3.out).mono ?_
 rintro e w' ⟨rfl, ⟨nd, rfl⟩⟩
 refine ⟨_, rfl, ?_⟩
 refine hK.out _ _ ⟨(blk_cell BK141.out 0).trans rfl, (blk_cell BK141.out 1).trans rfl, (blk_cell BK141.out 2).trans rfl, (blk_cell BK141.out 3).trans rfl, (blk_cell BK141.out 4).trans rfl, (blk_cell BK142.out 0).trans rfl, (blk_cell BK142.out 1).trans rfl, (blk_cell BK142.out 2).trans rfl, (blk_cell BK142.out 3).trans rfl, (blk_cell BK142.out 4).trans rfl⟩ (fun hHeld => ?_)
 clear hK K
 refine norm_ (a' := ?_) ?_ ?_
 rotate_left
 ·show Act.put _ (some 9) _ = _
  simp only [Act.put, sqA, sqB, sqC, i64_w, i32_w]
  rfl
 refine one_ (i := 11) (N := some 16) #[I,I,I,I,I,I,I,I,I,I,I,I,I,I,I,I,I,I,O,I,I,I,I,O,O,O,O,O] rfl rfl (one_of HT_.out (by kernel_rfl)) (by decide) (fun K hK => ?_)
 refine goes_ Tryz.func129 (by kernel_rfl) rfl #[.int .i64 a0_3, .int .i64 a1_3] (by rfl) rfl rfl (by (try simp only [List.map_toArray, List.map_cons, List.map_nil]); first | done | rfl | (simp only [List.length_drop, List.length_take]; rfl)) ?_
 with_reducible refine (cmp_Compare_int.calls a0_3 a1_3 t144 _ A4.out).mono ?_
 rintro e w' ⟨rfl, ⟨nd, rfl⟩⟩
 refine ⟨_, rfl, ?_⟩
 refine hK.out _ _ ⟨(blk_cell BK141.out 0).trans rfl, (blk_cell BK141.out 1).trans rfl, (blk_cell BK141.out 2).trans rfl, (blk_cell BK141.out 3).trans rfl, (blk_cell BK141.out 4).trans rfl, (blk_cell BK142.out 0).trans rfl, (blk_cell BK142.out 1).trans rfl, (blk_cell BK142.out 2).trans rfl, (blk_cell BK142.out 3).trans rfl, (blk_cell BK142.out 4).trans rfl⟩ (fun hHeld => ?_)
 clear hK K
 refine norm_ (a' := ?_) ?_ ?_
 rotate_left
 ·show Act.put _ (some 16) _ = _
  simp only [Act.put, sqA, sqB, sqC, i64_w, i32_w]
  rfl
 refine one_ (i := 18) (N := some 23) #[I,I,I,I,I,I,I,I,I,I,I,I,I,I,I,I,I,I,I,I,I,I,I,O,O,O,O,O] rfl rfl (one_of HT_.out (by kernel_rfl)) (by decide) (fun K hK => ?_)
 refine goes_ Tryz.func129 (by kernel_rfl) rfl #[.int .i64 a0_4, .int .i64 a1_4] (by rfl) rfl rfl (by (try simp only [List.map_toArray, List.map_cons, List.map_nil]); first | done | rfl | (simp only [List.length_drop, List.length_take]; rfl)) ?_
 with_reducible refine (cmp_Compare_int.calls a0_4 a1_4 t145 _ A5.out).mono ?_
 rintro e w' ⟨rfl, ⟨nd, rfl⟩⟩
 refine ⟨_, rfl, ?_⟩
 refine hK.out _ _ ⟨(blk_cell BK141.out 0).trans rfl, (blk_cell BK141.out 1).trans rfl, (blk_cell BK141.out 2).trans rfl, (blk_cell BK141.out 3).trans rfl, (blk_cell BK141.out 4).trans rfl, (blk_cell BK142.out 0).trans rfl, (blk_cell BK142.out 1).trans rfl, (blk_cell BK142.out 2).trans rfl, (blk_cell BK142.out 3).trans rfl, (blk_cell BK142.out 4).trans rfl⟩ (fun hHeld => ?_)
 clear hK K
 refine norm_ (a' := ?_) ?_ ?_
 rotate_left
 ·show Act.put _ (some 23) _ = _
  simp only [Act.put, sqA, sqB, sqC, i64_w, i32_w]
  rfl
 refine one_ (i := 23) (N := some 28) #[I,I,I,I,I,I,I,I,I,I,I,I,I,I,I,I,I,I,I,I,I,I,I,I,O,O,O,O] rfl rfl (one_of HT_.out (by kernel_rfl)) (by decide) (fun K hK => ?_)
 refine goes_ Tryz.func128 (by kernel_rfl) rfl #[.string a0_1, .string a1_1] (by rfl) rfl rfl (by (try simp only [List.map_toArray, List.map_cons, List.map_nil]); first | done | rfl | (simp only [List.length_drop, List.length_take]; rfl)) ?_
 with_reducible refine (cmp_Compare_string.calls a0_1 a1_1 t146 _ A6.out).mono ?_
 rintro e w' ⟨rfl, ⟨nd, rfl⟩⟩
 refine ⟨_, rfl, ?_⟩
 refine hK.out _ _ ⟨(blk_cell BK141.out 0).trans rfl, (blk_cell BK141.out 1).trans rfl, (blk_cell BK141.out 2).trans rfl, (blk_cell BK141.out 3).trans rfl, (blk_cell BK141.out 4).trans rfl, (blk_cell BK142.out 0).trans rfl, (blk_cell BK142.out 1).trans rfl, (blk_cell BK142.out 2).trans rfl, (blk_cell BK142.out 3).trans rfl, (blk_cell BK142.out 4).trans rfl⟩ (fun hHeld => ?_)
 clear hK K
 refine norm_ (a' := ?_) ?_ ?_
 rotate_left
 ·show Act.put _ (some 28) _ = _
  simp only [Act.put, sqA, sqB, sqC, i64_w, i32_w]
  rfl
 refine one_ (i := 24) (N := some 29) #[I,I,I,I,I,I,I,I,I,I,I,I,I,I,I,I,I,I,I,I,I,I,I,I,I,O,O,O] rfl rfl (one_of HT_.out (by kernel_rfl)) (by decide) (fun K hK => ?_)
 refine Kd.R_lit_step (Kd.int .i64) _ 3 ?hg (N := 29) ?hd (xs := ([t143, t144, t145, t146] : List Int)) (inner := [.int .i64 t143, .int .i64 t144, .int .i64 t145, .int .i64 t146]) (ok := fun _ => True) (okp := fun _ => True) ?hr ?hp (fun _ hk => hk) trivial (Below.refl _ _) (Nat.le_refl _) (by simp) ?_; (case hd => rfl); (case hg => rfl); (case hr => first | (go_simp; done) | (go_simp; rfl)); (case hp => exact (Reps.one (show Kd.M (Kd.int .i64) _ _ _ t143 [.int .i64 t143] from rfl) (Reps.one (show Kd.M (Kd.int .i64) _ _ _ t144 [.int .i64 t144] from rfl) (Reps.one (show Kd.M (Kd.int .i64) _ _ _ t145 [.int .i64 t145] from rfl) (Reps.one (show Kd.M (Kd.int .i64) _ _ _ t146 [.int .i64 t146] from rfl) (Reps.none _ _))))))
 intro v148 w11 ho12 hb hg_ hnew_
 clear hg_ hnew_
 (first | rw [← Ny147.out] at ho12 | (simp only [Int.reduceToNat] at ho12; rw [← Ny147.out] at ho12))
 have n0_ := Aside0.mk (Kd.R_lower ho12 (below_size (by repeat (first | (with_reducible first | exact HB.out | apply below_alloc | apply pw_below_drewN | apply below_drew1 | refine below_set ?_ GE141.out | refine below_set ?_ GE142.out) | exact HB.out))))
 have n1_ := Aside0.mk (blk_below (g := gb141) (o := .cells #[.string a0_0, .string a0_1, .int .i64 a0_2, .int .i64 a0_3, .int .i64 a0_4] 47 (0, 0)) (by (with_reducible repeat (first | apply blN | apply blD | apply blA)); exact BK141.out) hb)
 have n2_ := Aside0.mk (blk_below (g := gb142) (o := .cells #[.string a1_0, .string a1_1, .int .i64 a1_2, .int .i64 a1_3, .int .i64 a1_4] 47 (0, 0)) (by (with_reducible repeat (first | apply blN | apply blD | apply blA)); exact BK142.out) hb)
 have n3_ := Aside0.mk (below_step (by repeat (first | (with_reducible first | exact HB.out | apply below_alloc | apply pw_below_drewN | apply below_drew1 | refine below_set ?_ GE141.out | refine below_set ?_ GE142.out) | exact HB.out)) hb)
 clear BK141
 clear BK142
 clear HB
 have HO149 := n0_
 have BK141 := n1_
 have BK142 := n2_
 have HB := n3_
 clear n0_ n1_ n2_ n3_
 clear hb ho12
 obtain ⟨Ao13, co13, eo13⟩ := Kd.R_slice HO149.out
 (first | subst eo13 | (injection eo13 with f1_ f2_ f3_; have f4_ := f1_.symm; have f5_ := f3_.symm; clear f1_ f2_ f3_; subst f4_; subst f5_))
 refine hK.out _ _ ⟨(blk_cell BK141.out 0).trans rfl, (blk_cell BK141.out 1).trans rfl, (blk_cell BK141.out 2).trans rfl, (blk_cell BK141.out 3).trans rfl, (blk_cell BK141.out 4).trans rfl, (blk_cell BK142.out 0).trans rfl, (blk_cell BK142.out 1).trans rfl, (blk_cell BK142.out 2).trans rfl, (blk_cell BK142.out 3).trans rfl, (blk_cell BK142.out 4).trans rfl⟩ (fun hHeld => ?_)
 clear hK K
 refine norm_ (a' := ?_) ?_ ?_
 rotate_left
 ·show Act.put _ (some 29) _ = _
  simp only [Act.put, sqA, sqB, sqC, i64_w, i32_w]
  rfl
 refine one_ (i := 25) (N := some 30) #[I,I,I,I,I,I,I,I,I,I,I,I,I,I,I,I,I,I,I,I,I,I,I,I,I,I,O,O] rfl rfl (one_of HT_.out (by kernel_rfl)) (by decide) (fun K hK => ?_)
 refine goes_ Tryz.func127 (by kernel_rfl) rfl #[.slice Ao13 y147.length co13] (by rfl) rfl rfl (by (try simp only [List.map_toArray, List.map_cons, List.map_nil]); first | done | rfl | (simp only [List.length_drop, List.length_take]; rfl)) ?_
 with_reducible refine (cmp_Or_int.calls k _ _ y147 t150 _ ?side1 ?side2 A7.out).mono ?_
 (case side1 => repeat (first | exact (Kd.R_reads' HO149.out).2.2 | (with_reducible refine Kd.C_alloc ?_ _) | (with_reducible refine Kd.C_drewN ?_ _) | (with_reducible refine Kd.C_drew ?_)))
 (case side2 => exact (Kd.R_reads' HO149.out).2.1)
 rintro e w' ⟨rfl, ⟨nd, rfl⟩⟩
 refine ⟨_, rfl, ?_⟩
 refine hK.out _ _ ⟨(blk_cell BK141.out 0).trans rfl, (blk_cell BK141.out 1).trans rfl, (blk_cell BK141.out 2).trans rfl, (blk_cell BK141.out 3).trans rfl, (blk_cell BK141.out 4).trans rfl, (blk_cell BK142.out 0).trans rfl, (blk_cell BK142.out 1).trans rfl, (blk_cell BK142.out 2).trans rfl, (blk_cell BK142.out 3).trans rfl, (blk_cell BK142.out 4).trans rfl⟩ (fun hHeld => ?_)
 clear hK K
 refine norm_ (a' := ?_) ?_ ?_
 rotate_left
 ·show Act.put _ (some 30) _ = _
  simp only [Act.put, sqA, sqB, sqC, i64_w, i32_w]
  rfl
 refine sqP (i := 26) (N := some 31) (v := ?_) (a' := ?_) #[I,I,I,I,I,I,I,I,I,I,I,I,I,I,I,I,I,I,I,I,I,I,I,I,I,I,I,O] rfl rfl HT_.out (Or.inl ⟨by rfl, ?_⟩) ?_ ?_
 rotate_left
 ·intro w'
  go_simp
  with_reducible rfl
 rotate_left
 ·simp only [Act.put, sqA, sqB, sqC, i64_w, i32_w]
  rfl
 refine sqP (i := 27) (N := some 4) (v := ?_) (a' := ?_) #[I,I,I,I,I,I,I,I,I,I,I,I,I,I,I,I,I,I,I,I,I,I,I,I,I,I,I,I] rfl rfl HT_.out (Or.inl ⟨by rfl, ?_⟩) ?_ ?_
 rotate_left
 ·intro w'
  go_simp
  with_reducible rfl
 rotate_left
 ·simp only [Act.put, sqA, sqB, sqC, i64_w, i32_w]
  rfl
 refine done_ (done_of HT_.out (by kernel_rfl)) ?_
 try go_wp2
 go_ret
 exact ⟨by first | rfl | (simp [errW_none, errW_some] <;> rfl) | (simp [*, errW_none, errW_some] <;> rfl), by repeat (first | (with_reducible first | exact HB.out | apply below_alloc | apply pw_below_drewN | apply below_drew1 | refine below_set ?_ GE141.out | refine below_set ?_ GE142.out) | exact HB.out)⟩

end Go.Proofs.YtmcddoolniaehaaGreat.S
end
