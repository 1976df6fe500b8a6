/- slices.DeleteFunc at ints in a row of the call's own, with peer.Leave's closure. By hand. -/
import Derived.Test.YtameeejfkgoheaaPNRLeave
import Derived.Laws.Externs
import Derived.Laws.CopyRow
import Derived.Laws.IdiomCopy
namespace Go.Proofs.Ytameeejfkgoheaa.P
open Go.RowKit Go.Proofs.YtameeejfkgoheaaW.PrintWords Go.Proofs.YtameeejfkgoheaaW.PrintLast Go.Proofs.YtameeejfkgoheaaW.PrintMore Go.Proofs.YtameeejfkgoheaaW
set_option linter.unusedVariables false
set_option linter.unusedSimpArgs false
def eqI (p q : Int) : Bool := q == p
theorem leave_clo (p : Int) (B : Nat) (w : World) (hB : B < w.heap.size) (hcell : w.cell? ⟨B, 0, none⟩ = some (.int .i64 p)) (q : Int) :
    Calls Try.prog 33 #[.int .i64 q, .pointer (some ⟨B, 0, none⟩)] w fun e w' => e = .returned (.bool (eqI p q)) ∧ Below w.heap.size w w' := by
  go_enter Try.func33, Try.ntmps33
  go_wp2
  go_ret
  exact ⟨rfl, Below.refl _ _⟩
theorem leave_idx (p : Int) (B : Nat) (w : World) (hB : B < w.heap.size) (hcell : w.cell? ⟨B, 0, none⟩ = some (.int .i64 p)) (A0 : Option Addr) (c0 : Nat) (l0 : List Int) (hr0 : RdI w A0 l0) :
    Calls Try.prog 26 #[.slice A0 l0.length c0, .func (.func 33) #[] #[.pointer (some ⟨B, 0, none⟩)]] w fun e w' => e = .returned (.int .i64 (firstAt (eqI p) 0 l0)) ∧ Below w.heap.size w w' := by
  have HR := Aside0.mk hr0
  have HC := Aside0.mk hcell
  have HL := Aside0.mk hr0.1
  clear hr0 hcell
  go_enter Try.func26, Try.ntmps26
  go_wp2
  go_loopw [8] (fun i wr => ∃ k : Nat, k ≤ l0.length ∧ i = .int .i64 k ∧ Aside0 (∀ j, j < k → ∀ h : j < l0.length, eqI p l0[j] = false) ∧ Aside0 (Below w.heap.size w wr)) (fun i _ => l0.length - (intOf i).toNat)
  case atStart => exact ⟨0, Nat.zero_le _, rfl, ⟨fun j hj => by omega⟩, ⟨Below.refl _ _⟩⟩
  case round =>
    obtain ⟨k, hk, rfl, ha, HB⟩ := hrel
    by_cases hlt : k < l0.length
    · obtain ⟨ad, e, hx⟩ := HR.out.2 (by omega)
      cases e
      have hx0 := (HB.out.cell (World.block_lt_of_cell? w _ (hx k hlt))).trans (hx k hlt)
      have h63 := HL.out
      have hBr : B < wr.heap.size := Nat.lt_of_lt_of_le hB HB.out.size
      have HCL := Aside0.mk (leave_clo p B wr hBr ((HB.out.cell (p := ⟨B, 0, none⟩) hB).trans HC.out) l0[k])
      have HX := Aside0.mk (show firstAt (eqI p) 0 l0 = firstAt (eqI p) k (l0.drop k) from (firstAt_drop (eqI p) l0 k hk ha.out).symm)
      have HD := Aside0.mk (List.drop_eq_getElem_cons hlt)
      clear hx
      generalize hv : l0[k] = q at hx0 HCL HD
      cases hq : eqI p q with
      | true =>
        have HF := Aside0.mk (show firstAt (eqI p) 0 l0 = (k : Int) by
          rw [HX.out, HD.out]
          simp [firstAt, hq])
        rw [hq] at HCL
        clear hq hv HX HD
        go_wp2_with fail
        refine HCL.out.mono ?_
        rintro e w' ⟨rfl, hb⟩
        have HB' := Aside0.mk (below_step HB.out hb)
        clear hx0 HB hb HCL hBr
        go_wp2
        go_ret
        exact ⟨by (rw [HF.out]; first | rfl | simp), HB'.out⟩
      | false =>
        have HF := Aside0.mk (show ∀ j, j < k + 1 → ∀ h : j < l0.length, eqI p l0[j] = false by
          intro j hj h
          rcases Nat.lt_or_ge j k with q' | q'
          · exact ha.out j q' h
          · obtain rfl : j = k := by omega
            rw [hv]; exact hq)
        rw [hq] at HCL
        clear hq hv HX HD
        go_wp2_with fail
        refine HCL.out.mono ?_
        rintro e w' ⟨rfl, hb⟩
        have HB' := Aside0.mk (below_step HB.out hb)
        clear hx0 HB hb HCL hBr ha
        go_wp2
        go_roundw
        case rel => exact ⟨k + 1, by omega, by go_num, HF, HB'⟩
        case measure => simp [intOf]; omega
    · have HF := Aside0.mk (show firstAt (eqI p) 0 l0 = -1 by
        obtain rfl : k = l0.length := by omega
        rw [← firstAt_drop (eqI p) l0 _ (Nat.le_refl _) ha.out, List.drop_length]; rfl)
      go_wp2
      go_ret
      exact ⟨by (rw [HF.out]; first | rfl | simp), HB.out⟩
section
variable {P : Program}
theorem wp_clear_runH (w : World) {o : Oper} {a : Act} {K : Act → World → Prop} {Q : Exit → Act → World → Prop} (s : Operand) (t : TypeId)
    (ho : o.op = .call { callee := .builtin .clear, args := #[s], argTypes := #[t] }) (v : Value) (hs : a.eval s = v) {v' : Value} {w' : World}
    (hr : (Builtin.clear_ #[t] o.type #[v]).run P w = .ok v' w') (h : K (a.put o.dst v') w') : o.wp P a w K Q := by
  unfold Oper.wp execOp
  simp only [ho, resolve, invoke, builtin, Sem.run_bind, Sem.run_pure, Result.andThen_ok, List.map_toArray, List.map_cons, List.map_nil, hs, hr]
  exact h
theorem wpList_clear_runH (w : World) {ops : Array Oper} {rest : List Oper} {o : Oper} {a : Act} {Q : Exit → Act → World → Prop} (hgd : o.guard = none) (s : Operand) (t : TypeId)
    (ho : o.op = .call { callee := .builtin .clear, args := #[s], argTypes := #[t] }) (v : Value) (hs : a.eval s = v) {v' : Value} {w' : World}
    (hr : (Builtin.clear_ #[t] o.type #[v]).run P w = .ok v' w') (h : wpList P ops Q rest (a.put o.dst v') w') : wpList P ops Q (o :: rest) a w :=
  wpList_plain hgd fun _ hK => wp_clear_runH w s t ho v hs hr (hK _ _ h)
end
theorem heap_setRow2 (w : World) (g : Nat) (cur cs : Array Value) (t : TypeId) (hg : w.heap[g]? = some (.cells cur t (0, 0))) : (w.setRow g cs).heap[g]? = some (.cells cs t (0, 0)) := by
  simp [World.setRow, Array.getElem?_modify, hg]
theorem grown_setRow2 (w : World) (g : Nat) (cs : Array Value) : w.grownBy (w.setRow g cs) (some g) := by
  refine ⟨rfl, rfl, rfl, by simp [World.setRow], fun k hk hne => ?_⟩
  have : g ≠ k := fun e => hne (by rw [e])
  simp [World.setRow, Array.getElem?_modify, this]
theorem firstAt_cases {α : Type} (p : α → Bool) : ∀ (l : List α) (k : Nat), (firstAt p k l = -1 ∧ ∀ x ∈ l, p x = false) ∨ ∃ j, ∃ h : j < l.length, firstAt p k l = ((k + j : Nat) : Int) ∧ p l[j] = true ∧ ∀ i, i < j → ∀ h : i < l.length, p l[i] = false
  | [], k => .inl ⟨rfl, fun x hx => by cases hx⟩
  | x :: l, k => by
    cases hx : p x with
    | true => exact .inr ⟨0, by simp, by simp [firstAt, hx], by simpa using hx, fun i hi => by omega⟩
    | false =>
      have e : firstAt p k (x :: l) = firstAt p (k + 1) l := by simp [firstAt, hx]
      rcases firstAt_cases p l (k + 1) with ⟨h1, h2⟩ | ⟨j, hj, h1, h2, h3⟩
      · exact .inl ⟨by rw [e, h1], fun y hy => by
          rcases List.mem_cons.1 hy with rfl | hy
          · exact hx
          · exact h2 y hy⟩
      · refine .inr ⟨j + 1, by simpa using hj, by rw [e, h1]; congr 1; omega, by simpa using h2, fun i hi h => ?_⟩
        cases i with
        | zero => simpa using hx
        | succ i => simpa using h3 i (by omega) (by simpa using h)
theorem filter_first {α : Type} (q : α → Bool) (l : List α) (j : Nat) (hj : j < l.length) (h1 : q l[j] = true) (h2 : ∀ i, i < j → ∀ h : i < l.length, q l[i] = false) : (l.take (j + 1)).filter (fun x => !q x) = l.take j := by
  rw [List.take_succ_eq_append_getElem hj, List.filter_append]
  have e1 : (l.take j).filter (fun x => !q x) = l.take j := by
    rw [List.filter_eq_self]
    intro a ha
    obtain ⟨i, hi, rfl⟩ := List.mem_iff_getElem.1 ha
    rw [List.getElem_take]
    rw [h2 i (by simp at hi; omega) (by simp at hi; omega)]; rfl
  rw [e1]
  simp [h1]
theorem zeroVI (w : World) : (zeroValue 3).run Try.prog w = .ok (.int .i64 0) w := by kernel_rfl
def zerosI (n : Nat) : List Value := (Builtin.zeroCells #[.int .i64 0] n).toList
theorem zerosI_length (n : Nat) : (zerosI n).length = n := by
  unfold zerosI
  simp [Builtin.zeroCells]
theorem zerosI_one (n : Nat) : ∀ v ∈ zerosI n, v.oneCell' = true := by
  intro v hv
  unfold zerosI at hv
  simp [Builtin.zeroCells] at hv
  obtain ⟨i, _, rfl⟩ := hv
  have : i % 1 = 0 := by omega
  first | rfl | simp [this, Value.oneCell']
theorem run_clearI (w : World) (g o n c : Nat) (cur : Array Value) (hg : w.heap[g]? = some (.cells cur 3 (0, 0))) (hn : 0 < n) (hfit : o + n ≤ cur.size) (ty : TypeId) :
    (Builtin.clear_ #[28] ty #[.slice (some ⟨g, o, none⟩) n c]).run Try.prog w = .ok (.tuple #[]) (w.setRow g (cur.toList.take o ++ zerosI n ++ cur.toList.drop (o + (zerosI n).length)).toArray) := by
  have hst := run_storeCells_at Try.prog g o 3 (zerosI n) 0 cur w hg (by rw [zerosI_length]; simpa using hfit) (zerosI_one n)
  obtain ⟨m, rfl⟩ : ∃ m, n = m + 1 := ⟨n - 1, by omega⟩
  have hz := zeroVI w
  simp [Builtin.clear_, run_underlying Try.underlying28, hz, Value.cells, Result.andThen]
  unfold zerosI at hst ⊢
  rw [hst]
  simp
set_option maxHeartbeats 4000000 in
set_option maxRecDepth 100000 in
/-- slices.DeleteFunc in a row of the call's own -/
theorem delfunc (w0 : World) (p : Int) (BK : Nat) (A : Option Addr) (c : Nat) (l : List Int) (w : World) (hB : Below w0.heap.size w0 w) (hK : w0.heap[BK]? = some (.cells #[.int .i64 p] 3 (0, 0)))
    (ho : w.ownsRow w0.heap.size 3 1 (.slice A l.length c) l.length (encI1 l)) (hlm : l.length < 4611686018427387904) :
    Calls Try.prog 32 #[.slice A l.length c, .func (.func 33) #[] #[.pointer (some ⟨BK, 0, none⟩)]] w fun e w' =>
      ∃ A' c', e = .returned (.slice A' (l.filter fun x => !eqI p x).length c') ∧ w'.ownsRow w0.heap.size 3 1 (.slice A' (l.filter fun x => !eqI p x).length c') (l.filter fun x => !eqI p x).length (encI1 (l.filter fun x => !eqI p x)) ∧ Below w0.heap.size w0 w' := by
  have hBK := blk_lt hK
  have HKK := Aside0.mk hK
  have hkw := blk_below hK hB
  have HIDX := Aside0.mk (leave_idx p BK w (blk_lt hkw) (blk_cell hkw 0) A c l (RdI_of (read_P rfl ho).1))
  clear hK hkw
  rcases firstAt_cases (eqI p) l 0 with ⟨h1, h2⟩ | ⟨j0, hj0, h1, h2, h3⟩
  · have HF := Aside0.mk (show (l.filter fun x => !eqI p x) = l by
      rw [List.filter_eq_self]
      intro a ha; rw [h2 a ha]; rfl)
    have HO := Aside0.mk ho
    have HB := Aside0.mk hB
    rw [h1] at HIDX
    clear h1 h2 ho hB
    go_enter Try.func32, Try.ntmps32
    go_wp2_with fail
    refine HIDX.out.mono ?_
    rintro e w1 ⟨rfl, hb1⟩
    have HO1 := Aside0.mk (pw_own_below HO.out hb1)
    have HB1 := Aside0.mk (below_then HB.out HB.out.size hb1)
    clear hb1
    go_wp2
    go_ret
    rw [HF.out]
    exact ⟨_, _, rfl, HO1.out, HB1.out⟩
  · obtain ⟨g, c', e, hgb0, hglt0⟩ := ho.form (by omega)
    cases e
    have HO := Aside0.mk ho
    have HB := Aside0.mk hB
    have HF0 := Aside0.mk (filter_first (eqI p) l j0 hj0 h2 h3)
    rw [Nat.zero_add] at h1
    rw [h1] at HIDX
    clear h1 h2 h3 ho hB
    go_enter Try.func32, Try.ntmps32
    go_wp2_with fail
    refine HIDX.out.mono ?_
    rintro e w1 ⟨rfl, hb1⟩
    have HO1 := Aside0.mk (pw_own_below HO.out hb1)
    have HB1 := Aside0.mk (below_then HB.out HB.out.size hb1)
    clear hb1 HO HB HIDX
    have hjm : (((j0 : Nat) : Int) == -1) = false := beq_eq_false_iff_ne.2 (by omega)
    go_wp2
    go_loopw [5, 6] (fun v u wr => ∃ (i j : Nat) (cur : List Int), j ≤ l.length ∧ i < j ∧ v = .int .i64 i ∧ u = .int .i64 j ∧ cur.length = l.length ∧ Aside0 (cur.take i = (l.take j).filter (fun x => !eqI p x)) ∧ Aside0 (cur.drop j = l.drop j) ∧
      Aside0 (wr.ownsRow w0.heap.size 3 1 (.slice (some ⟨g, 0, none⟩) l.length c) l.length (encI1 cur)) ∧ Aside0 (Below w0.heap.size w0 wr))
      (fun _ u _ => l.length - (intOf u).toNat)
    case atStart => exact ⟨j0, j0 + 1, l, by omega, by omega, rfl, by go_num, rfl, ⟨HF0.out.symm⟩, ⟨rfl⟩, HO1, HB1⟩
    case round =>
      clear HO1 HB1 HF0
      obtain ⟨i, j, cur, hjl, hij, rfl, rfl, hcl, ht, hd, hO, hBr⟩ := hrel
      have hk0 : (0 : Int) ≤ (j : Int) := Int.natCast_nonneg _
      have hi0 : (0 : Int) ≤ (i : Int) := Int.natCast_nonneg _
      by_cases hlt : j < l.length
      · have hx0 : wr.cell? ⟨g, j, none⟩ = some (.int .i64 l[j]) := by
          have h1 := hO.out.cellAt (g := g) j (by omega)
          rw [h1]
          have h2 := List.drop_eq_getElem_cons (show j < cur.length by omega)
          have h3 := List.drop_eq_getElem_cons hlt
          rw [hd.out, h3] at h2
          injection h2 with h2
          simp [← h2, show j < cur.length by omega]
        have hkr := blk_below HKK.out hBr.out
        have HCLO := Aside0.mk (leave_clo p BK wr (blk_lt hkr) (blk_cell hkr 0) l[j])
        have HXL : Aside0 ((l.take (j + 1)).filter (fun x => !eqI p x) = (l.take j).filter (fun x => !eqI p x) ++ if eqI p l[j] = true then [] else [l[j]]) := ⟨by
          rw [List.take_succ_eq_append_getElem hlt, List.filter_append]
          cases e : eqI p l[j] <;> simp [e]⟩
        have HD0 : Aside0 (cur.drop (j + 1) = l.drop (j + 1)) := ⟨by
          have := congrArg (List.drop 1) hd.out
          simpa [List.drop_drop] using this⟩
        clear hkr
        generalize l[j] = x at *
        have hj1 : (j : Int) < (l.length : Int) := by omega
        have hi1 : (i : Int) < (l.length : Int) := by omega
        cases hq : eqI p x with
        | true =>
          have HT : Aside0 (cur.take i = (l.take (j + 1)).filter (fun x => !eqI p x)) := ⟨by
            rw [HXL.out, if_pos hq, List.append_nil, ht.out]⟩
          rw [hq] at HCLO
          clear hq HXL
          go_wp2_with fail
          refine HCLO.out.mono ?_
          rintro e w2 ⟨rfl, hb2⟩
          have HO2 := Aside0.mk (pw_own_below hO.out hb2)
          have HB2 := Aside0.mk (below_then hBr.out hBr.out.size hb2)
          clear hb2 hO hBr HCLO ht hd hx0
          go_wp2
          go_roundw
          case rel => exact ⟨i, j + 1, cur, by omega, by omega, rfl, by go_num, hcl, HT, HD0, HO2, HB2⟩
          case measure => simp [intOf]; omega
        | false =>
          have HT : Aside0 ((cur.set i x).take (i + 1) = (l.take (j + 1)).filter (fun x => !eqI p x)) := ⟨by
            rw [HXL.out, if_neg (by rw [hq]; simp), ← ht.out]
            rw [List.take_succ_eq_append_getElem (by simp; omega), List.take_set_of_le (Nat.le_refl _)]
            simp⟩
          have HD : Aside0 ((cur.set i x).drop (j + 1) = l.drop (j + 1)) := ⟨by
            rw [List.drop_set_of_lt (by omega)]; exact HD0.out⟩
          rw [hq] at HCLO
          clear hq HXL
          go_wp2_with fail
          refine HCLO.out.mono ?_
          rintro e w2 ⟨rfl, hb2⟩
          have HO2 := Aside0.mk (pw_own_below hO.out hb2)
          have HB2 := Aside0.mk (below_then hBr.out hBr.out.size hb2)
          have hy0 : ∃ u, w2.cell? ⟨g, i, none⟩ = some u := ⟨(encI1 cur)[i]'(by simp; omega), by rw [HO2.out.cellAt (g := g) i (by omega)]; exact List.getElem?_eq_getElem _⟩
          obtain ⟨u0, hy0⟩ := hy0
          have f0 := HO2.out.frozenAt i
          clear hb2 hO hBr HCLO ht hd hx0
          go_wp2
          have HO3 : Aside0 ((w2.setCell ⟨g, i, none⟩ (.int .i64 x)).ownsRow w0.heap.size 3 1 (.slice (some ⟨g, 0, none⟩) l.length c) l.length (encI1 (cur.set i x))) := ⟨by
            unfold encI1
            rw [List.map_set]
            exact (HO2.out.stored i (.int .i64 x)).1⟩
          have HB3 := Aside0.mk (Below.setCell (p := ⟨g, i, none⟩) HB2.out hgb0 (.int .i64 x))
          go_roundw
          case rel => exact ⟨i + 1, j + 1, cur.set i x, by omega, by omega, by go_num, by go_num, by rw [List.length_set]; exact hcl, HT, HD, HO3, HB3⟩
          case measure => simp [intOf]; omega
      · have hje : j = l.length := by omega
        have HF : Aside0 ((l.filter fun x => !eqI p x) = cur.take i) := ⟨by
          have := ht.out
          rw [hje, List.take_length] at this
          exact this.symm⟩
        have hil : i < l.length := by omega
        obtain ⟨h5, h6⟩ := hO.out
        rcases h6 with ⟨h6, _⟩ | ⟨g', cap', cells, h6, q1, q2, q3, q4, q5, q6⟩
        · cases h6
        · cases h6
          have hcs : i + (l.length - i) ≤ cells.size := by rw [q5]; omega
          have hclr := fun ty => run_clearI wr g i (l.length - i) (c - i) cells q2 (by omega) hcs ty
          have HX := Aside0.mk (And.intro q2 (And.intro q4 (And.intro q5 q6)))
          have hcm : c ≤ 9223372036854775807 := by unfold maxLen at q4; omega
          have hci : i ≤ c := by omega
          clear q2 q4 q5 q6 hcs h5
          go_wp2_with (first | (at_builtin; refine wpList_clear_runH _ rfl _ _ rfl _ rfl (hclr _) ?_))
          have hkl : (l.filter fun x => !eqI p x).length = i := by rw [HF.out, List.length_take]; omega
          have hz := zerosI_length (l.length - i)
          go_ret
          refine ⟨some ⟨g, 0, none⟩, c, by rw [hkl]; rfl, ?_, hBr.out.grown (grown_setRow2 wr g _) hBr.out.size (fun k hk => by injection hk with hk; omega)⟩
          rw [hkl]
          refine ⟨by rw [List.length_map, hkl]; omega, .inr ⟨g, c, _, rfl, hgb0, heap_setRow2 _ g _ _ _ HX.out.1, by omega, HX.out.2.1, ?_, ?_⟩⟩
          · have h1 := HX.out.2.2.1
            simp only [List.size_toArray, List.length_append, List.length_take, List.length_drop, Array.length_toList, hz]
            omega
          · have h1 := HX.out.2.2.1
            have h2 := HX.out.2.2.2
            rw [HF.out, Nat.mul_one]
            show List.take i (List.take i cells.toList ++ _) = _
            rw [List.take_append_of_le_length (by simp; omega), List.take_take, Nat.min_self]
            have h3 : cells.toList.take i = (cells.toList.take (l.length * 1)).take i := by rw [List.take_take, Nat.min_eq_left (by omega)]
            rw [h3, h2]
            exact List.map_take.symm
end Go.Proofs.Ytameeejfkgoheaa.P
