/- One operation at a time, at ids: a load, a store into a new variable, a store. -/
import Derived.Test.YtameeejfkgoheaaPIBase
namespace Go.Proofs.Ytameeejfkgoheaa.P
open Go.RowKit Go.Proofs.YtameeejfkgoheaaW.PrintWords Go.Proofs.YtameeejfkgoheaaW.PrintLast Go.Proofs.YtameeejfkgoheaaW.PrintMore Go.Proofs.YtameeejfkgoheaaW
set_option linter.unusedVariables false
set_option linter.unusedSimpArgs false
section
variable {ops : Array Oper} {rest : List Oper} {op : Oper} {a : Act} {w : World} {Q : Exit → Act → World → Prop}
theorem wpl_load (b o : Nat) (i : Id) (hr : w.rangeAt b o (cellsI i)) (hi : okId i) (hgd : op.guard = none) (x : Operand) (ho : op.op = .load 71 x)
    (hx : a.eval x = .pointer (some ⟨b, o, none⟩)) (h : wpList Try.prog ops Q rest (a.put op.dst (valI i)) w) : wpList Try.prog ops Q (op :: rest) a w :=
  wpList_load_mid hgd 71 x ho b o hx (cellsI i) _ hr Try.underlying71 rfl (info_I hi) h
theorem wpo_load {K : Act → World → Prop} (b o : Nat) (i : Id) (hr : w.rangeAt b o (cellsI i)) (hi : okId i) (x : Operand) (ho : op.op = .load 71 x)
    (hx : a.eval x = .pointer (some ⟨b, o, none⟩)) (h : K (a.put op.dst (valI i)) w) : op.wp Try.prog a w K Q :=
  wp_load_mid 71 x ho b o hx (cellsI i) _ hr Try.underlying71 rfl (info_I hi) h
theorem wpl_store (b o : Nat) (i : Id) (hr : w.there b o 32) (hi : okId i) (hgd : op.guard = none) (x y : Operand) (ho : op.op = .store 71 x y)
    (hx : a.eval x = .pointer (some ⟨b, o, none⟩)) (hy : a.eval y = valI i) (h : wpList Try.prog ops Q rest (a.put op.dst undef) (w.setCells b o (cellsI i))) : wpList Try.prog ops Q (op :: rest) a w := by
  refine wpList_store_mid hgd 71 x y ho b o (arrI i) hx hy ?_ ?_ (all_oneCell_toArray (cellsI_one i)) h
  · show w.there b o (cellsI i).toArray.size
    rw [List.size_toArray, cellsI_ok hi]; exact hr
  · show _ = some (cellsI i).toArray.size
    rw [List.size_toArray]; exact info_I hi
theorem setCells_heap : ∀ (vs : List Value) (w : World) (b o : Nat) (cs : Array Value) (t : TypeId), w.heap[b]? = some (.cells cs t (0, 0)) → o + vs.length ≤ cs.size →
    ∃ cs', (w.setCells b o vs).heap[b]? = some (.cells cs' t (0, 0)) ∧ cs'.size = cs.size ∧ (∀ j, j < vs.length → cs'[o + j]? = vs[j]?) ∧ (∀ j, (j < o ∨ o + vs.length ≤ j) → cs'[j]? = cs[j]?)
  | [], w, b, o, cs, t, h, hl => ⟨cs, h, rfl, fun j hj => absurd hj (by simp), fun j _ => rfl⟩
  | v :: vs, w, b, o, cs, t, h, hl => by
    obtain ⟨cs', h1, h2, h3, h4⟩ := setCells_heap vs (w.setCell ⟨b, o, none⟩ v) b (o + 1) (cs.setIfInBounds o v) t (blk_set h o v) (by simp at hl ⊢; omega)
    refine ⟨cs', h1, by simpa using h2, fun j hj => ?_, fun j hj => ?_⟩
    · match j with
      | 0 =>
        rw [Nat.add_zero, h4 o (.inl (by omega))]
        simp at hl
        simp [show o < cs.size by omega]
      | j + 1 =>
        have := h3 j (by simpa using hj)
        rw [show o + (j + 1) = o + 1 + j by omega, this]
        rfl
    · have hl' : (v :: vs).length = vs.length + 1 := rfl
      rw [h4 j (by rcases hj with hj | hj; exact .inl (by omega); exact .inr (by omega))]
      simp only [Array.getElem?_setIfInBounds]
      rw [if_neg (by omega)]
theorem below_setCells {w0 : World} {b : Nat} (hb : w0.heap.size ≤ b) : ∀ (vs : List Value) (o : Nat) (V : World), Below w0.heap.size w0 V → Below w0.heap.size w0 (V.setCells b o vs)
  | [], _, _, h => h
  | v :: vs, o, V, h => below_setCells hb vs (o + 1) _ (below_set h hb)
theorem size_setCells {b : Nat} : ∀ (vs : List Value) (o : Nat) (V : World), (V.setCells b o vs).heap.size = V.heap.size
  | [], _, _ => rfl
  | v :: vs, o, V => by
    show ((V.setCell ⟨b, o, none⟩ v).setCells b (o + 1) vs).heap.size = _
    rw [size_setCells vs (o + 1)]
    simp [World.setCell]
/-- a store into a variable that was just made -/
theorem wpl_store_new (w0 : World) (Z : Array Value) (i : Id) (hi : okId i) (hw : w = w0.alloc (.cells Z 71)) (hZ : Z.size = 32) (hgd : op.guard = none) (x y : Operand) (ho : op.op = .store 71 x y)
    (hx : a.eval x = .pointer (some ⟨w0.heap.size, 0, none⟩)) (hy : a.eval y = valI i)
    (h : ∀ W1 : World, W1.heap[w0.heap.size]? = some (.cells (arrI i) 71 (0, 0)) → Below w0.heap.size w0 W1 → W1.heap.size = w0.heap.size + 1 → wpList Try.prog ops Q rest (a.put op.dst undef) W1) : wpList Try.prog ops Q (op :: rest) a w := by
  subst hw
  have hb := blk_new w0 (.cells Z 71)
  have hcl := cellsI_ok hi
  refine wpl_store w0.heap.size 0 i (fun j hj => ?_) hi hgd x y ho hx hy ?_
  · rw [Nat.zero_add]
    refine ⟨?_, blk_frozen hb j⟩
    rw [blk_cell hb j]
    simp [hZ, hj]
  · obtain ⟨cs', h1, h2, h3, _⟩ := setCells_heap (cellsI i) _ w0.heap.size 0 Z _ hb (by rw [hcl, hZ]; omega)
    have he : cs' = arrI i := by
      apply Array.ext_getElem?
      intro j
      by_cases hj : j < 32
      · have := h3 j (by omega)
        rw [Nat.zero_add] at this
        rw [this]
        simp [arrI]
      · rw [Array.getElem?_eq_none (by omega), Array.getElem?_eq_none (by simp [arrI]; omega)]
    subst he
    exact h _ h1 (below_setCells (Nat.le_refl _) _ _ _ (below_alloc (Below.refl _ _) _)) (by rw [size_setCells]; simp)
theorem heap_setCells_far {b : Nat} : ∀ (vs : List Value) (o : Nat) (V : World) (k : Nat), k ≠ b → (V.setCells b o vs).heap[k]? = V.heap[k]?
  | [], _, _, _, _ => rfl
  | v :: vs, o, V, k, hk => (heap_setCells_far vs (o + 1) (V.setCell ⟨b, o, none⟩ v) k hk).trans (Below.heap_setCell V ⟨b, o, none⟩ v k hk)
/-- a store over a whole variable -/
theorem wpl_store_blk (b : Nat) (Z : Array Value) (i : Id) (hb : w.heap[b]? = some (.cells Z 71 (0, 0))) (hZ : Z.size = 32) (hi : okId i) (hgd : op.guard = none) (x y : Operand) (ho : op.op = .store 71 x y)
    (hx : a.eval x = .pointer (some ⟨b, 0, none⟩)) (hy : a.eval y = valI i)
    (h : ∀ W1 : World, W1.heap[b]? = some (.cells (arrI i) 71 (0, 0)) → (∀ w0 : World, w0.heap.size ≤ b → Below w0.heap.size w0 w → Below w0.heap.size w0 W1) → (∀ k, k ≠ b → W1.heap[k]? = w.heap[k]?) → W1.heap.size = w.heap.size → wpList Try.prog ops Q rest (a.put op.dst undef) W1) : wpList Try.prog ops Q (op :: rest) a w := by
  have hcl := cellsI_ok hi
  refine wpl_store b 0 i (fun j hj => ?_) hi hgd x y ho hx hy ?_
  · rw [Nat.zero_add]
    refine ⟨?_, blk_frozen hb j⟩
    rw [blk_cell hb j]
    simp [hZ, hj]
  · obtain ⟨cs', h1, h2, h3, _⟩ := setCells_heap (cellsI i) w b 0 Z _ hb (by rw [hcl, hZ]; omega)
    have he : cs' = arrI i := by
      apply Array.ext_getElem?
      intro j
      by_cases hj : j < 32
      · have := h3 j (by omega)
        rw [Nat.zero_add] at this
        rw [this]
        simp [arrI]
      · rw [Array.getElem?_eq_none (by omega), Array.getElem?_eq_none (by simp [arrI]; omega)]
    subst he
    exact h _ h1 (fun w0 h0 hB => below_setCells h0 _ _ _ hB) (fun k hk => heap_setCells_far _ _ _ k hk) (size_setCells _ _ _)
def zeroI : Id := List.replicate 32 0
theorem zeroI_ok : okId zeroI := rfl
theorem alloc_I (w : World) : (Instr.alloc 71 true (.tuple #[])).run Try.prog w = .ok (.pointer (some ⟨w.heap.size, 0, none⟩)) (w.alloc (.cells (arrI zeroI) 71)) := by
  have hz : (zeroValue 71).run Try.prog w = .ok (valI zeroI) w := by kernel_rfl
  simp [Instr.alloc, Sem.run_bind, hz, newVar, newRow, Value.cells, Result.andThen]
/-- a new variable -/
theorem wpl_alloc (hgd : op.guard = none) (ho : op.op = .alloc 71) (h : wpList Try.prog ops Q rest (a.put op.dst (.pointer (some ⟨w.heap.size, 0, none⟩))) (w.alloc (.cells (arrI zeroI) 71))) : wpList Try.prog ops Q (op :: rest) a w := by
  refine wpList_plain hgd fun _ hK => ?_
  unfold Oper.wp execOp
  simp only [ho, Sem.run_bind, alloc_I, Result.andThen_ok]
  exact hK _ _ h
theorem pw_load {S : World → Prop} {ds : List Nat} {i : Nat} {N : Option Tmp} {oi : Oper} {fuel : Nat} {l : Array Bool} {md : Region.Mode} (l' : Array Bool) (hi : ops[i]? = some oi) (hN : oi.dst = N) (hc : takeB md ops ds l l' i = true)
    (hQ : ∀ c a w, ∀ v, Q (.panic c) (a.put oi.dst v) w → Q (.panic c) a w) (y : Operand) (ho : oi.op = .load 71 y) (hw : Region.wanted oi (yielded ops a.tmps) = true) (b o : Nat) (hx : a.eval y = .pointer (some ⟨b, o, none⟩)) (x : Id)
    (hR : ∀ w', S w' → w'.rangeAt b o (cellsI x)) (hok : okId x) (hS : S w) {a' : Act} (ha : a.put N (valI x) = a')
    (h : wpAnyLast Try.prog md ops Q S ds fuel l' a' w) : wpAnyLast Try.prog md ops Q S ds (fuel + 1) l a w :=
  take_ l' hi hN hc (fun c a w => hQ c a w _) (yieldsIf_load_mid hw 71 y ho b o hx (cellsI x) _ hR Try.underlying71 rfl (info_I hok)) hS ha h
end
end Go.Proofs.Ytameeejfkgoheaa.P
