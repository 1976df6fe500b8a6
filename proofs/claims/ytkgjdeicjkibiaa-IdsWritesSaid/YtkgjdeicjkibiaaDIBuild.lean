/- A slice literal of ids. Plain, and the operation. -/
import Derived.Test.YtkgjdeicjkibiaaDISort
import Derived.Great.BuildSlice
namespace Go.Proofs.Ytkgjdeicjkibiaa.D
open Go.RowKit Go.Proofs.YtkgjdeicjkibiaaW.PrintWords Go.Proofs.YtkgjdeicjkibiaaW.PrintLast Go.Proofs.YtkgjdeicjkibiaaW.PrintMore Go.Proofs.YtkgjdeicjkibiaaW
set_option linter.unusedVariables false
set_option linter.unusedSimpArgs false
theorem fold_set : ∀ (vs : List Value) (Z : Array Value) (off s : Nat), off + s + vs.length ≤ Z.size →
    ∃ C, (vs.zipIdx s).foldl (fun cs (x : Value × Nat) => cs.setIfInBounds (off + x.2) x.1) Z = C ∧ C.size = Z.size ∧ (∀ j, j < vs.length → C[off + s + j]? = vs[j]?) ∧ ∀ j, (j < off + s ∨ off + s + vs.length ≤ j) → C[j]? = Z[j]?
  | [], Z, off, s, h => ⟨Z, rfl, rfl, fun j hj => absurd hj (by simp), fun j _ => rfl⟩
  | v :: vs, Z, off, s, h => by
    have hl : (v :: vs).length = vs.length + 1 := rfl
    obtain ⟨C, h1, h2, h3, h4⟩ := fold_set vs (Z.setIfInBounds (off + s) v) off (s + 1) (by rw [Array.size_setIfInBounds]; omega)
    refine ⟨C, by rw [List.zipIdx_cons, List.foldl_cons]; exact h1, by simpa using h2, fun j hj => ?_, fun j hj => ?_⟩
    · match j with
      | 0 =>
        rw [Nat.add_zero, h4 _ (.inl (by omega)), Array.getElem?_setIfInBounds, if_pos rfl, if_pos (by omega)]
        rfl
      | j + 1 =>
        have := h3 j (by omega)
        rw [show off + s + (j + 1) = off + (s + 1) + j by omega, this]
        rfl
    · rw [h4 j (by omega), Array.getElem?_setIfInBounds, if_neg (by omega)]
theorem fill_ids : ∀ (xs : List Id) (k : Nat) (Z : Array Value), (∀ x ∈ xs, okId x) → (k + xs.length) * 32 ≤ Z.size →
    ∃ C, Instr.fill (fun i => some (i * 32, 32)) Z ((xs.zipIdx k).map fun x => (x.2, valI x.1)) = some C ∧ C.size = Z.size ∧ (∀ j, j < xs.length * 32 → C[k * 32 + j]? = (rowI xs)[j]?) ∧ ∀ j, j < k * 32 → C[j]? = Z[j]?
  | [], k, Z, _, _ => ⟨Z, rfl, rfl, fun j hj => absurd hj (by simp), fun j _ => rfl⟩
  | x :: xs, k, Z, hok, h => by
    have hl : (x :: xs).length = xs.length + 1 := rfl
    have hx := hok x List.mem_cons_self
    have hcl := cellsI_ok hx
    obtain ⟨C0, e0, z0, p0, q0⟩ := fold_set (cellsI x) Z (k * 32) 0 (by rw [hcl]; omega)
    obtain ⟨C, e1, z1, p1, q1⟩ := fill_ids xs (k + 1) C0 (fun y hy => hok y (List.mem_cons_of_mem _ hy)) (by rw [z0]; omega)
    have hsz : (arrI x).size = 32 := by unfold arrI; rw [List.size_toArray]; exact hcl
    refine ⟨C, ?_, z1.trans z0, fun j hj => ?_, fun j hj => ?_⟩
    · rw [List.zipIdx_cons, List.map_cons]
      unfold Instr.fill
      simp only [Value.cells, hsz]
      rw [if_neg (by simp; omega)]
      rw [← e1, ← e0]
      congr 1
      unfold arrI
      rw [← Array.foldl_toList, Array.toList_zipIdx]
    · unfold rowI at *
      rw [List.flatMap_cons]
      rcases Nat.lt_or_ge j 32 with hj' | hj'
      · rw [q1 _ (by omega), List.getElem?_append_left (by omega)]
        exact p0 j (by omega)
      · rw [List.getElem?_append_right (by omega), hcl, ← p1 (j - 32) (by omega)]
        congr 1; omega
    · rw [q1 _ (by omega), q0 _ (.inl (by omega))]
theorem info_size : (Try.prog.info? 23).map (·.size) = some 32 := by kernel_rfl
theorem info_zero : ((Try.prog.info? 23).bind (·.zero)).isSome = true := by kernel_rfl
theorem wpl_build {ops : Array Oper} {rest : List Oper} {op : Oper} {a : Act} {w : World} {Q : Exit → Act → World → Prop} (xs : List Id) (hok : ∀ x ∈ xs, okId x) (hpos : 0 < xs.length) (hs : xs.length ≤ 1000) (n : Nat) (hn : xs.length = n) (hgd : op.guard = none)
    (parts : Array (Nat × Operand)) (ho : op.op = .buildSlice 29 n parts) (hp : parts.toList.map (fun q => (q.1, a.eval q.2)) = (xs.zipIdx 0).map fun x => (x.2, valI x.1))
    (h : wpList Try.prog ops Q rest (a.put op.dst (.slice (some ⟨w.heap.size, 0, none⟩) n n)) (w.alloc (.cells (rowI xs).toArray 23))) : wpList Try.prog ops Q (op :: rest) a w := by
  subst hn
  have h1 := info_size
  have h2 := info_zero
  cases hie : Try.prog.info? 23 with
  | none => simp [hie] at h1
  | some ie =>
    simp only [hie, Option.map_some, Option.some.injEq, Option.bind_some] at h1 h2
    obtain ⟨z, hz⟩ := Option.isSome_iff_exists.1 h2
    obtain ⟨C, e1, z1, p1, _⟩ := fill_ids xs 0 ((Array.range (xs.length * 32)).map (z.cells[· % z.cells.size]!)) hok (by simp)
    have hC : C = (rowI xs).toArray := by
      apply Array.ext_getElem?
      intro j
      have hr := rowI_length hok
      have hzz : C.size = xs.length * 32 := by rw [z1]; simp
      by_cases hj : j < xs.length * 32
      · have := p1 j hj
        simp only [Nat.zero_mul, Nat.zero_add] at this
        rw [this]; simp
      · rw [Array.getElem?_eq_none (by omega), Array.getElem?_eq_none (by rw [List.size_toArray]; omega)]
    subst hC
    exact wpList_buildSlice hgd 29 23 xs.length parts ho _ ie z Try.underlying29 hie hz (by rw [h1]; omega) (by rw [h1]; omega) (by rw [h1, Array.toList_map, hp]; exact e1) h
end Go.Proofs.Ytkgjdeicjkibiaa.D
