/- Rows of elements whose cells are told by the element alone: the print's word for such a row, and the row's cells one by one. -/
import Derived.Test.YtannmdngejdjkaaLx0
namespace Go.Proofs.Ytannmdngejdjkaa.L
open Go.RowKit Go.Proofs.YtannmdngejdjkaaW.PrintWords Go.Proofs.YtannmdngejdjkaaW.PrintLast Go.Proofs.YtannmdngejdjkaaW.PrintMore
set_option linter.unusedVariables false
set_option linter.unusedSimpArgs false
section
variable {α : Type} {R : α → List Value → Prop} {enc : α → List Value} {sz : Nat}
theorem flat_length (hl : ∀ x, (enc x).length = sz) : ∀ ps : List α, (ps.flatMap enc).length = ps.length * sz
  | [] => by simp
  | x :: ps => by
    rw [List.flatMap_cons, List.length_append, hl, flat_length hl ps, List.length_cons, Nat.add_mul, Nat.one_mul, Nat.add_comm]
theorem flat_take (hl : ∀ x, (enc x).length = sz) : ∀ (ps : List α) (i : Nat), (ps.flatMap enc).take (i * sz) = (ps.take i).flatMap enc
  | [], i => by simp
  | x :: ps, 0 => by simp
  | x :: ps, i + 1 => by
    rw [List.flatMap_cons, Nat.add_mul, Nat.one_mul, List.take_succ_cons, List.flatMap_cons, Nat.add_comm, ← hl x, List.take_length_add_append, hl x, flat_take hl ps i]
theorem flat_drop (hl : ∀ x, (enc x).length = sz) : ∀ (ps : List α) (i : Nat), (ps.flatMap enc).drop (i * sz) = (ps.drop i).flatMap enc
  | [], i => by simp
  | x :: ps, 0 => by simp
  | x :: ps, i + 1 => by
    rw [List.flatMap_cons, Nat.add_mul, Nat.one_mul, List.drop_succ_cons, Nat.add_comm, ← hl x, List.drop_length_add_append, hl x, flat_drop hl ps i]
theorem reps_flat (hl : ∀ x, (enc x).length = sz) (hR : ∀ x c, R x c → c = enc x) : ∀ (ps : List α) (cs : List Value), Reps R sz ps cs → cs = ps.flatMap enc
  | [], cs, h => by have := h.1; simp at this; simp [this]
  | x :: ps, cs, h => by
    have h0 := hR _ _ (h.2 0 x rfl)
    rw [Nat.zero_mul, List.drop_zero] at h0
    have h1 : Reps R sz ps (cs.drop sz) := by
      refine ⟨by rw [List.length_drop, h.1, List.length_cons, Nat.add_mul]; omega, fun j p hj => ?_⟩
      have := h.2 (j + 1) p (by simpa using hj)
      rw [List.drop_drop]
      rwa [Nat.add_mul, Nat.one_mul, Nat.add_comm] at this
    rw [List.flatMap_cons, ← reps_flat hl hR ps _ h1, ← h0, List.take_append_drop]
theorem flat_reps (hl : ∀ x, (enc x).length = sz) (hR : ∀ x, R x (enc x)) (ps : List α) : Reps R sz ps (ps.flatMap enc) := by
  refine ⟨flat_length hl ps, fun j p hj => ?_⟩
  have hlt := (List.getElem?_eq_some_iff.1 hj).1
  have he := (List.getElem?_eq_some_iff.1 hj).2
  rw [flat_drop hl, List.drop_eq_getElem_cons hlt, List.flatMap_cons, he, ← hl p, List.take_left]
  exact hR p
theorem flat_one (h1 : ∀ x, ∀ u ∈ enc x, u.oneCell' = true) (ps : List α) : ∀ u ∈ ps.flatMap enc, u.oneCell' = true := by
  intro u hu
  obtain ⟨x, _, hx⟩ := List.mem_flatMap.1 hu
  exact h1 x u hx
end
section
variable {α : Type} {d : Kd α} {e : Nat} {w : World} {base : Nat} {ok : Nat → Prop} {v : Value} {enc : α → List Value}
theorem R_cells (hl : ∀ x, (enc x).length = d.sz) (hM : ∀ {w base ok x cs}, d.M w base ok x cs → cs = enc x) {xs : List α} (h : d.R e w base ok v xs) : w.ownsRow base e d.sz v xs.length (xs.flatMap enc) := by
  obtain ⟨_, inner, ho, hr⟩ := h
  rw [← reps_flat hl (fun x c hc => hM hc) xs inner hr]
  exact ho
theorem R_of_cells (hl : ∀ x, (enc x).length = d.sz) (hM : ∀ (w : World) (base : Nat) (ok : Nat → Prop) (x : α), d.M w base ok x (enc x)) {xs : List α} (h : w.ownsRow base e d.sz v xs.length (xs.flatMap enc)) (hok : ∀ k, v.ownBlock = some k → ok k) : d.R e w base ok v xs :=
  ⟨hok, _, h, flat_reps hl (fun x => hM _ _ _ x) xs⟩
end
section
variable {α : Type} {d : Kd α} {enc : α → List Value}
theorem flat_get {sz : Nat} (hl : ∀ x, (enc x).length = sz) : ∀ (ps : List α) (m : Nat) (u : Value), (ps.flatMap enc)[m]? = some u → ∃ j i p, m = j * sz + i ∧ ps[j]? = some p ∧ (enc p)[i]? = some u
  | [], m, u, h => by simp at h
  | x :: ps, m, u, h => by
    rw [List.flatMap_cons] at h
    rcases Nat.lt_or_ge m sz with hm | hm
    · rw [List.getElem?_append_left (by rw [hl]; exact hm)] at h
      exact ⟨0, m, x, by omega, rfl, h⟩
    · rw [List.getElem?_append_right (by rw [hl]; exact hm), hl] at h
      obtain ⟨j, i, p, h1, h2, h3⟩ := flat_get hl ps (m - sz) u h
      exact ⟨j + 1, i, p, by rw [Nat.add_mul]; omega, by simpa using h2, h3⟩
theorem C_news (hl : ∀ x, (enc x).length = d.sz) (hK : ∀ {w x cs}, d.K w x cs → cs = enc x) {w : World} {ad : Addr} {n : Nat} {xs : List α} (h : d.C w (some ad) n xs) : ∀ j u, (xs.flatMap enc)[j]? = some u → w.cell? (ad.add j) = some u := by
  intro m u hm
  obtain ⟨j, i, p, h1, h2, h3⟩ := flat_get hl xs m u hm
  have hj := (List.getElem?_eq_some_iff.1 h2).1
  have hn : 0 < n := by rw [← h.1]; omega
  obtain ⟨ad', e, hc⟩ := h.2.2 hn
  cases e
  obtain ⟨c, hcl, hR, hcc⟩ := hc j p h2
  rw [h1]
  exact hcc i u (by rw [hK hR]; exact h3)
end
/-- a register's cells -/
def regCells (x : S26) : List Value := [.string x.f0, .string x.f1, .int .i64 x.f2, .int .i64 x.f3.f0, .int .i64 x.f3.f1]
def regRow (l : List S26) : List Value := l.flatMap regCells
theorem regCells_length (x : S26) : (regCells x).length = k26.sz := rfl
theorem regCells_one (x : S26) : ∀ u ∈ regCells x, u.oneCell' = true := by
  intro u hu
  simp only [regCells, List.mem_cons, List.not_mem_nil, or_false] at hu
  rcases hu with rfl | rfl | rfl | rfl | rfl <;> rfl
theorem reg_R {w : World} {base : Nat} {ok : Nat → Prop} {v : Value} {xs : List S26} (h : k26.R 26 w base ok v xs) : w.ownsRow base 26 5 v xs.length (regRow xs) :=
  R_cells (enc := regCells) regCells_length (fun hc => k26_openM hc) h
theorem R_reg {w : World} {base : Nat} {v : Value} {xs : List S26} (h : w.ownsRow base 26 5 v xs.length (regRow xs)) : k26.R 26 w base (fun _ => True) v xs :=
  R_of_cells (d := k26) (enc := regCells) regCells_length (fun w base ok x => k26_mkM w base ok x) h (fun _ _ => trivial)
end Go.Proofs.Ytannmdngejdjkaa.L
