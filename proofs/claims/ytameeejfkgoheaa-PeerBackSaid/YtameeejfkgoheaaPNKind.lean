/- Commits as values and in rows: what the walks read. Plain. -/
import Derived.Test.YtameeejfkgoheaaPNEq
namespace Go.Proofs.Ytameeejfkgoheaa.P
open Go.RowKit Go.Maps Go.Proofs.YtameeejfkgoheaaW.PrintWords Go.Proofs.YtameeejfkgoheaaW.PrintLast Go.Proofs.YtameeejfkgoheaaW.PrintMore Go.Proofs.YtameeejfkgoheaaW
set_option linter.unusedVariables false
set_option linter.unusedSimpArgs false
structure Cm where
  e0 : Int
  e1 : Int
  gen : Int
  ps : List Id
  kind : Int
  key : ByteArray
  elem : ByteArray
  num : Int
deriving DecidableEq
instance : Inhabited Cm := ⟨⟨0, 0, 0, [], 0, default, default, 0⟩⟩
/-- its eight cells, its parents' slice being v -/
def cellsC (x : Cm) (v : Value) : List Value := [.int .i64 x.e0, .int .i64 x.e1, .int .i64 x.gen, v, .int .i64 x.kind, .string x.key, .string x.elem, .int .i64 x.num]
theorem cellsC_one {x : Cm} {A : Option Addr} {n c : Nat} : ∀ u ∈ cellsC x (.slice A n c), u.oneCell' = true := by
  intro u hu
  simp only [cellsC, List.mem_cons, List.not_mem_nil, or_false] at hu
  rcases hu with rfl | rfl | rfl | rfl | rfl | rfl | rfl | rfl <;> rfl
def kC : Kd Cm where
  sz := 8
  E := [71]
  K := fun w x cs => ∃ A c, cs = cellsC x (.slice A x.ps.length c) ∧ x.ps.length ≤ c ∧ kI.C w A x.ps.length x.ps
  M := fun w base ok x cs => ∃ v, cs = cellsC x v ∧ kI.R 71 w base ok v x.ps
  K_len := by
    rintro w x cs ⟨A, c, rfl, _⟩
    rfl
  K_one := by
    rintro w x cs ⟨A, c, rfl, _⟩ u hu
    exact cellsC_one u hu
  K_below := by
    rintro w w1 x cs hb ⟨A, c, rfl, hl, hr⟩
    exact ⟨A, c, rfl, hl, Kd.C_below hr hb⟩
  K_of_M := by
    rintro w base ok x cs ⟨v, rfl, h⟩
    obtain ⟨A, c, rfl, hl, hr⟩ := Kd.R_reads h
    exact ⟨A, c, rfl, hl, hr⟩
  M_mono := by
    rintro w base ok ok' x cs hok ⟨v, rfl, h⟩
    exact ⟨v, rfl, Kd.R_mono h hok⟩
  M_bound := by
    rintro w base ok x cs ⟨v, rfl, h⟩
    exact ⟨v, rfl, Kd.R_bound h⟩
  M_move := by
    rintro w w1 base ok x cs hm ⟨v, rfl, h⟩
    exact ⟨v, rfl, Kd.R_move h hm⟩
  M_lower := by
    rintro w base base' ok x cs hb ⟨v, rfl, h⟩
    exact ⟨v, rfl, Kd.R_lower h hb⟩
def rdC (l : List Cm) (i : Nat) : Cm := l.getD i default
theorem rdC_at (l : List Cm) (k : Nat) (h : k < l.length) : rdC l k = l[k] := by
  simp [rdC, List.getD_eq_getElem?_getD, List.getElem?_eq_getElem h]
/-- eight cells that are a commit's -/
def CmAt (w : World) (b o : Nat) (x : Cm) (A : Option Addr) (c : Nat) : Prop :=
  (w.cell? ⟨b, o, none⟩ = some (.int .i64 x.e0) ∧ w.cell? ⟨b, o + 1, none⟩ = some (.int .i64 x.e1) ∧ w.cell? ⟨b, o + 2, none⟩ = some (.int .i64 x.gen) ∧ w.cell? ⟨b, o + 3, none⟩ = some (.slice A x.ps.length c) ∧
    w.cell? ⟨b, o + 4, none⟩ = some (.int .i64 x.kind) ∧ w.cell? ⟨b, o + 5, none⟩ = some (.string x.key) ∧ w.cell? ⟨b, o + 6, none⟩ = some (.string x.elem) ∧ w.cell? ⟨b, o + 7, none⟩ = some (.int .i64 x.num)) ∧
  x.ps.length ≤ c ∧ kI.C w A x.ps.length x.ps
/-- an element of a row of commits -/
theorem at_C {w : World} {A : Option Addr} {n : Nat} {xs : List Cm} (h : Kd.C kC w A n xs) (i : Nat) (hi : i < n) : ∃ b o B c, A = some ⟨b, o, none⟩ ∧ CmAt w b (o + i * 8) (rdC xs i) B c := by
  obtain ⟨hl, _, hr⟩ := h
  obtain ⟨ad, e, hc⟩ := hr (by omega)
  have hi' : i < xs.length := by omega
  obtain ⟨cs, hcl, ⟨B, cc, rfl, hle, hps⟩, hcell⟩ := hc i _ (List.getElem?_eq_getElem hi')
  obtain ⟨cs0, hcl0, ⟨B0, cc0, rfl, hle0, hps0⟩, hcell0⟩ := hc 0 _ (List.getElem?_eq_getElem (show 0 < xs.length by omega))
  have hn : ad.spot = none := by
    have h0 := hcell0 0 (.int .i64 xs[0].e0) rfl
    simp only [Nat.zero_mul, Nat.add_zero] at h0
    have h1 : ad.add 0 = ad := by unfold Addr.add; rw [if_pos rfl]
    rw [h1] at h0
    unfold World.cell? at h0
    cases hsp : ad.spot with
    | none => rfl
    | some s =>
      rw [hsp] at h0
      revert h0
      split <;> simp
  obtain ⟨b, o, sp⟩ := ad
  cases hn
  have hg : ∀ (j : Nat) (v : Value), (cellsC xs[i] (.slice B xs[i].ps.length cc))[j]? = some v → w.cell? ⟨b, o + i * 8 + j, none⟩ = some v := fun j v hv => by
    have := hcell j v hv
    rw [add_off] at this
    rw [Nat.add_assoc]
    exact this
  refine ⟨b, o, B, cc, e, ?_⟩
  rw [rdC_at xs i hi']
  exact ⟨⟨hg 0 _ rfl, hg 1 _ rfl, hg 2 _ rfl, hg 3 _ rfl, hg 4 _ rfl, hg 5 _ rfl, hg 6 _ rfl, hg 7 _ rfl⟩, hle, hps⟩
theorem CmAt.below {w w1 : World} {b o : Nat} {x : Cm} {A : Option Addr} {c : Nat} (h : CmAt w b o x A c) (hb : Below w.heap.size w w1) : CmAt w1 b o x A c := by
  obtain ⟨⟨h0, h1, h2, h3, h4, h5, h6, h7⟩, hl, hC⟩ := h
  exact ⟨⟨pw_cell_below hb h0, pw_cell_below hb h1, pw_cell_below hb h2, pw_cell_below hb h3, pw_cell_below hb h4, pw_cell_below hb h5, pw_cell_below hb h6, pw_cell_below hb h7⟩, hl, Kd.C_below hC hb⟩
theorem CmAt.drew {w : World} {b o : Nat} {x : Cm} {A : Option Addr} {c : Nat} (h : CmAt w b o x A c) : CmAt w.drew b o x A c := h.below (below_drew (Below.refl _ _))
/-- a row of bytes that is read -/
def bytesV (l : List UInt8) : List Value := l.map cellI
end Go.Proofs.Ytameeejfkgoheaa.P
