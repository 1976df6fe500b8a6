/- Ids: are two the same; rows of them. Plain. -/
import Derived.Test.YtameeejfkgoheaaPNKey
import Derived.RegionTactic
import Derived.Maps.RangeWalk
import Derived.Deep.RegionHeld3
import Derived.Deep.RegionHeld
import Derived.Deep.RegionLaw
import Derived.DeepKeys
namespace Go.Proofs.Ytameeejfkgoheaa.P
open Go.RowKit Go.Maps Go.Proofs.YtameeejfkgoheaaW.PrintWords Go.Proofs.YtameeejfkgoheaaW.PrintLast Go.Proofs.YtameeejfkgoheaaW.PrintMore Go.Proofs.YtameeejfkgoheaaW
set_option linter.unusedVariables false
set_option linter.unusedSimpArgs false
set_option maxRecDepth 100000 in
theorem eq_I {x y : Id} (hx : okId x) (hy : okId y) (w : World) : (Op.equal 71 (valI x) (valI y)).run Try.prog w = .ok (decide (x = y)) w := by
  obtain ⟨r, h1, h2⟩ := run_equal_deep (P := Try.prog) w (m := 2) (by omega) (k := 71) (by kernel_rfl) (by rw [Try.underlying71]) (keyOf_I hx) (keyOf_I hy)
  rw [h1]
  congr 1
  have h3 : r = true ↔ x = y := h2.trans ⟨fun e => by injection e, fun e => by rw [e]⟩
  cases r with
  | true => exact (decide_eq_true (h3.1 rfl)).symm
  | false => exact (decide_eq_false (fun e => by cases h3.2 e)).symm
theorem eqIn_I {x y : Id} (hx : okId x) (hy : okId y) : ∀ w : World, (Op.equalIn 10000 71 (valI x) (valI y)).run Try.prog w = .ok (decide (x = y)) w := fun w => eq_I hx hy w
theorem C_ok {w : World} {A : Option Addr} {n : Nat} {xs : List Id} (h : Kd.C kI w A n xs) : ∀ x ∈ xs, okId x := by
  intro x hx
  obtain ⟨i, hi, rfl⟩ := List.getElem_of_mem hx
  obtain ⟨b, o, _, _, hok⟩ := at_I h i (by have := h.1; omega)
  rwa [rdI_at xs i hi] at hok
abbrev rowI (l : List Id) : List Value := l.flatMap cellsI
theorem rowI_length {l : List Id} (h : ∀ x ∈ l, okId x) : (rowI l).length = l.length * 32 := by
  induction l with
  | nil => rfl
  | cons x l ih =>
    have h1 := ih (fun y hy => h y (List.mem_cons_of_mem _ hy))
    unfold rowI at h1 ⊢
    rw [List.flatMap_cons, List.length_append, cellsI_ok (h x List.mem_cons_self), h1, List.length_cons]; omega
theorem reps_I {R : Id → List Value → Prop} (hR : ∀ x, okId x → R x (cellsI x)) : ∀ l : List Id, (∀ x ∈ l, okId x) → Reps R 32 l (rowI l)
  | [], _ => ⟨rfl, fun j p hj => by simp at hj⟩
  | x :: l, hok => by
    have hx := hok x List.mem_cons_self
    have hcl := cellsI_ok hx
    have ih := reps_I hR l (fun y hy => hok y (List.mem_cons_of_mem _ hy))
    refine ⟨rowI_length hok, fun j p hj => ?_⟩
    unfold rowI
    rw [List.flatMap_cons]
    match j with
    | 0 =>
      obtain rfl : x = p := by simpa using hj
      rw [Nat.zero_mul, List.drop_zero, ← hcl, List.take_left]
      exact hR x hx
    | j + 1 =>
      have := ih.2 j p (by simpa using hj)
      rw [show (j + 1) * 32 = (cellsI x).length + j * 32 by rw [hcl]; omega, List.drop_length_add_append]
      exact this
theorem own_C {w : World} {base c : Nat} {A : Option Addr} {l : List Id} (h : w.ownsRow base 71 32 (.slice A l.length c) l.length (rowI l)) (hok : ∀ x ∈ l, okId x) : Kd.C kI w A l.length l := by
  obtain ⟨A', c', e, hr⟩ := own_reads_row (R := kI.K w) h (reps_I (fun x hx => ⟨rfl, hx⟩) l hok) rfl
  injection e with e
  subst e
  exact hr
end Go.Proofs.Ytameeejfkgoheaa.P
