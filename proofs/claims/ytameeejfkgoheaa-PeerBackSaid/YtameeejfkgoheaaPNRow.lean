/- A row's argument opened: a node. No walk. -/
import Derived.Test.YtameeejfkgoheaaPNRowI
import Derived.Test.YtameeejfkgoheaaPNNode
namespace Go.Proofs.Ytameeejfkgoheaa.P
open Go.RowKit Go.ChangeShapes Go.WideShapes Go.ChangeAt Go.Deep Go.Proofs.YtameeejfkgoheaaW.PrintWords Go.Proofs.YtameeejfkgoheaaW.PrintLast Go.Proofs.YtameeejfkgoheaaW.PrintMore Go.Proofs.YtameeejfkgoheaaW
set_option linter.unusedVariables false
set_option linter.unusedSimpArgs false
theorem len2 {α : Type} {l : List α} (h : l.length = 2) : ∃ x0 x1, l = [x0, x1] := by
  match l, h with | [a, b], _ => exact ⟨a, b, rfl⟩
theorem len4 {α : Type} {l : List α} (h : l.length = 4) : ∃ x0 x1 x2 x3, l = [x0, x1, x2, x3] := by
  match l, h with | [a, b, c, d], _ => exact ⟨a, b, c, d, rfl⟩
theorem len8 {α : Type} {l : List α} (h : l.length = 8) : ∃ x0 x1 x2 x3 x4 x5 x6 x7, l = [x0, x1, x2, x3, x4, x5, x6, x7] := by
  match l, h with | [a, b, c, d, e, f, g, i], _ => exact ⟨a, b, c, d, e, f, g, i, rfl⟩
theorem len10 {α : Type} {l : List α} (h : l.length = 10) : ∃ x0 x1 x2 x3 x4 x5 x6 x7 x8 x9, l = [x0, x1, x2, x3, x4, x5, x6, x7, x8, x9] := by
  match l, h with | [a, b, c, d, e, f, g, i, j, k], _ => exact ⟨a, b, c, d, e, f, g, i, j, k, rfl⟩
section
variable {H : Type} {enc : TypeId × Value → H} {w : World} {base : Nat} {spare : Nat → Bool} {held : Bool}
theorem open_rowF {α : Type} [Inhabited α] {d : Kd α} {t e : TypeId} (hu : Try.prog.underlying t = some (.slice e)) (hc : Try.prog.cellsOf e = d.sz) (hop : ∀ (fuel : Nat) (cs : List Value) (x : DataW H × List MemPlace), DataW.trod enc Try.prog w base spare held fuel e cs = some x → ∃ a, d.K w a cs)
    {fuel : Nat} {cs : List Value} {x : DataW H × List MemPlace} (hf : DataW.trod enc Try.prog w base spare held fuel t cs = some x) : ∃ A cap xs, cs = [.slice A xs.length cap] ∧ xs.length ≤ cap ∧ d.C w A xs.length xs := by
  rcases open_slice hu hf with ⟨hcs, _⟩ | ⟨a, len, cap, m, n, D, Pl, hcs, _, hl, hm, hmm, _, hx⟩
  · exact ⟨none, 0, [], hcs, Nat.le_refl _, Kd.C_nil d w⟩
  · have hle : len ≤ m := by rw [hmm]; split <;> omega
    obtain ⟨f, hf'⟩ := choose_lt (α := α) (n := len) (p := fun i a' => ∃ cs', w.cells? base (a.add (i * d.sz)) d.sz = some cs' ∧ d.K w a' cs') (fun i hi => by
      obtain ⟨cs', h1, h2⟩ := hx i (by omega)
      obtain ⟨a', h3⟩ := hop _ _ _ h2
      rw [hc] at h1
      exact ⟨a', cs', h1, h3⟩)
    have hlen : ((List.range len).map f).length = len := by simp
    refine ⟨some a, cap, (List.range len).map f, by rw [hlen]; exact hcs, by rw [hlen]; exact hl, ⟨rfl, by rw [hlen]; unfold maxLen at hm; omega, fun _ => ⟨a, rfl, fun j p hp => ?_⟩⟩⟩
    have hj : j < len := by
      have := (List.getElem?_eq_some_iff.1 hp).1
      simpa using this
    have hp' : f j = p := by
      rw [List.getElem?_map, List.getElem?_range hj] at hp
      simpa using hp
    subst hp'
    obtain ⟨cs', h1, h2⟩ := hf' j hj
    obtain ⟨_, h5, h6⟩ := World.cells?_some h1
    refine ⟨cs', h5, h2, fun i u hu => ?_⟩
    have hi := (List.getElem?_eq_some_iff.1 hu).1
    rw [← Deep.add_add, h6 i (by omega), hu]
theorem open_ev {fuel : Nat} {cs : List Value} {x : DataW H × List MemPlace} (h : DataW.trod enc Try.prog w base spare held fuel 57 cs = some x) : ∃ a b, cs = [.int .i64 a, .int .i64 b] := by
  obtain ⟨xs, n, _, _, hl, hlen, hf⟩ := DataW.trod_struct Try.underlying57 h
  rw [show Try.prog.cellsOf 57 = 2 by kernel_rfl] at hl
  have hi : Try.prog.cellsOf 3 = 1 := by kernel_rfl
  have hlen : xs.length = 2 := hlen
  obtain ⟨c0, c1, rfl⟩ := len2 hl
  obtain ⟨y0, y1, rfl⟩ := len2 hlen
  have h0 := hf 0 _ rfl
  have h1 := hf 1 _ rfl
  simp only [List.getElem_toArray, List.getElem_cons_zero, List.getElem_cons_succ, hi,  List.drop_zero, List.drop_succ_cons, List.take_succ_cons, List.take_zero, List.getElem?_cons_zero, List.getElem?_cons_succ] at h0 h1
  obtain ⟨a, e0, _, w0⟩ := DataW.trod_int Try.underlying3 h0
  obtain ⟨b, e1, _, w1⟩ := DataW.trod_int Try.underlying3 h1
  cases e0; cases e1
  exact ⟨a, b, rfl⟩
theorem open_op {fuel : Nat} {cs : List Value} {x : DataW H × List MemPlace} (h : DataW.trod enc Try.prog w base spare held fuel 60 cs = some x) : ∃ a b c d, cs = [.int .i64 a, .string b, .string c, .int .i64 d] := by
  obtain ⟨xs, n, _, _, hl, hlen, hf⟩ := DataW.trod_struct Try.underlying60 h
  rw [show Try.prog.cellsOf 60 = 4 by kernel_rfl] at hl
  have hi : Try.prog.cellsOf 3 = 1 := by kernel_rfl
  have hs : Try.prog.cellsOf 9 = 1 := by kernel_rfl
  have hlen : xs.length = 4 := hlen
  obtain ⟨c0, c1, c2, c3, rfl⟩ := len4 hl
  obtain ⟨y0, y1, y2, y3, rfl⟩ := len4 hlen
  have h0 := hf 0 _ rfl
  have h1 := hf 1 _ rfl
  have h2 := hf 2 _ rfl
  have h3 := hf 3 _ rfl
  simp only [List.getElem_toArray, List.getElem_cons_zero, List.getElem_cons_succ, hi, hs, List.drop_zero, List.drop_succ_cons, List.take_succ_cons, List.take_zero, List.getElem?_cons_zero, List.getElem?_cons_succ] at h0 h1 h2 h3
  obtain ⟨a, e0, _, w0⟩ := DataW.trod_int Try.underlying3 h0
  obtain ⟨b, e1, _, w1⟩ := DataW.trod_string Try.underlying9 h1
  obtain ⟨c, e2, _, w2⟩ := DataW.trod_string Try.underlying9 h2
  obtain ⟨d, e3, _, w3⟩ := DataW.trod_int Try.underlying3 h3
  cases e0; cases e1; cases e2; cases e3
  exact ⟨a, b, c, d, rfl⟩
theorem open_ps {fuel : Nat} {cs : List Value} {x : DataW H × List MemPlace} (h : DataW.trod enc Try.prog w base spare held fuel 58 cs = some x) : ∃ A cap xs, cs = [.slice A xs.length cap] ∧ xs.length ≤ cap ∧ kI.C w A xs.length xs :=
  open_rowF (d := kI) Try.underlying58 (by kernel_rfl) (fun _ _ _ h => by obtain ⟨i, hi, e⟩ := open_idc h; exact ⟨i, e, hi⟩) h
theorem open_cm {fuel : Nat} {cs : List Value} {x : DataW H × List MemPlace} (h : DataW.trod enc Try.prog w base spare held fuel 62 cs = some x) : ∃ c : Cm, kC.K w c cs := by
  obtain ⟨xs, n, _, _, hl, hlen, hf⟩ := DataW.trod_struct Try.underlying62 h
  rw [show Try.prog.cellsOf 62 = 8 by kernel_rfl] at hl
  have hi : Try.prog.cellsOf 3 = 1 := by kernel_rfl
  have he : Try.prog.cellsOf 57 = 2 := by kernel_rfl
  have hp : Try.prog.cellsOf 58 = 1 := by kernel_rfl
  have ho : Try.prog.cellsOf 60 = 4 := by kernel_rfl
  have hlen : xs.length = 4 := hlen
  obtain ⟨c0, c1, c2, c3, c4, c5, c6, c7, rfl⟩ := len8 hl
  obtain ⟨y0, y1, y2, y3, rfl⟩ := len4 hlen
  have h0 := hf 0 _ rfl
  have h1 := hf 1 _ rfl
  have h2 := hf 2 _ rfl
  have h3 := hf 3 _ rfl
  simp only [List.getElem_toArray, List.getElem_cons_zero, List.getElem_cons_succ, hi, he, hp, ho, List.drop_zero, List.drop_succ_cons, List.take_succ_cons, List.take_zero, List.getElem?_cons_zero, List.getElem?_cons_succ] at h0 h1 h2 h3
  obtain ⟨a, b, e0⟩ := open_ev h0
  obtain ⟨g, e1, _, w1⟩ := DataW.trod_int Try.underlying3 h1
  obtain ⟨A, cap, ps, e2, hcap, hC⟩ := open_ps h2
  obtain ⟨k, s, t, m, e3⟩ := open_op h3
  cases e0; cases e1; cases e2; cases e3
  exact ⟨⟨a, b, g, ps, k, s, t, m⟩, A, cap, rfl, hcap, hC⟩
theorem open_by {fuel : Nat} {cs : List Value} {x : DataW H × List MemPlace} (h : DataW.trod enc Try.prog w base spare held fuel 34 cs = some x) : ∃ A cap xs, cs = [.slice A xs.length cap] ∧ xs.length ≤ cap ∧ kB.C w A xs.length xs :=
  open_rowF (d := kB) Try.underlying34 (by kernel_rfl) (fun _ cs _ h => by
    obtain ⟨m, e, _, hw⟩ := DataW.trod_int Try.underlying5 h
    simp only [Lit.wf, Bool.and_eq_true, decide_eq_true_eq] at hw
    simp [IntKind.min, IntKind.max, IntKind.signed, IntKind.bits] at hw
    refine ⟨UInt8.ofNat m.toNat, ?_⟩
    show cs = [cellI (UInt8.ofNat m.toNat)]
    rw [e]
    simp only [cellI, List.cons.injEq, and_true, Value.int.injEq, true_and]
    rw [UInt8.toNat_ofNat']
    omega) h
theorem open_pe {fuel : Nat} {cs : List Value} {x : DataW H × List MemPlace} (h : DataW.trod enc Try.prog w base spare held fuel 28 cs = some x) : ∃ A cap xs, cs = [.slice A xs.length cap] ∧ xs.length ≤ cap ∧ kP.C w A xs.length xs :=
  open_rowF (d := kP) Try.underlying28 (by kernel_rfl) (fun _ cs _ h => by
    obtain ⟨m, e, _, hw⟩ := DataW.trod_int Try.underlying3 h
    exact ⟨m, e⟩) h
theorem open_cs {fuel : Nat} {cs : List Value} {x : DataW H × List MemPlace} (h : DataW.trod enc Try.prog w base spare held fuel 35 cs = some x) : ∃ A cap xs, cs = [.slice A xs.length cap] ∧ xs.length ≤ cap ∧ kC.C w A xs.length xs :=
  open_rowF (d := kC) Try.underlying35 (by kernel_rfl) (fun _ cs _ h => open_cm h) h
theorem open_nd {fuel : Nat} {cs : List Value} {x : DataW H × List MemPlace} (h : DataW.trod enc Try.prog w base spare held fuel 37 cs = some x) : ∃ n : Nd, NodeIs w cs n := by
  obtain ⟨xs, n, _, _, hl, hlen, hf⟩ := DataW.trod_struct Try.underlying37 h
  rw [show Try.prog.cellsOf 37 = 10 by kernel_rfl] at hl
  have hi : Try.prog.cellsOf 3 = 1 := by kernel_rfl
  have hb : Try.prog.cellsOf 4 = 1 := by kernel_rfl
  have hy : Try.prog.cellsOf 34 = 1 := by kernel_rfl
  have hc : Try.prog.cellsOf 35 = 1 := by kernel_rfl
  have hp : Try.prog.cellsOf 28 = 1 := by kernel_rfl
  have hlen : xs.length = 10 := hlen
  obtain ⟨c0, c1, c2, c3, c4, c5, c6, c7, c8, c9, rfl⟩ := len10 hl
  obtain ⟨y0, y1, y2, y3, y4, y5, y6, y7, y8, y9, rfl⟩ := len10 hlen
  have h0 := hf 0 _ rfl
  have h1 := hf 1 _ rfl
  have h2 := hf 2 _ rfl
  have h3 := hf 3 _ rfl
  have h4 := hf 4 _ rfl
  have h5 := hf 5 _ rfl
  have h6 := hf 6 _ rfl
  have h7 := hf 7 _ rfl
  have h8 := hf 8 _ rfl
  have h9 := hf 9 _ rfl
  simp only [List.getElem_toArray, List.getElem_cons_zero, List.getElem_cons_succ, hi, hb, hy, hc, hp, List.drop_zero, List.drop_succ_cons, List.take_succ_cons, List.take_zero, List.getElem?_cons_zero, List.getElem?_cons_succ] at h0 h1 h2 h3 h4 h5 h6 h7 h8 h9
  obtain ⟨a0, e0, _, _⟩ := DataW.trod_int Try.underlying3 h0
  obtain ⟨A1, p1, l1, e1, q1, C1⟩ := open_by h1
  obtain ⟨a2, e2, _, _⟩ := DataW.trod_int Try.underlying3 h2
  obtain ⟨A3, p3, l3, e3, q3, C3⟩ := open_cs h3
  obtain ⟨A4, p4, l4, e4, q4, C4⟩ := open_cs h4
  obtain ⟨a5, e5, _, _⟩ := DataW.trod_int Try.underlying3 h5
  obtain ⟨a6, e6, _⟩ := DataW.trod_bool Try.underlying4 h6
  obtain ⟨A7, p7, l7, e7, q7, C7⟩ := open_pe h7
  obtain ⟨a8, e8, _, _⟩ := DataW.trod_int Try.underlying3 h8
  obtain ⟨a9, e9, _, _⟩ := DataW.trod_int Try.underlying3 h9
  cases e0; cases e1; cases e2; cases e3; cases e4; cases e5; cases e6; cases e7; cases e8; cases e9
  exact ⟨⟨a0, l1, a2, l3, l4, a5, a6, l7, a8, a9⟩, A1, p1, A3, p3, A4, p4, A7, p7, rfl, C1, C3, C4, C7, q7⟩
end
end Go.Proofs.Ytameeejfkgoheaa.P
