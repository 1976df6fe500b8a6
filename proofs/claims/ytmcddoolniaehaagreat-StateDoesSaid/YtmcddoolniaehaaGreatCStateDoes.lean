/- The law anabranchlaw09.StateDoes holds: for every input it returns true, and each argument reads behind the call as it read before. -/
import Derived.Test.YtmcddoolniaehaaGreatRows
import Derived.WalkKit
import Derived.ProofKit
import Derived.OpenShut
import Derived.ShutString
import Derived.ChangeOld
import Derived.Below
import Derived.SizedLaws
import Derived.Test.YtmcddoolniaehaaGreatMD20
import Derived.Test.YtmcddoolniaehaaGreatMD29
namespace Go.Proofs.YtmcddoolniaehaaGreat.stateDoes
open Go.ChangeShapes Go.WideShapes Go.ChangeAt Go.RowKit Go.Proofs.YtmcddoolniaehaaGreat.S
open Go.ChangeMaps (open_string shut_string)
set_option linter.unusedVariables false
theorem own : ownKnob Tryz.prog.godebug = none := by kernel_rfl
theorem laidOut : laidOutB Tryz.prog = true := by kernel_rfl
set_option maxRecDepth 100000 in
theorem lifted (os : Os) (started : os.Started) (H : Type) (enc : TypeId × Value → H) :
    ReturnsInHanded {} Tryz.checked os 3 .any (Rows.stateDoesSpec.pre6 enc Tryz.prog Tryz.f3 Rows.stateDoesRow.domain false) (Rows.stateDoesSpec.post enc Tryz.prog Tryz.f3 false true false false) := by
  refine returnsInHanded_of_change_sized (C := Tryz.checked) own started (by kernel_rfl) Tryz.func3
    (ChangeSpec.witness6 (enc := enc) (C := Tryz.checked) false ⟨#[], #[.agg #[.slice none 0 0, .slice none 0 0, .slice none 0 0], .agg #[.int .i64 0, .string ⟨#[]⟩, .string ⟨#[]⟩, .int .i64 0], .agg #[.int .i64 0, .int .i64 0], .int .i64 0], []⟩ 8 (by kernel_rfl) (by kernel_rfl) (by kernel_rfl) (by kernel_rfl)) ?_
  intro W base args ds gs before hval0 hW hcnd hsz0 _
  have hval : ∀ (j : Nat) t v, Tryz.f3.params[j]? = some t → args[j]? = some v → Value.okWide Tryz.prog W .any base t v := hval0
  have hW' := hW
  obtain ⟨p, q, hA0, hV, rfl, hfz, hnd⟩ := hW
  have hA : DataW.TrodAll enc Tryz.prog W 0 (fun _ => true) true Tryz.f3.params.toList args.toList ds p := hA0
  rw [Tryz.params3] at hA hval
  obtain ⟨v0, vs0, d0, ds0, p0, q0, hargs, rfl, rfl, h0, r0⟩ := trodAll_cons hA
  obtain ⟨v1, vs1, d1, ds1, p1, q1, rfl, rfl, rfl, h1, r1⟩ := trodAll_cons r0
  obtain ⟨v2, vs2, d2, ds2, p2, q2, rfl, rfl, rfl, h2, r2⟩ := trodAll_cons r1
  obtain ⟨v3, vs3, d3, ds3, p3, q3, rfl, rfl, rfl, h3, r3⟩ := trodAll_cons r2
  obtain ⟨rfl, rfl, rfl⟩ := trodAll_nil r3
  obtain rfl : args = #[v0, v1, v2, v3] := by cases args; simp_all
  obtain ⟨rfl, rfl⟩ := trodVars_none hV
  have k0 := h0
  have lt0 : ∀ x ∈ p0, x.block < W.heap.size := by obtain ⟨m, hm⟩ := k0; exact DataW.trod_lt m _ _ _ hm
  obtain ⟨cs0, rfl, _⟩ := okWide_struct Tryz.underlying26 (hval 0 26 v0 rfl rfl)
  obtain ⟨L0, rfl⟩ : ∃ L : List Value, cs0 = L.toArray := ⟨cs0.toList, by simp⟩
  obtain ⟨n0, hn0, ho0, hi0⟩ : ∃ s : St, StV W L0 s ∧ okL s.p ∧ inL s.c := by
    obtain ⟨fuel, hf⟩ := h0
    exact open_st (by simpa [Value.cells] using hf)
  have k1 := h1
  have lt1 : ∀ x ∈ p1, x.block < W.heap.size := by obtain ⟨m, hm⟩ := k1; exact DataW.trod_lt m _ _ _ hm
  obtain ⟨cs1, rfl, _⟩ := okWide_struct Tryz.underlying28 (hval 1 28 v1 rfl rfl)
  obtain ⟨L1, rfl⟩ : ∃ L : List Value, cs1 = L.toArray := ⟨cs1.toList, by simp⟩
  obtain ⟨a1, b1, c1, d1, hl1, wa1, wb1, wc1, wd1⟩ : ∃ a b c d, L1 = [.int .i64 a, .string b, .string c, .int .i64 d] ∧ okI a ∧ okT b ∧ okT c ∧ okI d := by
    obtain ⟨fuel, hf⟩ := h1
    exact open_op (by simpa [Value.cells] using hf)
  subst hl1
  have k2 := h2
  have lt2 : ∀ x ∈ p2, x.block < W.heap.size := by obtain ⟨m, hm⟩ := k2; exact DataW.trod_lt m _ _ _ hm
  obtain ⟨cs2, rfl, _⟩ := okWide_struct Tryz.underlying30 (hval 2 30 v2 rfl rfl)
  obtain ⟨L2, rfl⟩ : ∃ L : List Value, cs2 = L.toArray := ⟨cs2.toList, by simp⟩
  obtain ⟨a2, b2, hl2, wa2, wb2⟩ : ∃ a b, L2 = [.int .i64 a, .int .i64 b] ∧ okI a ∧ okI b := by
    obtain ⟨fuel, hf⟩ := h2
    exact open_ints2 (by simpa [Value.cells] using hf)
  subst hl2
  obtain ⟨a3, rfl, rfl, rfl, w3⟩ := open_int Tryz.underlying3 (hval 3 3 v3 rfl rfl) h3
  clear hA0 hval0 hsz0
  refine (does_calls L0 n0 a1 b1 c1 d1 a2 b2 a3 W hn0 ho0 hi0 wb1 wc1).mono fun e W' ⟨he, bel⟩ => ?_
  subst he
  exact ⟨_, rfl, _, _, _, [], _, [], hW', trodAll_mk1 (shut_bool Tryz.underlying4 _), (trodAll_cons_mk (Below.trod laidOut (by kernel_rfl) (of_decide_eq_true (by kernel_rfl)) k0 bel lt0) (trodAll_cons_mk (Below.trod laidOut (by kernel_rfl) (of_decide_eq_true (by kernel_rfl)) k1 bel lt1) (trodAll_cons_mk (Below.trod laidOut (by kernel_rfl) (of_decide_eq_true (by kernel_rfl)) k2 bel lt2) (trodAll_cons_mk (shut_int Tryz.underlying3 w3) trodAll_mk0)))), rfl, bel.frame _, fun h => by cases h⟩
theorem over : Rows.stateDoesRow.holds Tryz.pinned (OpenSpec.ofChange Rows.stateDoesSpec) :=
  OpenClaim.holds_of_wide 3 Tryz.f3 rfl rfl rfl rfl rfl rfl rfl ⟨rfl, rfl, rfl, rfl, rfl⟩ rfl rfl rfl rfl rfl (by kernel_rfl) Tryz.func3 (by kernel_rfl)
    (of_decide_eq_true (by kernel_rfl)) (by unfold Func.isWrapper; first | (rw [if_pos (by decide +kernel)]; kernel_rfl) | (rw [if_neg (by decide +kernel)]; exact ⟨rfl, rfl⟩))
    (fun os started H enc _ => lifted os started H enc)
theorem proved : Rows.StateDoesSaid := over
#print axioms proved
end Go.Proofs.YtmcddoolniaehaaGreat.stateDoes
namespace Go.Proofs.YtmcddoolniaehaaGreat
/-- The row, under a short name, for the claim. -/
theorem stateDoes_holds : Rows.StateDoesSaid := stateDoes.proved
end Go.Proofs.YtmcddoolniaehaaGreat
