/- The law anabranchlaw08.PairTells holds: for every input it returns true, and each argument reads behind the call as it read before. Out of the printed walk and the pure theorem. -/
import Derived.Test.YtannmdngejdjkaaRows
import Derived.Test.YtannmdngejdjkaaLx44
import Derived.Test.YtannmdngejdjkaaLHRow
import Derived.Test.YtannmdngejdjkaaLPurePairTells
import Derived.WalkKit
import Derived.ProofKit
import Derived.OpenShut
import Derived.ShutString
import Derived.ChangeOld
import Derived.Below
import Derived.SizedLaws
namespace Go.Proofs.Ytannmdngejdjkaa.pairTells
open Go.ChangeShapes Go.WideShapes Go.ChangeAt Go.RowKit Go.Proofs.Ytannmdngejdjkaa.L
open Go.ChangeMaps (open_string shut_string)
set_option linter.unusedVariables false
theorem own : ownKnob Try.prog.godebug = none := by kernel_rfl
theorem laidOut : laidOutB Try.prog = true := by kernel_rfl
set_option maxRecDepth 100000 in
theorem lifted (os : Os) (started : os.Started) (H : Type) (enc : TypeId × Value → H) :
    ReturnsInHanded {} Try.checked os 14 .any (Rows.pairTellsSpec.pre6 enc Try.prog Try.f14 Rows.pairTellsRow.domain false) (Rows.pairTellsSpec.post enc Try.prog Try.f14 false true false false) := by
  refine returnsInHanded_of_change_sized (C := Try.checked) own started (by kernel_rfl) Try.func14
    (ChangeSpec.witness6 (enc := enc) (C := Try.checked) false ⟨#[], #[.slice none 0 0, .slice none 0 0, .slice none 0 0, .agg #[.string ByteArray.empty, .string ByteArray.empty, .int .i64 0, .int .i64 0]], []⟩ 8 (by kernel_rfl) (by kernel_rfl) (by kernel_rfl) (by kernel_rfl)) ?_
  intro W base args ds gs before hval0 hW hcnd hsz0 _
  have hsz : (DataW.weightsEach Try.prog (Try.f14.params.toList ++ Rows.pairTellsSpec.plain.varTypes Try.prog) (ds ++ gs)).all (· ≤ reachBytes) = true := hsz0
  have hval : ∀ (j : Nat) t v, Try.f14.params[j]? = some t → args[j]? = some v → Value.okWide Try.prog W .any base t v := hval0
  have hW' := hW
  obtain ⟨p, q, hA0, hV, rfl, hfz, hnd⟩ := hW
  have hA : DataW.TrodAll enc Try.prog W 0 (fun _ => true) true Try.f14.params.toList args.toList ds p := hA0
  rw [Try.params14] at hA hval hsz
  obtain ⟨v0, vs0, d0, ds0, p0, q0, hargs, rfl, rfl, h0, r0⟩ := trodAll_cons hA
  obtain ⟨v1, vs1, d1, ds1, p1, q1, rfl, rfl, rfl, h1, r1⟩ := trodAll_cons r0
  obtain ⟨v2, vs2, d2, ds2, p2, q2, rfl, rfl, rfl, h2, r2⟩ := trodAll_cons r1
  obtain ⟨v3, vs3, d3, ds3, p3, q3, rfl, rfl, rfl, h3, r3⟩ := trodAll_cons r2
  obtain ⟨rfl, rfl, rfl⟩ := trodAll_nil r3
  obtain rfl : args = #[v0, v1, v2, v3] := by cases args; simp_all
  obtain ⟨rfl, rfl⟩ := trodVars_none hV
  have k0 := h0
  have lt0 : ∀ x ∈ p0, x.block < W.heap.size := by obtain ⟨m, hm⟩ := k0; exact DataW.trod_lt m _ _ _ hm
  obtain ⟨a0, len0, cap0, rfl⟩ := okWide_slice Try.underlying55 (hval 0 55 v0 rfl rfl)
  obtain ⟨l0, hl0, hc0, hC0, hok0⟩ := open_row (d := k57) (ok := okPair) Try.underlying55 (by kernel_rfl) (by decide) (fun _ _ _ h => by obtain ⟨r, e, hr⟩ := open_pair h; exact ⟨r, by rw [e]; exact k57_mk _ r, hr⟩) h0
  subst hl0
  have k1 := h1
  have lt1 : ∀ x ∈ p1, x.block < W.heap.size := by obtain ⟨m, hm⟩ := k1; exact DataW.trod_lt m _ _ _ hm
  obtain ⟨a1, len1, cap1, rfl⟩ := okWide_slice Try.underlying55 (hval 1 55 v1 rfl rfl)
  obtain ⟨l1, hl1, hc1, hC1, hok1⟩ := open_row (d := k57) (ok := okPair) Try.underlying55 (by kernel_rfl) (by decide) (fun _ _ _ h => by obtain ⟨r, e, hr⟩ := open_pair h; exact ⟨r, by rw [e]; exact k57_mk _ r, hr⟩) h1
  subst hl1
  have k2 := h2
  have lt2 : ∀ x ∈ p2, x.block < W.heap.size := by obtain ⟨m, hm⟩ := k2; exact DataW.trod_lt m _ _ _ hm
  obtain ⟨a2, len2, cap2, rfl⟩ := okWide_slice Try.underlying55 (hval 2 55 v2 rfl rfl)
  obtain ⟨l2, hl2, hc2, hC2, hok2⟩ := open_row (d := k57) (ok := okPair) Try.underlying55 (by kernel_rfl) (by decide) (fun _ _ _ h => by obtain ⟨r, e, hr⟩ := open_pair h; exact ⟨r, by rw [e]; exact k57_mk _ r, hr⟩) h2
  subst hl2
  have k3 := h3
  have lt3 : ∀ x ∈ p3, x.block < W.heap.size := by obtain ⟨m, hm⟩ := k3; exact DataW.trod_lt m _ _ _ hm
  obtain ⟨cs3, rfl, _⟩ := okWide_struct Try.underlying57 (hval 3 57 v3 rfl rfl)
  obtain ⟨r3_, e3, hok3⟩ : ∃ r : S57, cs3.toList = [.string r.f0, .string r.f1, .int .i64 r.f2.f0, .int .i64 r.f2.f1] ∧ okPair r := by
    obtain ⟨fuel, hf⟩ := h3
    exact open_pair hf
  obtain rfl : cs3 = #[.string r3_.f0, .string r3_.f1, .int .i64 r3_.f2.f0, .int .i64 r3_.f2.f1] := by rw [← Array.toList_inj]; exact e3
  clear hA0 hval0 hsz0 hsz
  obtain ⟨k, hk⟩ := pairTells_pure l0 l1 l2 r3_.f0 r3_.f1 r3_.f2.f0 r3_.f2.f1 hok0 hok1 hok2 hok3
  refine (law08_PairTells.calls k a0 cap0 l0 a1 cap1 l1 a2 cap2 l2 r3_.f0 r3_.f1 r3_.f2.f0 r3_.f2.f1 true W hC0 hc0 hC1 hc1 hC2 hc2 hk).mono fun e W' ⟨he, bel⟩ => ?_
  subst he
  exact ⟨_, rfl, _, _, _, [], _, [], hW', trodAll_mk1 (shut_bool Try.underlying4 _), (trodAll_cons_mk (Below.trod laidOut (by kernel_rfl) (of_decide_eq_true (by kernel_rfl)) k0 bel lt0) (trodAll_cons_mk (Below.trod laidOut (by kernel_rfl) (of_decide_eq_true (by kernel_rfl)) k1 bel lt1) (trodAll_cons_mk (Below.trod laidOut (by kernel_rfl) (of_decide_eq_true (by kernel_rfl)) k2 bel lt2) (trodAll_cons_mk (Below.trod laidOut (by kernel_rfl) (of_decide_eq_true (by kernel_rfl)) k3 bel lt3) trodAll_mk0)))), rfl, bel.frame _, fun h => by cases h⟩
theorem over : Rows.pairTellsRow.holds Try.pinned (OpenSpec.ofChange Rows.pairTellsSpec) :=
  OpenClaim.holds_of_wide 14 Try.f14 rfl rfl rfl rfl rfl rfl rfl ⟨rfl, rfl, rfl, rfl, rfl⟩ rfl rfl rfl rfl rfl (by kernel_rfl) Try.func14 (by kernel_rfl)
    (of_decide_eq_true (by kernel_rfl)) (by unfold Func.isWrapper; first | (rw [if_pos (by decide +kernel)]; kernel_rfl) | (rw [if_neg (by decide +kernel)]; exact ⟨rfl, rfl⟩))
    (fun os started H enc _ => lifted os started H enc)
theorem proved : Rows.PairTellsSaid := over
#print axioms proved
end Go.Proofs.Ytannmdngejdjkaa.pairTells
namespace Go.Proofs.Ytannmdngejdjkaa
/-- The row, under a short name, for the claim. -/
theorem pairTells_holds : Rows.PairTellsSaid := pairTells.proved
end Go.Proofs.Ytannmdngejdjkaa
