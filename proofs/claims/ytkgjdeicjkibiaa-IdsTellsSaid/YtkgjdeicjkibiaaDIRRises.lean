/- ref04.Rises. By hand. -/
import Derived.Test.YtkgjdeicjkibiaaDIHas
import Derived.Test.YtkgjdeicjkibiaaDIRises
import Derived.Test.YtkgjdeicjkibiaaDIRLess
namespace Go.Proofs.Ytkgjdeicjkibiaa.D
open Go.RowKit Go.Maps Go.Proofs.YtkgjdeicjkibiaaW.PrintWords Go.Proofs.YtkgjdeicjkibiaaW.PrintLast Go.Proofs.YtkgjdeicjkibiaaW.PrintMore Go.Proofs.YtkgjdeicjkibiaaW
set_option linter.unusedVariables false
set_option linter.unusedSimpArgs false
set_option maxHeartbeats 4000000 in
set_option maxRecDepth 100000 in
theorem rrises_calls (A0 : Option Addr) (c0 : Nat) (l : List Id) (w : World) (hr0 : Kd.C kI w A0 l.length l) :
    Calls Try.prog 24 #[.slice A0 l.length c0] w fun e w' => e = .returned (.bool (risesI l)) ∧ Below w.heap.size w w' := by
  have HR := Aside0.mk hr0
  have HL := Aside0.mk hr0.2.1
  clear hr0
  generalize hQ : risesI l = Q
  have HQ := Aside0.mk hQ
  clear hQ
  go_enter Try.func24, Try.ntmps24
  go_wp2
  go_loopw [3] (fun i wr => ∃ k : Nat, 1 ≤ k ∧ (k ≤ l.length ∨ k = 1) ∧ i = .int .i64 k ∧ Aside0 (upTo l k) ∧ Aside0 (Below w.heap.size w wr)) (fun i _ => l.length - (intOf i).toNat)
  case atStart => exact ⟨1, Nat.le_refl _, .inr rfl, rfl, ⟨fun i hi => by omega⟩, ⟨Below.refl _ _⟩⟩
  case round =>
    obtain ⟨k, hk1, hk, rfl, hU, HB⟩ := hrel
    by_cases hlt : k < l.length
    · obtain ⟨b0, o0, rfl, hy0, hoky⟩ := at_I HR.out k hlt
      obtain ⟨b1, o1, e1, hx0, hokx⟩ := at_I HR.out (k - 1) (by omega)
      cases e1
      have HX : Aside0 (wr.rangeAt b0 (o0 + (k - 1) * 32) (cellsI (rdI l (k - 1)))) := ⟨range_below hx0 HB.out⟩
      have HY : Aside0 (wr.rangeAt b0 (o0 + k * 32) (cellsI (rdI l k))) := ⟨range_below hy0 HB.out⟩
      have hl63 := HL.out
      have HN2 : Aside0 (ltI (rdI l (k - 1)) (rdI l k) = true → upTo l (k + 1)) := ⟨fun h i hi => by
        by_cases q : i < k - 1
        · exact hU.out i q
        · have : i = k - 1 := by omega
          subst this
          rw [show k - 1 + 1 = k by omega]; exact h⟩
      have HM : Aside0 (ltI (rdI l (k - 1)) (rdI l k) = false → Q = false) := ⟨fun h => by
        rw [← HQ.out]
        refine decide_eq_false fun hu => ?_
        have := hu (k - 1) (by omega)
        rw [show k - 1 + 1 = k by omega, h] at this
        cases this⟩
      clear hx0 hy0
      generalize rdI l (k - 1) = x at hokx HX HN2 HM
      generalize rdI l k = y at hoky HY HN2 HM
      have HLS : Aside0 (∀ V : World, Calls Try.prog 26 #[valI x, valI y] V fun e w' => e = .returned (.bool (ltI x y)) ∧ Below V.heap.size V w') := ⟨fun V => rless_calls hokx hoky V⟩
      have hk0 : (0 : Int) ≤ (k : Int) := Int.natCast_nonneg _
      have hk2 : (k : Int) < (l.length : Int) := by omega
      have hk3 : (0 : Int) ≤ (k : Int) - 1 := by omega
      have hk4 : (k : Int) - 1 < (l.length : Int) := by omega
      have hk5 : ((k : Int) - 1).toNat = k - 1 := by omega
      have hk7 : (1 : Int) ≤ (k : Int) := by omega
      have hk6 : wrap64 ((k : Int) - 1) = (k : Int) - 1 := by unfold wrap64; omega
      generalize ltI x y = q at HLS HN2 HM
      go_wp2_with fail
      refine start_ (n := 11) (S := fun w' => Below wr.heap.size wr w') (ds := []) #[false,false,false,false,false,false,false,false,false,false,false] (by kernel_rfl) rfl rfl (below_drew (Below.refl _ _)) (fun hHeld => ?_)
      refine pure_ (i := 0) (N := some 11) (v := ?_) (a' := ?_) #[true,false,false,false,false,false,false,false,false,false,false] rfl rfl (by kernel_rfl) (fun _ _ _ h => h) (Or.inl ⟨by rfl, ?_⟩) ?_ ?_
      rotate_left
      ·intro w'
       go_simp
       with_reducible rfl
      rotate_left
      ·simp only [Act.put, List.setIfInBounds_toArray, List.set_cons_zero, List.set_cons_succ, i64_w, i32_w]
       rfl
      refine pure_ (i := 1) (N := some 12) (v := ?_) (a' := ?_) #[true,true,false,false,false,false,false,false,false,false,false] rfl rfl (by kernel_rfl) (fun _ _ _ h => h) (Or.inl ⟨by rfl, ?_⟩) ?_ ?_
      rotate_left
      ·intro w'
       go_simp
       with_reducible rfl
      rotate_left
      ·simp only [Act.put, List.setIfInBounds_toArray, List.set_cons_zero, List.set_cons_succ, i64_w, i32_w]
       rfl
      refine pure_ (i := 2) (N := some 13) (v := ?_) (a' := ?_) #[true,true,true,false,false,false,false,false,false,false,false] rfl rfl (by kernel_rfl) (fun _ _ _ h => h) (Or.inl ⟨by rfl, ?_⟩) ?_ ?_
      rotate_left
      ·intro w'
       go_simp
       with_reducible rfl
      rotate_left
      ·simp only [Act.put, List.setIfInBounds_toArray, List.set_cons_zero, List.set_cons_succ, i64_w, i32_w]
       rfl
      refine pure_ (i := 3) (N := some 14) (v := ?_) (a' := ?_) #[true,true,true,true,false,false,false,false,false,false,false] rfl rfl (by kernel_rfl) (fun _ _ _ h => h) (Or.inl ⟨by rfl, ?_⟩) ?_ ?_
      rotate_left
      ·intro w'
       go_simp
       with_reducible rfl
      rotate_left
      ·simp only [Act.put, List.setIfInBounds_toArray, List.set_cons_zero, List.set_cons_succ, i64_w, i32_w]
       rfl
      refine pw_load (i := 4) (N := some 15) (a' := ?_) #[true,true,true,true,true,false,false,false,false,false,false] rfl rfl (by kernel_rfl) (fun _ _ _ _ h => h) _ rfl (by rfl) (b0) (o0 + (k - 1) * 32) (by rfl) (x) (fun _ h => range_below HX.out h) hokx hHeld ?_ ?_
      rotate_left
      ·simp only [Act.put, List.setIfInBounds_toArray, List.set_cons_zero, List.set_cons_succ, i64_w, i32_w]
       rfl
      refine pure_ (i := 5) (N := some 16) (v := ?_) (a' := ?_) #[true,true,true,true,true,true,false,false,false,false,false] rfl rfl (by kernel_rfl) (fun _ _ _ h => h) (Or.inl ⟨by rfl, ?_⟩) ?_ ?_
      rotate_left
      ·intro w'
       go_simp
       with_reducible rfl
      rotate_left
      ·simp only [Act.put, List.setIfInBounds_toArray, List.set_cons_zero, List.set_cons_succ, i64_w, i32_w]
       rfl
      refine pure_ (i := 6) (N := some 17) (v := ?_) (a' := ?_) #[true,true,true,true,true,true,true,false,false,false,false] rfl rfl (by kernel_rfl) (fun _ _ _ h => h) (Or.inl ⟨by rfl, ?_⟩) ?_ ?_
      rotate_left
      ·intro w'
       go_simp
       with_reducible rfl
      rotate_left
      ·simp only [Act.put, List.setIfInBounds_toArray, List.set_cons_zero, List.set_cons_succ, i64_w, i32_w]
       rfl
      refine pure_ (i := 7) (N := some 18) (v := ?_) (a' := ?_) #[true,true,true,true,true,true,true,true,false,false,false] rfl rfl (by kernel_rfl) (fun _ _ _ h => h) (Or.inl ⟨by rfl, ?_⟩) ?_ ?_
      rotate_left
      ·intro w'
       go_simp
       with_reducible rfl
      rotate_left
      ·simp only [Act.put, List.setIfInBounds_toArray, List.set_cons_zero, List.set_cons_succ, i64_w, i32_w]
       rfl
      refine pw_load (i := 8) (N := some 19) (a' := ?_) #[true,true,true,true,true,true,true,true,true,false,false] rfl rfl (by kernel_rfl) (fun _ _ _ _ h => h) _ rfl (by rfl) (b0) (o0 + k * 32) (by rfl) (y) (fun _ h => range_below HY.out h) hoky hHeld ?_ ?_
      rotate_left
      ·simp only [Act.put, List.setIfInBounds_toArray, List.set_cons_zero, List.set_cons_succ, i64_w, i32_w]
       rfl
      refine one_ (i := 9) (N := some 20) #[true,true,true,true,true,true,true,true,true,true,false] rfl rfl (by kernel_rfl) (by decide) (fun K hK => ?_)
      refine goes_ Try.func26 (by kernel_rfl) rfl #[valI x, valI y] (by rfl) rfl rfl (by (try simp only [List.map_toArray, List.map_cons, List.map_nil]); first | done | rfl) ?_
      refine (HLS.out _).mono ?_
      rintro e Wc1 ⟨rfl, hbc1⟩
      refine ⟨_, rfl, ?_⟩
      refine hK.out _ _ (below_step hHeld hbc1) (fun hHeld1 => ?_)
      clear hK K
      refine norm_ (a' := ?_) ?_ ?_
      rotate_left
      ·show Act.put _ (some 20) _ = _
       simp only [Act.put, List.setIfInBounds_toArray, List.set_cons_zero, List.set_cons_succ, i64_w, i32_w]
       rfl
      refine pure_ (i := 10) (N := some 4) (v := ?_) (a' := ?_) #[true,true,true,true,true,true,true,true,true,true,true] rfl rfl (by kernel_rfl) (fun _ _ _ h => h) (Or.inl ⟨by rfl, ?_⟩) ?_ ?_
      rotate_left
      ·intro w'
       go_simp
       with_reducible rfl
      rotate_left
      ·simp only [Act.put, List.setIfInBounds_toArray, List.set_cons_zero, List.set_cons_succ, i64_w, i32_w]
       rfl
      refine done_ (by kernel_rfl) ?_
      have HBd := Aside0.mk (below_step HB.out hHeld1)
      clear hHeld hHeld1
      cases q with
      | true =>
        go_wp2
        go_roundw
        case rel => exact ⟨k + 1, by omega, by omega, by go_num, ⟨HN2.out rfl⟩, HBd⟩
        case measure => simp [intOf]; omega
      | false =>
        have hQf := HM.out rfl
        go_wp2
        go_ret
        exact ⟨by first | rfl | (rw [hQf]; rfl), HBd.out⟩
    · have hQt : Q = true := by
        rw [← HQ.out]
        exact decide_eq_true fun i hi => hU.out i (by omega)
      go_wp2
      go_ret
      exact ⟨by first | rfl | (rw [hQt]; rfl), HB.out⟩
end Go.Proofs.Ytkgjdeicjkibiaa.D
