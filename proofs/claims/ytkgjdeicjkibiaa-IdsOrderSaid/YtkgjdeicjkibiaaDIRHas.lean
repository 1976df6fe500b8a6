/- ref04.Has at ids. By hand. -/
import Derived.Test.YtkgjdeicjkibiaaDIHas
namespace Go.Proofs.Ytkgjdeicjkibiaa.D
open Go.RowKit Go.Maps Go.Proofs.YtkgjdeicjkibiaaW.PrintWords Go.Proofs.YtkgjdeicjkibiaaW.PrintLast Go.Proofs.YtkgjdeicjkibiaaW.PrintMore Go.Proofs.YtkgjdeicjkibiaaW
set_option linter.unusedVariables false
set_option linter.unusedSimpArgs false
set_option maxHeartbeats 4000000 in
set_option maxRecDepth 100000 in
theorem rhas_calls (A0 : Option Addr) (c0 : Nat) (l : List Id) {x : Id} (hx : okId x) (w : World) (hr0 : Kd.C kI w A0 l.length l) :
    Calls Try.prog 25 #[.slice A0 l.length c0, valI x] w fun e w' => e = .returned (.bool (decide (x ∈ l))) ∧ Below w.heap.size w w' := by
  have HR := Aside0.mk hr0
  have HL := Aside0.mk hr0.2.1
  clear hr0
  generalize hQ : decide (x ∈ l) = Q
  have HQ := Aside0.mk hQ
  clear hQ
  go_enter Try.func25, Try.ntmps25
  go_wp2_with fail
  have HB0 := Aside0.mk (below_alloc (Below.refl w.heap.size w) (.cells (arrI x) 23))
  have HX0 : Aside0 ((w.alloc (.cells (arrI x) 23)).rangeAt w.heap.size 0 (cellsI x)) := ⟨range_of_blk (t := 23) (blk_new w _)⟩
  go_loopw [5] (fun i wr => ∃ k : Nat, k ≤ l.length ∧ i = .int .i64 k ∧ Aside0 (x ∉ l.take k) ∧ Aside0 (wr.rangeAt w.heap.size 0 (cellsI x)) ∧ Aside0 (Below w.heap.size w wr)) (fun i _ => l.length - (intOf i).toNat)
  case atStart => exact ⟨0, Nat.zero_le _, rfl, ⟨by simp⟩, HX0, HB0⟩
  case round =>
    clear HX0 HB0
    obtain ⟨k, hk, rfl, hN, hX, HB⟩ := hrel
    by_cases hlt : k < l.length
    · obtain ⟨b, o, rfl, hy0, hok⟩ := at_I HR.out k hlt
      have HY := Aside0.mk (range_below hy0 HB.out)
      have hl63 := HL.out
      have hN2 : Aside0 (x ≠ rdI l k → x ∉ l.take (k + 1)) := ⟨fun hne => by
        rw [List.take_succ_eq_append_getElem hlt, List.mem_append]
        rintro (h | h)
        · exact hN.out h
        · rw [rdI_at l k hlt] at hne
          exact hne (by simpa using h)⟩
      have hM : Aside0 (x = rdI l k → x ∈ l) := ⟨fun e => by rw [e, rdI_at l k hlt]; exact List.getElem_mem _⟩
      clear hy0
      generalize rdI l k = y at hok HY hN2 hM
      have heq := eqIn_I hok hx
      have HXd : Aside0 (wr.drew.rangeAt w.heap.size 0 (cellsI x)) := ⟨hX.out⟩
      have HYd : Aside0 (wr.drew.rangeAt b (o + k * 32) (cellsI y)) := ⟨HY.out⟩
      have hk0 : (0 : Int) ≤ (k : Int) := Int.natCast_nonneg _
      have hk1 : (k : Int) < (l.length : Int) := by omega
      generalize hq : decide (y = x) = q at heq
      have HQ2 := Aside0.mk hq
      clear hq
      go_wp2_with fail
      refine start_ (n := 6) (S := fun w' => w'.rangeAt w.heap.size 0 (cellsI x) ∧ w'.rangeAt b (o + k * 32) (cellsI y)) (ds := []) #[false,false,false,false,false,false] (by kernel_rfl) rfl rfl ⟨HXd.out, HYd.out⟩ (fun hHeld => ?_)
      refine pure_ (i := 0) (N := some 12) (v := ?_) (a' := ?_) #[true,false,false,false,false,false] rfl rfl (by kernel_rfl) (fun _ _ _ h => h) (Or.inl ⟨by rfl, ?_⟩) ?_ ?_
      rotate_left
      ·intro w'
       go_simp
       with_reducible rfl
      rotate_left
      ·simp only [Act.put, List.setIfInBounds_toArray, List.set_cons_zero, List.set_cons_succ, i64_w, i32_w]
       rfl
      refine pure_ (i := 1) (N := some 13) (v := ?_) (a' := ?_) #[true,true,false,false,false,false] rfl rfl (by kernel_rfl) (fun _ _ _ h => h) (Or.inl ⟨by rfl, ?_⟩) ?_ ?_
      rotate_left
      ·intro w'
       go_simp
       with_reducible rfl
      rotate_left
      ·simp only [Act.put, List.setIfInBounds_toArray, List.set_cons_zero, List.set_cons_succ, i64_w, i32_w]
       rfl
      refine pure_ (i := 2) (N := some 14) (v := ?_) (a' := ?_) #[true,true,true,false,false,false] rfl rfl (by kernel_rfl) (fun _ _ _ h => h) (Or.inl ⟨by rfl, ?_⟩) ?_ ?_
      rotate_left
      ·intro w'
       go_simp
       with_reducible rfl
      rotate_left
      ·simp only [Act.put, List.setIfInBounds_toArray, List.set_cons_zero, List.set_cons_succ, i64_w, i32_w]
       rfl
      refine pw_load (i := 3) (N := some 15) (a' := ?_) #[true,true,true,true,false,false] rfl rfl (by kernel_rfl) (fun _ _ _ _ h => h) _ rfl (by rfl) (b) (o + k * 32) (by rfl) (y) (fun _ h => h.2) hok hHeld ?_ ?_
      rotate_left
      ·simp only [Act.put, List.setIfInBounds_toArray, List.set_cons_zero, List.set_cons_succ, i64_w, i32_w]
       rfl
      refine pw_load (i := 4) (N := some 16) (a' := ?_) #[true,true,true,true,true,false] rfl rfl (by kernel_rfl) (fun _ _ _ _ h => h) _ rfl (by rfl) (w.heap.size) (0) (by rfl) (x) (fun _ h => h.1) hx hHeld ?_ ?_
      rotate_left
      ·simp only [Act.put, List.setIfInBounds_toArray, List.set_cons_zero, List.set_cons_succ, i64_w, i32_w]
       rfl
      refine pure_ (i := 5) (N := some 17) (v := ?_) (a' := ?_) #[true,true,true,true,true,true] rfl rfl (by kernel_rfl) (fun _ _ _ h => h) (Or.inl ⟨by rfl, ?_⟩) ?_ ?_
      rotate_left
      ·intro w'
       go_simp
       with_reducible rfl
      rotate_left
      ·simp only [Act.put, List.setIfInBounds_toArray, List.set_cons_zero, List.set_cons_succ, i64_w, i32_w]
       rfl
      refine done_ (by kernel_rfl) ?_
      have HBd := Aside0.mk (below_drew HB.out)
      clear hHeld heq
      cases q with
      | true =>
        have hQt : Q = true := by rw [← HQ.out]; exact decide_eq_true (hM.out (of_decide_eq_true HQ2.out).symm)
        go_wp2
        go_ret
        exact ⟨by first | rfl | (rw [hQt]; rfl), HBd.out⟩
      | false =>
        go_wp2
        go_roundw
        case rel => exact ⟨k + 1, by omega, by go_num, ⟨hN2.out (fun e => of_decide_eq_false HQ2.out e.symm)⟩, HXd, HBd⟩
        case measure => simp [intOf]; omega
    · have hQf : Q = false := by
        have hn := hN.out
        rw [List.take_of_length_le (by omega)] at hn
        rw [← HQ.out]; exact decide_eq_false hn
      go_wp2
      go_ret
      exact ⟨by first | rfl | (rw [hQf]; rfl), HB.out⟩
end Go.Proofs.Ytkgjdeicjkibiaa.D
