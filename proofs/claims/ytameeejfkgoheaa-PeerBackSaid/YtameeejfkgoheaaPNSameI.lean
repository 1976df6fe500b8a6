/- ref04.Same: are two lists of ids the same? By hand. -/
import Derived.Test.YtameeejfkgoheaaPNEq
namespace Go.Proofs.Ytameeejfkgoheaa.P
open Go.RowKit Go.Maps Go.Proofs.YtameeejfkgoheaaW.PrintWords Go.Proofs.YtameeejfkgoheaaW.PrintLast Go.Proofs.YtameeejfkgoheaaW.PrintMore Go.Proofs.YtameeejfkgoheaaW
set_option linter.unusedVariables false
set_option linter.unusedSimpArgs false
theorem take_eq_succ {a b : List Id} {k : Nat} (ha : k < a.length) (hb : k < b.length) (h : a.take k = b.take k) (he : rdI a k = rdI b k) : a.take (k + 1) = b.take (k + 1) := by
  rw [rdI_at a k ha, rdI_at b k hb] at he
  rw [List.take_succ_eq_append_getElem ha, List.take_succ_eq_append_getElem hb, h, he]
set_option maxHeartbeats 4000000 in
set_option maxRecDepth 100000 in
theorem same_calls (A0 : Option Addr) (c0 : Nat) (a : List Id) (A1 : Option Addr) (c1 : Nat) (b : List Id) (w : World) (hr0 : Kd.C kI w A0 a.length a) (hr1 : Kd.C kI w A1 b.length b) :
    Calls Try.prog 43 #[.slice A0 a.length c0, .slice A1 b.length c1] w fun e w' => e = .returned (.bool (decide (a = b))) ∧ Below w.heap.size w w' := by
  have HR := Aside0.mk hr0
  have HR1 := Aside0.mk hr1
  have HL := Aside0.mk hr0.2.1
  clear hr0 hr1
  by_cases hl : a.length = b.length
  · have hli : (a.length : Int) = (b.length : Int) := by omega
    have HN : Aside0 (a.length = b.length) := ⟨hl⟩
    generalize hQ : decide (a = b) = Q
    have HQ := Aside0.mk hQ
    clear hQ
    go_enter Try.func43, Try.ntmps43
    go_wp2
    go_loopw [5] (fun i wr => ∃ k : Nat, k ≤ a.length ∧ i = .int .i64 k ∧ Aside0 (a.take k = b.take k) ∧ Aside0 (Below w.heap.size w wr)) (fun i _ => a.length - (intOf i).toNat)
    case atStart => exact ⟨0, Nat.zero_le _, rfl, ⟨rfl⟩, ⟨Below.refl _ _⟩⟩
    case round =>
    clear hli
    obtain ⟨k, hk, rfl, hN, HB⟩ := hrel
    by_cases hlt : k < a.length
    · have hltb : k < b.length := by rw [← HN.out]; exact hlt
      obtain ⟨b0, o0, rfl, hx0, hokx⟩ := at_I HR.out k hlt
      obtain ⟨b1, o1, rfl, hy0, hoky⟩ := at_I HR1.out k hltb
      have HXd : Aside0 (wr.drew.rangeAt b0 (o0 + k * 32) (cellsI (rdI a k))) := ⟨range_below hx0 (below_drew HB.out)⟩
      have HYd : Aside0 (wr.drew.rangeAt b1 (o1 + k * 32) (cellsI (rdI b k))) := ⟨range_below hy0 (below_drew HB.out)⟩
      have hl63 := HL.out
      have HN2 : Aside0 (rdI a k = rdI b k → a.take (k + 1) = b.take (k + 1)) := ⟨take_eq_succ hlt hltb hN.out⟩
      have HM : Aside0 (rdI a k ≠ rdI b k → a ≠ b) := ⟨fun hne e => hne (by rw [e])⟩
      clear hx0 hy0
      generalize rdI a k = x at hokx HXd HN2 HM
      generalize rdI b k = y at hoky HYd HN2 HM
      have heq := eqIn_I hokx hoky
      have hk0 : (0 : Int) ≤ (k : Int) := Int.natCast_nonneg _
      have hk1 : (k : Int) < (a.length : Int) := by omega
      have hk2 : (k : Int) < (b.length : Int) := by omega
      generalize hq : decide (x = y) = q at heq
      have HQ2 := Aside0.mk hq
      clear hq
      go_wp2_with fail
      refine start_ (n := 9) (S := fun w' => w'.rangeAt b0 (o0 + k * 32) (cellsI x) ∧ w'.rangeAt b1 (o1 + k * 32) (cellsI y)) (ds := []) #[false,false,false,false,false,false,false,false,false] (by kernel_rfl) rfl rfl ⟨HXd.out, HYd.out⟩ (fun hHeld => ?_)
      refine pure_ (i := 0) (N := some 17) (v := ?_) (a' := ?_) #[true,false,false,false,false,false,false,false,false] rfl rfl (by kernel_rfl) (fun _ _ _ h => h) (Or.inl ⟨by rfl, ?_⟩) ?_ ?_
      rotate_left
      ·intro w'
       go_simp
       with_reducible rfl
      rotate_left
      ·simp only [Act.put, List.setIfInBounds_toArray, List.set_cons_zero, List.set_cons_succ, i64_w, i32_w]
       rfl
      refine pure_ (i := 1) (N := some 18) (v := ?_) (a' := ?_) #[true,true,false,false,false,false,false,false,false] rfl rfl (by kernel_rfl) (fun _ _ _ h => h) (Or.inl ⟨by rfl, ?_⟩) ?_ ?_
      rotate_left
      ·intro w'
       go_simp
       with_reducible rfl
      rotate_left
      ·simp only [Act.put, List.setIfInBounds_toArray, List.set_cons_zero, List.set_cons_succ, i64_w, i32_w]
       rfl
      refine pure_ (i := 2) (N := some 19) (v := ?_) (a' := ?_) #[true,true,true,false,false,false,false,false,false] rfl rfl (by kernel_rfl) (fun _ _ _ h => h) (Or.inl ⟨by rfl, ?_⟩) ?_ ?_
      rotate_left
      ·intro w'
       go_simp
       with_reducible rfl
      rotate_left
      ·simp only [Act.put, List.setIfInBounds_toArray, List.set_cons_zero, List.set_cons_succ, i64_w, i32_w]
       rfl
      refine pw_load (i := 3) (N := some 20) (a' := ?_) #[true,true,true,true,false,false,false,false,false] rfl rfl (by kernel_rfl) (fun _ _ _ _ h => h) _ rfl (by rfl) (b0) (o0 + k * 32) (by rfl) (x) (fun _ h => h.1) hokx hHeld ?_ ?_
      rotate_left
      ·simp only [Act.put, List.setIfInBounds_toArray, List.set_cons_zero, List.set_cons_succ, i64_w, i32_w]
       rfl
      refine pure_ (i := 4) (N := some 21) (v := ?_) (a' := ?_) #[true,true,true,true,true,false,false,false,false] rfl rfl (by kernel_rfl) (fun _ _ _ h => h) (Or.inl ⟨by rfl, ?_⟩) ?_ ?_
      rotate_left
      ·intro w'
       go_simp
       with_reducible rfl
      rotate_left
      ·simp only [Act.put, List.setIfInBounds_toArray, List.set_cons_zero, List.set_cons_succ, i64_w, i32_w]
       rfl
      refine pure_ (i := 5) (N := some 22) (v := ?_) (a' := ?_) #[true,true,true,true,true,true,false,false,false] rfl rfl (by kernel_rfl) (fun _ _ _ h => h) (Or.inl ⟨by rfl, ?_⟩) ?_ ?_
      rotate_left
      ·intro w'
       go_simp
       with_reducible rfl
      rotate_left
      ·simp only [Act.put, List.setIfInBounds_toArray, List.set_cons_zero, List.set_cons_succ, i64_w, i32_w]
       rfl
      refine pure_ (i := 6) (N := some 23) (v := ?_) (a' := ?_) #[true,true,true,true,true,true,true,false,false] rfl rfl (by kernel_rfl) (fun _ _ _ h => h) (Or.inl ⟨by rfl, ?_⟩) ?_ ?_
      rotate_left
      ·intro w'
       go_simp
       with_reducible rfl
      rotate_left
      ·simp only [Act.put, List.setIfInBounds_toArray, List.set_cons_zero, List.set_cons_succ, i64_w, i32_w]
       rfl
      refine pw_load (i := 7) (N := some 24) (a' := ?_) #[true,true,true,true,true,true,true,true,false] rfl rfl (by kernel_rfl) (fun _ _ _ _ h => h) _ rfl (by rfl) (b1) (o1 + k * 32) (by rfl) (y) (fun _ h => h.2) hoky hHeld ?_ ?_
      rotate_left
      ·simp only [Act.put, List.setIfInBounds_toArray, List.set_cons_zero, List.set_cons_succ, i64_w, i32_w]
       rfl
      refine pure_ (i := 8) (N := some 25) (v := ?_) (a' := ?_) #[true,true,true,true,true,true,true,true,true] rfl rfl (by kernel_rfl) (fun _ _ _ h => h) (Or.inl ⟨by rfl, ?_⟩) ?_ ?_
      rotate_left
      ·intro w'
       go_simp
       with_reducible rfl
      rotate_left
      ·simp only [Act.put, List.setIfInBounds_toArray, List.set_cons_zero, List.set_cons_succ, i64_w, i32_w]
       rfl
      refine done_ (by kernel_rfl) ?_
      have HBd := Aside0.mk (below_drew HB.out)
      clear hHeld heq
      cases q with
      | true =>
        go_wp2
        go_roundw
        case rel => exact ⟨k + 1, by omega, by go_num, ⟨HN2.out (of_decide_eq_true HQ2.out)⟩, HBd⟩
        case measure => simp [intOf]; omega
      | false =>
        have hne := HM.out (of_decide_eq_false HQ2.out)
        have hQf : Q = false := by rw [← HQ.out]; exact decide_eq_false hne
        go_wp2
        go_ret
        exact ⟨by rw [hQf]; rfl, HBd.out⟩
    · have hE : a = b := by
        have h1 := hN.out
        rwa [List.take_of_length_le (by omega), List.take_of_length_le (by have := HN.out; omega)] at h1
      have hQt : Q = true := by rw [← HQ.out]; exact decide_eq_true hE
      go_wp2
      go_ret
      exact ⟨by rw [hQt]; rfl, HB.out⟩
  · have hli : ¬ (a.length : Int) = (b.length : Int) := by omega
    have hf : decide (a = b) = false := decide_eq_false fun e => hl (by rw [e])
    rw [hf]
    go_enter Try.func43, Try.ntmps43
    go_wp2
    go_ret
    exact ⟨rfl, Below.refl _ _⟩
end Go.Proofs.Ytameeejfkgoheaa.P
