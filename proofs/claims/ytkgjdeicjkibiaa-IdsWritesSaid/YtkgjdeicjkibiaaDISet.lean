/- ids.Sort, some, Common, Without, by their contracts. By hand. -/
import Derived.Test.YtkgjdeicjkibiaaDIList
namespace Go.Proofs.Ytkgjdeicjkibiaa.D
open Go.RowKit Go.Maps Go.Proofs.YtkgjdeicjkibiaaW.PrintWords Go.Proofs.YtkgjdeicjkibiaaW.PrintLast Go.Proofs.YtkgjdeicjkibiaaW.PrintMore Go.Proofs.YtkgjdeicjkibiaaW
set_option linter.unusedVariables false
set_option linter.unusedSimpArgs false
theorem C_ok {w : World} {A : Option Addr} {n : Nat} {xs : List Id} (h : Kd.C kI w A n xs) : ∀ x ∈ xs, okId x := by
  intro x hx
  obtain ⟨i, hi, rfl⟩ := List.getElem_of_mem hx
  obtain ⟨b, o, _, _, hok⟩ := at_I h i (by have := h.1; omega)
  rwa [rdI_at xs i hi] at hok
theorem reps_I {R : Id → List Value → Prop} (hR : ∀ x, okId x → R x (cellsI x)) : ∀ l : List Id, (∀ x ∈ l, okId x) → Reps R 32 l (rowI l)
  | [], _ => ⟨rfl, fun j p hj => by simp at hj⟩
  | x :: l, hok => by
    have hx := hok x List.mem_cons_self
    have hcl := cellsI_ok hx
    have ih := reps_I hR l (fun y hy => hok y (List.mem_cons_of_mem _ hy))
    refine ⟨rowI_length hok, fun j p hj => ?_⟩
    unfold rowI
    rw [List.flatMap_cons]
    match j with
    | 0 =>
      obtain rfl : x = p := by simpa using hj
      rw [Nat.zero_mul, List.drop_zero, ← hcl, List.take_left]
      exact hR x hx
    | j + 1 =>
      have := ih.2 j p (by simpa using hj)
      rw [show (j + 1) * 32 = (cellsI x).length + j * 32 by rw [hcl]; omega, List.drop_length_add_append]
      exact this
theorem own_C {w : World} {base c : Nat} {A : Option Addr} {l : List Id} (h : w.ownsRow base 23 32 (.slice A l.length c) l.length (rowI l)) (hok : ∀ x ∈ l, okId x) : Kd.C kI w A l.length l := by
  obtain ⟨A', c', e, hr⟩ := own_reads_row (R := kI.K w) h (reps_I (fun x hx => ⟨rfl, hx⟩) l hok) rfl
  injection e with e
  subst e
  exact hr
/-- a function's answer: these ids, in a row -/
def RetI (w : World) (l : List Id) (e : Ending) (w' : World) : Prop := ∃ A c, e = .returned (.slice A l.length c) ∧ Kd.C kI w' A l.length l ∧ Below w.heap.size w w'
theorem ret_of_own {w w' : World} {base : Nat} {v : Value} {l : List Id} (hok : ∀ x ∈ l, okId x) (h : w'.ownsRow base 23 32 v l.length (rowI l)) (hb : Below w.heap.size w w') : RetI w l (.returned v) w' := by
  obtain ⟨A, c, rfl⟩ := own_slice h
  exact ⟨A, c, rfl, own_C h hok, hb⟩
set_option maxHeartbeats 4000000 in
set_option maxRecDepth 100000 in
theorem sort_calls (A0 : Option Addr) (c0 : Nat) (l : List Id) (w : World) (hr0 : Kd.C kI w A0 l.length l) (hlim : l.length * 64 ≤ 140737488355328) :
    Calls Try.prog 15 #[.slice A0 l.length c0] w (RetI w (sortI l)) := by
  have HO := Aside0.mk (of_calls A0 c0 l w hr0 (by unfold maxLen; omega))
  have HK := Aside0.mk (C_ok hr0)
  have hle := len_sortI l
  clear hr0
  go_enter Try.func15, Try.ntmps15
  go_wp2_with (first
    | (go_at_call 33; refine HO.out.mono ?_; rintro e w1 ⟨gb, rfl, hgb, ho1, hb1⟩; have HL := Aside0.mk (list_calls gb l.length (sortI l) w1 ho1 (up_sortI l) (by omega)); have HB := Aside0.mk hb1; clear ho1 hb1)
    | (go_at_call 34; refine HL.out.mono ?_; rintro e w2 ⟨v, rfl, hrow, hb2⟩; have HB2 := Aside0.mk (below_step HB.out hb2); clear hb2))
  go_ret
  exact ret_of_own (ok_sortI HK.out) hrow HB2.out
theorem sel_take (p : Id → Bool) (l : List Id) (k : Nat) (h : k < l.length) : ofI ((l.take (k + 1)).filter p) = if p (rdI l k) = true then insI (rdI l k) (ofI ((l.take k).filter p)) else ofI ((l.take k).filter p) := by
  rw [List.take_succ_eq_append_getElem h, List.filter_append, rdI_at l k h]
  by_cases hp : p l[k] = true
  · rw [if_pos hp]
    unfold ofI
    simp [hp]
  · rw [if_neg hp]
    simp [hp]
set_option maxHeartbeats 8000000 in
set_option maxRecDepth 100000 in
theorem some_calls (A0 : Option Addr) (c0 : Nat) (a : List Id) (A1 : Option Addr) (c1 : Nat) (b : List Id) (want : Bool) (w : World) (hr0 : Kd.C kI w A0 a.length a) (hr1 : Kd.C kI w A1 b.length b) (hlim : a.length * 64 ≤ 140737488355328) (hlim1 : b.length * 64 ≤ 140737488355328) :
    Calls Try.prog 36 #[.slice A0 a.length c0, .slice A1 b.length c1, .bool want] w (RetI w (someI a b want)) := by
  have HOF := Aside0.mk (of_calls A1 c1 b w hr1 (by unfold maxLen; omega))
  have HR := Aside0.mk hr0
  have HL := Aside0.mk hr0.2.1
  clear hr0 hr1
  have hum := Try.underlying52
  have hmm := @run_makeMap Try.prog
  go_enter Try.func36, Try.ntmps36
  go_wp2_with (first
    | (go_at_call 33; refine HOF.out.mono ?_; rintro e w1 ⟨gb, rfl, hgb, ho1, hb1⟩; have HO1 := Aside0.mk ho1; have HB := Aside0.mk hb1; have hglt := ho1.lt; clear ho1 hb1 HOF))
  go_loopw [16] (fun i wr => ∃ k : Nat, k ≤ a.length ∧ i = .int .i64 k ∧ Aside0 (OwnsI wr gb b.length (sortI b)) ∧ Aside0 (OwnsI wr w1.heap.size k (ofI ((a.take k).filter fun x => decide (x ∈ b) == want))) ∧ Aside0 (Below w.heap.size w wr)) (fun i _ => a.length - (intOf i).toNat)
  case atStart => exact ⟨0, Nat.zero_le _, rfl, ⟨HO1.out.alloc _⟩, ⟨World.ownsMap_made w1 Try.prog 23 (plainElem (H := Unit) Try.prog 4)⟩, ⟨below_alloc HB.out _⟩⟩
  case round =>
    clear hmm
    obtain ⟨k, hk, rfl, hO1, hO, HBr⟩ := hrel
    by_cases hlt : k < a.length
    · obtain ⟨g0, o, rfl, hx, hok⟩ := at_I HR.out k hlt
      have HX := Aside0.mk (range_below hx HBr.out)
      have HS := Aside0.mk (sel_take (fun x => decide (x ∈ b) == want) a k hlt)
      have hl63 := HL.out
      have hq : decide (rdI a k ∈ sortI b) = decide (rdI a k ∈ b) := by simp [mem_sortI]
      have hwlt := hO.out.lt
      have HBW := Aside0.mk HB.out.size
      clear hx HB HO1
      generalize hxk : rdI a k = x at HX HS hok hq
      clear hxk
      cases hd : decide (x ∈ b) <;> cases want <;> rw [hd] at hq <;> simp only [hd] at HS
      all_goals
        go_wp2_with (first
          | (refine wpl_load _ _ x HX.out hok (by rfl) _ (by rfl) (by rfl) ?_; go_frame)
          | (refine wpl_store_new wr _ x hok (by rfl) (by rfl) (by rfl) _ _ (by rfl) (by rfl) (by rfl) ?_; intro W1 hb1 hB1 hs1; have HP1 := Aside0.mk (owns_below hO1.out hB1); have HP := Aside0.mk (owns_below hO.out hB1); have hlk := look_I HP1.out hok; rw [hq] at hlk; go_frame)
          | (refine wpl_load _ _ x (range_of_blk (t := 23) hb1) hok (by rfl) _ (by rfl) (by rfl) ?_; go_frame)
          | (refine wpList_mapUpdate_own _ (by rfl) _ _ _ 52 (by rfl) 23 4 lawI hum _ w1.heap.size k (datI (ofI ((a.take k).filter _))) (by rfl) HP.out (by unfold maxLen; omega) _ _ (.string x) (by rfl) (by rfl) (keyOf_I hok) (.lit (.bool true)) [] (plainElem_bool Try.underlying4 true) ?_; intro w2 hown2 hg2; go_frame))
      all_goals first
        | (have HO2 : Aside0 (OwnsI w2 w1.heap.size (k + 1) (ofI ((a.take (k + 1)).filter _))) := ⟨by rw [put_datI _ (ofI_up _)] at hown2; rw [HS.out, if_pos (by decide)]; exact hown2⟩
           have HO3 := Aside0.mk (HP1.out.kept hg2 (by simp; omega))
           have HB2 := Aside0.mk ((below_step HBr.out hB1).grown hg2 (Nat.le_trans HBr.out.size hB1.size) (fun j hj => by cases hj; exact HBW.out))
           clear hown2 hg2 hb1 hB1
           go_roundw
           (case rel => exact ⟨k + 1, by omega, by go_num, HO3, HO2, HB2⟩)
           (case measure => simp [intOf]; omega))
        | (have HO2 : Aside0 (OwnsI W1 w1.heap.size (k + 1) (ofI ((a.take (k + 1)).filter _))) := ⟨by rw [HS.out, if_neg (by decide)]; exact HP.out.mono (Nat.le_succ k)⟩
           have HB2 := Aside0.mk (below_step HBr.out hB1)
           clear hb1 hB1
           go_roundw
           (case rel => exact ⟨k + 1, by omega, by go_num, HP1, HO2, HB2⟩)
           (case measure => simp [intOf]; omega))
    · have hkl : k = a.length := by omega
      subst hkl
      have hO2 := hO.out
      rw [List.take_length, ofI_sort] at hO2
      have hle := len_someI a b want
      have HL2 := Aside0.mk (list_calls w1.heap.size a.length (sortI (a.filter fun x => decide (x ∈ b) == want)) wr hO2 (up_sortI _) (by have : (sortI (a.filter fun x => decide (x ∈ b) == want)).length ≤ a.length := hle; omega))
      clear hO2
      go_wp2_with (first
        | (go_at_call 34; refine HL2.out.mono ?_; rintro e w2 ⟨v, rfl, hrow, hb2⟩; have HB2 := Aside0.mk (below_step HBr.out hb2); clear hb2))
      go_ret
      exact ret_of_own (ok_someI (C_ok HR.out)) hrow HB2.out
set_option maxHeartbeats 1000000 in
set_option maxRecDepth 100000 in
theorem common_calls (A0 : Option Addr) (c0 : Nat) (a : List Id) (A1 : Option Addr) (c1 : Nat) (b : List Id) (w : World) (hr0 : Kd.C kI w A0 a.length a) (hr1 : Kd.C kI w A1 b.length b) (hlim : a.length * 64 ≤ 140737488355328) (hlim1 : b.length * 64 ≤ 140737488355328) :
    Calls Try.prog 17 #[.slice A0 a.length c0, .slice A1 b.length c1] w (RetI w (someI a b true)) := by
  have HO := Aside0.mk (some_calls A0 c0 a A1 c1 b true w hr0 hr1 hlim hlim1)
  clear hr0 hr1
  go_enter Try.func17, Try.ntmps17
  go_wp2_with (first
    | (go_at_call 36; refine HO.out.mono ?_; rintro e w1 ⟨A, c, rfl, hC, hb⟩))
  go_ret
  exact ⟨A, c, rfl, hC, hb⟩
set_option maxHeartbeats 1000000 in
set_option maxRecDepth 100000 in
theorem without_calls (A0 : Option Addr) (c0 : Nat) (a : List Id) (A1 : Option Addr) (c1 : Nat) (b : List Id) (w : World) (hr0 : Kd.C kI w A0 a.length a) (hr1 : Kd.C kI w A1 b.length b) (hlim : a.length * 64 ≤ 140737488355328) (hlim1 : b.length * 64 ≤ 140737488355328) :
    Calls Try.prog 18 #[.slice A0 a.length c0, .slice A1 b.length c1] w (RetI w (someI a b false)) := by
  have HO := Aside0.mk (some_calls A0 c0 a A1 c1 b false w hr0 hr1 hlim hlim1)
  clear hr0 hr1
  go_enter Try.func18, Try.ntmps18
  go_wp2_with (first
    | (go_at_call 36; refine HO.out.mono ?_; rintro e w1 ⟨A, c, rfl, hC, hb⟩))
  go_ret
  exact ⟨A, c, rfl, hC, hb⟩
end Go.Proofs.Ytkgjdeicjkibiaa.D
