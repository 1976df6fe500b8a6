/- Several of the walk's texts in one: SHOps1, SHOps2, SHOpsMay, SHSMay, Sx7. -/
import Derived.BigQuiet
import Derived.Test.YtmcddoolniaehaaGreatMD04
import Derived.Test.YtmcddoolniaehaaGreatMD05
import Derived.Test.YtmcddoolniaehaaGreatMD08
import Derived.Test.YtmcddoolniaehaaGreatMD12
section
namespace Go.Proofs.YtmcddoolniaehaaGreat.S
open Go.RowKit Go.Proofs.YtmcddoolniaehaaGreatW.PrintWords Go.Proofs.YtmcddoolniaehaaGreatW.PrintLast Go.Proofs.YtmcddoolniaehaaGreatW.PrintMore Go.Proofs.YtmcddoolniaehaaGreatW
set_option linter.unusedVariables false
set_option linter.unusedSimpArgs false
theorem drawn_below {w w1 : World} (h : Drawn0 w w1) : Below w.heap.size w w1 := by
  obtain ⟨m, rfl⟩ := h.out
  exact pw_below_drewN (Below.refl _ _) m
def incB (elem : ByteArray) (n : Int) : Bool := (decide (n ≠ 0) && (decide (-1048576 ≤ n) && decide (n ≤ 1048576))) && decide (elem.data.toList = [])
def nameB (elem : ByteArray) (n : Int) : Bool := decide (n = 0) && keyB elem.data.toList
abbrev opV (k : Int) (key elem : ByteArray) (n : Int) : Value := .agg #[.int .i64 k, .string key, .string elem, .int .i64 n]
set_option maxHeartbeats 2000000 in
set_option maxRecDepth 100000 in
theorem names_calls (k : Int) (key elem : ByteArray) (n : Int) (w : World) (he : elem.size ≤ 9223372036854775807) :
    Calls Tryz.prog 106 #[opV k key elem n] w fun e w' => e = .returned (.bool (nameB elem n)) ∧ Below w.heap.size w w' := by
  have hk := ops_Key.calls elem (keyB elem.data.toList)
  unfold opV nameB
  have hf : ops_Key.f elem = some (keyB elem.data.toList) := by simp [ops_Key.f, he]
  by_cases h0 : n = 0
  · subst h0
    go_enter Tryz.func106, Tryz.ntmps106
    go_wp2_with fail
    refine (hk _ hf).mono ?_
    rintro e W1 ⟨rfl, hd⟩
    have hb := below_step (below_alloc (Below.refl w.heap.size w) _) (drawn_below hd)
    clear hd hk
    go_wp2
    go_ret
    exact ⟨by simp, hb⟩
  · go_enter Tryz.func106, Tryz.ntmps106
    have hb := below_alloc (Below.refl w.heap.size w) (.cells #[Value.int IntKind.i64 k, Value.string key, Value.string elem, Value.int IntKind.i64 n] 28)
    go_wp2_with fail
    go_ret
    exact ⟨by simp [h0], hb⟩
set_option maxHeartbeats 2000000 in
set_option maxRecDepth 100000 in
theorem incs_calls (k : Int) (key elem : ByteArray) (n : Int) (w : World) :
    Calls Tryz.prog 101 #[opV k key elem n] w fun e w' => e = .returned (.bool (incB elem n)) ∧ Below w.heap.size w w' := by
  have hb := below_alloc (Below.refl w.heap.size w) (.cells #[Value.int IntKind.i64 k, Value.string key, Value.string elem, Value.int IntKind.i64 n] 28)
  have HB := Aside0.mk hb
  clear hb
  unfold opV incB
  by_cases h0 : n = 0
  · go_enter Tryz.func101, Tryz.ntmps101
    go_wp2_with fail
    go_ret
    exact ⟨by simp [h0], by have h := HB.out; rw [h0] at h; exact h⟩
  by_cases h1 : -1048576 ≤ n
  rotate_left
  · go_enter Tryz.func101, Tryz.ntmps101
    go_wp2_with fail
    go_ret
    exact ⟨by simp [h0]; intro h; omega, HB.out⟩
  by_cases h2 : n ≤ 1048576
  rotate_left
  · go_enter Tryz.func101, Tryz.ntmps101
    go_wp2_with fail
    go_ret
    exact ⟨by simp [h0, h1]; intro h; omega, HB.out⟩
  go_enter Tryz.func101, Tryz.ntmps101
  go_wp2_with fail
  go_ret
  refine ⟨?_, HB.out⟩
  have e : elem.toList.isEmpty = decide (elem.data = #[]) := by
    rw [ByteArray.toList_eq]
    cases h : elem.data with
    | mk l => cases l <;> simp
  simp [h0, h1, h2, e]
def opB (k : Int) (key elem : ByteArray) (n : Int) : Bool :=
  if k = 0 then keyB key.data.toList && incB elem n else if k = 1 ∨ k = 2 ∨ k = 3 then keyB key.data.toList && nameB elem n else false
def ops_May.f (a0_0 : Int) (a0_1 : ByteArray) (a0_2 : ByteArray) (a0_3 : Int) : Option (Bool) :=
  if a0_1.size ≤ 9223372036854775807 ∧ a0_2.size ≤ 9223372036854775807 then some (opB a0_0 a0_1 a0_2 a0_3) else none
theorem find_not {k : Int} (h0 : k ≠ 0) (h1 : k ≠ 1) (h2 : k ≠ 2) (h3 : k ≠ 3) : Instr.findNow (.int .i64) (.int .i64 k) kindsV.toList 0 = some none := by
  have e0 : (k == 0) = false := by simp [h0]
  have e1 : (k == 1) = false := by simp [h1]
  have e2 : (k == 2) = false := by simp [h2]
  have e3 : (k == 3) = false := by simp [h3]
  simp [Instr.findNow, Instr.sameNow, kindsV, e0, e1, e2, e3]
end Go.Proofs.YtmcddoolniaehaaGreat.S
end
section
namespace Go.Proofs.YtmcddoolniaehaaGreat.S
open Go.RowKit Go.Proofs.YtmcddoolniaehaaGreatW.PrintWords Go.Proofs.YtmcddoolniaehaaGreatW.PrintLast Go.Proofs.YtmcddoolniaehaaGreatW.PrintMore Go.Proofs.YtmcddoolniaehaaGreatW
set_option linter.unusedVariables false
set_option linter.unusedSimpArgs false
theorem info_op : (Tryz.prog.info? 28).map (·.size) = some 4 := by kernel_rfl
theorem leaf3 {Q : Exit → Act → World → Prop} {x : Exit} {a : Act} {V w : World} {b c : Nat} {A B : Option Obj} (h : ∀ V : World, Aside0 (V.heap[c]? = B) → Aside0 (Below w.heap.size w V) → Aside0 (V.heap[b]? = A) → Q x a V) : Aside0 (V.heap[c]? = B) → Aside0 (Below w.heap.size w V) → Aside0 (V.heap[b]? = A) → Q x a V := h V
set_option maxHeartbeats 4000000 in
set_option maxRecDepth 100000 in
theorem opsMay_0 (a0_1 a0_2 : ByteArray) (a0_3 : Int) (w : World) (hs1 : a0_1.size ≤ 9223372036854775807) (hs2 : a0_2.size ≤ 9223372036854775807) :
    Calls Tryz.prog 27 #[.agg #[.int .i64 0, .string a0_1, .string a0_2, .int .i64 a0_3]] w fun e w' => e = .returned (.bool (keyB a0_1.data.toList && incB a0_2 a0_3)) ∧ Below w.heap.size w w' := by
  have HKey := Aside0.mk (fun W => ops_Key.calls a0_1 (keyB a0_1.data.toList) W (by simp [ops_Key.f, hs1]))
  have H0 := Aside0.mk (blk_new w (.cells #[.int .i64 0, .string a0_1, .string a0_2, .int .i64 a0_3] 28))
  have HB := Aside0.mk (below_alloc (Below.refl w.heap.size w) (.cells #[.int .i64 0, .string a0_1, .string a0_2, .int .i64 a0_3] 28))
  go_enter Tryz.func27, Tryz.ntmps27
  go_wp2_with fail
  have HK : Aside0 (∀ W : World, Calls Tryz.prog 75 #[] W fun e w' => ∃ r, e = .returned (.map (some r)) ∧ w'.heap[r]? = some (.map kindsV 4) ∧ Below W.heap.size W w') := ⟨fun W => kinds_calls W⟩
  have hc := blk_cell H0.out 0
  simp only [List.getElem?_toArray, List.getElem?_cons_zero] at hc
  have hlk : ∀ (W : World) (m : Nat), W.heap[m]? = some (.map kindsV 4) → (Instr.lookup 93 (.map (some m)) (.int .i64 0) true).run Tryz.prog W = .ok (.tuple #[.agg #[.func (.func 101) #[] #[], .func (.func 102) #[] #[], .func (.func 103) #[] #[]], .bool true]) W := fun W m hm => run_lookup_int W 93 3 91 .i64 m 4 kindsV 0 0 _ Tryz.underlying93 Tryz.underlying3 hm (by rfl)
  have hlk2 : ∀ (W : World) (m : Nat) (Z : Obj), W.heap[m]? = some (.map kindsV 4) → (Instr.lookup 93 (.map (some m)) (.int .i64 0) true).run Tryz.prog (W.alloc Z) = .ok (.tuple #[.agg #[.func (.func 101) #[] #[], .func (.func 102) #[] #[], .func (.func 103) #[] #[]], .bool true]) (W.alloc Z) := fun W m Z hm => hlk _ _ (((MapKept.heap_alloc W Z).2 m (lt_of_blk hm)).trans hm)
  go_region_law (first
    | (go_simp; go_at_call 75; refine (HK.out _).mono ?_; rintro e W1 ⟨m, rfl, hm, hb⟩; have H0x := Aside0.mk (blk_below (blk_drew H0.out) hb); have HBx := Aside0.mk (below_step (below_drew HB.out) hb); have hcx := blk_cell H0x.out 0; simp only [List.getElem?_toArray, List.getElem?_cons_zero] at hcx; have hcx2 : ∀ Z : Obj, (W1.alloc Z).cell? ⟨w.heap.size, 0, none⟩ = some (.int .i64 0) := fun Z => blk_cell (blk_alloc H0x.out Z) 0; clear hb)
    | (go_simp; go_at_call 75; refine (HK.out _).mono ?_; rintro e W1 ⟨m, rfl, hm, hb⟩; have H0x := Aside0.mk (blk_below (blk_drew (blk_alloc H0.out _)) hb); have HBx := Aside0.mk (below_step (below_drew (below_alloc HB.out _)) hb); have hcx := blk_cell H0x.out 0; simp only [List.getElem?_toArray, List.getElem?_cons_zero] at hcx; have hcx2 : ∀ Z : Obj, (W1.alloc Z).cell? ⟨w.heap.size, 0, none⟩ = some (.int .i64 0) := fun Z => blk_cell (blk_alloc H0x.out Z) 0; have hnb := blk_below (blk_drew (blk_new (w.alloc (.cells #[.int .i64 0, .string a0_1, .string a0_2, .int .i64 a0_3] 28)) (.cells #[Value.nilFunc, Value.nilFunc, Value.nilFunc] 91))) hb; simp only [World.size_alloc] at hnb; have n0 := blk_cell hnb 0; have n1 := blk_cell hnb 1; have n2 := blk_cell hnb 2; have f0 := blk_frozen hnb 0; have f1 := blk_frozen hnb 1; have f2 := blk_frozen hnb 2; simp only [List.getElem?_toArray, List.getElem?_cons_zero, List.getElem?_cons_succ] at n0 n1 n2; have HNx := Aside0.mk hnb; clear hb hnb))
  all_goals first
    | (have HKb := Aside0.mk (blk_set (blk_set (blk_set HNx.out 0 (.func (.func 101) #[] #[])) 1 (.func (.func 102) #[] #[])) 2 (.func (.func 103) #[] #[])); have HOb := Aside0.mk (blk_far (blk_far (blk_far H0x.out (p := ⟨w.heap.size + 1, 0, none⟩) (show w.heap.size ≠ w.heap.size + 1 by omega) (.func (.func 101) #[] #[])) (p := ⟨w.heap.size + 1, 1, none⟩) (show w.heap.size ≠ w.heap.size + 1 by omega) (.func (.func 102) #[] #[])) (p := ⟨w.heap.size + 1, 2, none⟩) (show w.heap.size ≠ w.heap.size + 1 by omega) (.func (.func 103) #[] #[])); have HBb := Aside0.mk (below_set (below_set (below_set HBx.out (Nat.le_succ _) (j := 0) (v := .func (.func 101) #[] #[])) (Nat.le_succ _) (j := 1) (v := .func (.func 102) #[] #[])) (Nat.le_succ _) (j := 2) (v := .func (.func 103) #[] #[])); simp only [List.setIfInBounds_toArray, List.set_cons_zero, List.set_cons_succ] at HKb; clear HNx HBx H0x hcx hcx2 hlk hlk2 hc H0 HB HK hm n0 n1 n2 f0 f1 f2; revert HKb HOb HBb; refine leaf3 (b := w.heap.size + 1) (c := w.heap.size) (w := w) ?_; intro W3 HOb HBb HKb)
    | (have HKb := Aside0.mk (blk_new W1 (.cells #[.func (.func 101) #[] #[], .func (.func 102) #[] #[], .func (.func 103) #[] #[]] 91)); have HOb := Aside0.mk (blk_alloc H0x.out (.cells #[.func (.func 101) #[] #[], .func (.func 102) #[] #[], .func (.func 103) #[] #[]] 91)); have HBb := Aside0.mk (below_alloc HBx.out (.cells #[.func (.func 101) #[] #[], .func (.func 102) #[] #[], .func (.func 103) #[] #[]] 91)); clear HBx H0x hcx hcx2 hlk hlk2 hc H0 HB HK hm; generalize W1.heap.size = b3 at *; generalize W1.alloc (.cells #[.func (.func 101) #[] #[], .func (.func 102) #[] #[], .func (.func 103) #[] #[]] 91) = W3 at *)
    | (fail "no leaf")
  all_goals
    have c1 := blk_cell HOb.out 1
    have c0 := blk_cell HKb.out 0
    simp only [List.getElem?_toArray, List.getElem?_cons_zero, List.getElem?_cons_succ] at c0 c1
    go_wp2_with fail
    refine (HKey.out _).mono ?_
    rintro e W4 ⟨rfl, hd⟩
    have hb4 := drawn_below hd
    replace HOb := Aside0.mk (blk_below HOb.out hb4)
    replace HKb := Aside0.mk (blk_below HKb.out hb4)
    replace HBb := Aside0.mk (below_step HBb.out hb4)
    clear hd hb4 c0 c1
    have c0 := blk_cell HKb.out 0
    simp only [List.getElem?_toArray, List.getElem?_cons_zero, List.getElem?_cons_succ] at c0
  all_goals
    cases hkb : keyB a0_1.data.toList with
    | false =>
      go_wp2_with fail
      go_ret
      exact ⟨by simp [Act.put, Act.eval, hkb], HBb.out⟩
    | true =>
      have d0 := blk_cell HOb.out 0
      have d1 := blk_cell HOb.out 1
      have d2 := blk_cell HOb.out 2
      have d3 := blk_cell HOb.out 3
      simp only [List.getElem?_toArray, List.getElem?_cons_zero, List.getElem?_cons_succ] at d0 d1 d2 d3
      go_wp2_with fail
      refine (incs_calls 0 a0_1 a0_2 a0_3 _).mono ?_
      rintro e W5 ⟨rfl, hb5⟩
      replace HBb := Aside0.mk (below_step HBb.out hb5)
      clear hb5
      go_wp2_with fail
      go_ret
      exact ⟨by simp [Act.put, Act.eval, hkb], HBb.out⟩
set_option maxHeartbeats 4000000 in
set_option maxRecDepth 100000 in
theorem opsMay_1 (a0_1 a0_2 : ByteArray) (a0_3 : Int) (w : World) (hs1 : a0_1.size ≤ 9223372036854775807) (hs2 : a0_2.size ≤ 9223372036854775807) :
    Calls Tryz.prog 27 #[.agg #[.int .i64 1, .string a0_1, .string a0_2, .int .i64 a0_3]] w fun e w' => e = .returned (.bool (keyB a0_1.data.toList && nameB a0_2 a0_3)) ∧ Below w.heap.size w w' := by
  have HKey := Aside0.mk (fun W => ops_Key.calls a0_1 (keyB a0_1.data.toList) W (by simp [ops_Key.f, hs1]))
  have H0 := Aside0.mk (blk_new w (.cells #[.int .i64 1, .string a0_1, .string a0_2, .int .i64 a0_3] 28))
  have HB := Aside0.mk (below_alloc (Below.refl w.heap.size w) (.cells #[.int .i64 1, .string a0_1, .string a0_2, .int .i64 a0_3] 28))
  go_enter Tryz.func27, Tryz.ntmps27
  go_wp2_with fail
  have HK : Aside0 (∀ W : World, Calls Tryz.prog 75 #[] W fun e w' => ∃ r, e = .returned (.map (some r)) ∧ w'.heap[r]? = some (.map kindsV 4) ∧ Below W.heap.size W w') := ⟨fun W => kinds_calls W⟩
  have hc := blk_cell H0.out 0
  simp only [List.getElem?_toArray, List.getElem?_cons_zero] at hc
  have hlk : ∀ (W : World) (m : Nat), W.heap[m]? = some (.map kindsV 4) → (Instr.lookup 93 (.map (some m)) (.int .i64 1) true).run Tryz.prog W = .ok (.tuple #[.agg #[.func (.func 106) #[] #[], .func (.func 107) #[] #[], .func (.func 108) #[] #[]], .bool true]) W := fun W m hm => run_lookup_int W 93 3 91 .i64 m 4 kindsV 1 1 _ Tryz.underlying93 Tryz.underlying3 hm (by rfl)
  have hlk2 : ∀ (W : World) (m : Nat) (Z : Obj), W.heap[m]? = some (.map kindsV 4) → (Instr.lookup 93 (.map (some m)) (.int .i64 1) true).run Tryz.prog (W.alloc Z) = .ok (.tuple #[.agg #[.func (.func 106) #[] #[], .func (.func 107) #[] #[], .func (.func 108) #[] #[]], .bool true]) (W.alloc Z) := fun W m Z hm => hlk _ _ (((MapKept.heap_alloc W Z).2 m (lt_of_blk hm)).trans hm)
  go_region_law (first
    | (go_simp; go_at_call 75; refine (HK.out _).mono ?_; rintro e W1 ⟨m, rfl, hm, hb⟩; have H0x := Aside0.mk (blk_below (blk_drew H0.out) hb); have HBx := Aside0.mk (below_step (below_drew HB.out) hb); have hcx := blk_cell H0x.out 0; simp only [List.getElem?_toArray, List.getElem?_cons_zero] at hcx; have hcx2 : ∀ Z : Obj, (W1.alloc Z).cell? ⟨w.heap.size, 0, none⟩ = some (.int .i64 1) := fun Z => blk_cell (blk_alloc H0x.out Z) 0; clear hb)
    | (go_simp; go_at_call 75; refine (HK.out _).mono ?_; rintro e W1 ⟨m, rfl, hm, hb⟩; have H0x := Aside0.mk (blk_below (blk_drew (blk_alloc H0.out _)) hb); have HBx := Aside0.mk (below_step (below_drew (below_alloc HB.out _)) hb); have hcx := blk_cell H0x.out 0; simp only [List.getElem?_toArray, List.getElem?_cons_zero] at hcx; have hcx2 : ∀ Z : Obj, (W1.alloc Z).cell? ⟨w.heap.size, 0, none⟩ = some (.int .i64 1) := fun Z => blk_cell (blk_alloc H0x.out Z) 0; have hnb := blk_below (blk_drew (blk_new (w.alloc (.cells #[.int .i64 1, .string a0_1, .string a0_2, .int .i64 a0_3] 28)) (.cells #[Value.nilFunc, Value.nilFunc, Value.nilFunc] 91))) hb; simp only [World.size_alloc] at hnb; have n0 := blk_cell hnb 0; have n1 := blk_cell hnb 1; have n2 := blk_cell hnb 2; have f0 := blk_frozen hnb 0; have f1 := blk_frozen hnb 1; have f2 := blk_frozen hnb 2; simp only [List.getElem?_toArray, List.getElem?_cons_zero, List.getElem?_cons_succ] at n0 n1 n2; have HNx := Aside0.mk hnb; clear hb hnb))
  all_goals first
    | (have HKb := Aside0.mk (blk_set (blk_set (blk_set HNx.out 0 (.func (.func 106) #[] #[])) 1 (.func (.func 107) #[] #[])) 2 (.func (.func 108) #[] #[])); have HOb := Aside0.mk (blk_far (blk_far (blk_far H0x.out (p := ⟨w.heap.size + 1, 0, none⟩) (show w.heap.size ≠ w.heap.size + 1 by omega) (.func (.func 106) #[] #[])) (p := ⟨w.heap.size + 1, 1, none⟩) (show w.heap.size ≠ w.heap.size + 1 by omega) (.func (.func 107) #[] #[])) (p := ⟨w.heap.size + 1, 2, none⟩) (show w.heap.size ≠ w.heap.size + 1 by omega) (.func (.func 108) #[] #[])); have HBb := Aside0.mk (below_set (below_set (below_set HBx.out (Nat.le_succ _) (j := 0) (v := .func (.func 106) #[] #[])) (Nat.le_succ _) (j := 1) (v := .func (.func 107) #[] #[])) (Nat.le_succ _) (j := 2) (v := .func (.func 108) #[] #[])); simp only [List.setIfInBounds_toArray, List.set_cons_zero, List.set_cons_succ] at HKb; clear HNx HBx H0x hcx hcx2 hlk hlk2 hc H0 HB HK hm n0 n1 n2 f0 f1 f2; revert HKb HOb HBb; refine leaf3 (b := w.heap.size + 1) (c := w.heap.size) (w := w) ?_; intro W3 HOb HBb HKb)
    | (have HKb := Aside0.mk (blk_new W1 (.cells #[.func (.func 106) #[] #[], .func (.func 107) #[] #[], .func (.func 108) #[] #[]] 91)); have HOb := Aside0.mk (blk_alloc H0x.out (.cells #[.func (.func 106) #[] #[], .func (.func 107) #[] #[], .func (.func 108) #[] #[]] 91)); have HBb := Aside0.mk (below_alloc HBx.out (.cells #[.func (.func 106) #[] #[], .func (.func 107) #[] #[], .func (.func 108) #[] #[]] 91)); clear HBx H0x hcx hcx2 hlk hlk2 hc H0 HB HK hm; generalize W1.heap.size = b3 at *; generalize W1.alloc (.cells #[.func (.func 106) #[] #[], .func (.func 107) #[] #[], .func (.func 108) #[] #[]] 91) = W3 at *)
    | (fail "no leaf")
  all_goals
    have c1 := blk_cell HOb.out 1
    have c0 := blk_cell HKb.out 0
    simp only [List.getElem?_toArray, List.getElem?_cons_zero, List.getElem?_cons_succ] at c0 c1
    go_wp2_with fail
    refine (HKey.out _).mono ?_
    rintro e W4 ⟨rfl, hd⟩
    have hb4 := drawn_below hd
    replace HOb := Aside0.mk (blk_below HOb.out hb4)
    replace HKb := Aside0.mk (blk_below HKb.out hb4)
    replace HBb := Aside0.mk (below_step HBb.out hb4)
    clear hd hb4 c0 c1
    have c0 := blk_cell HKb.out 0
    simp only [List.getElem?_toArray, List.getElem?_cons_zero, List.getElem?_cons_succ] at c0
  all_goals
    cases hkb : keyB a0_1.data.toList with
    | false =>
      go_wp2_with fail
      go_ret
      exact ⟨by simp [Act.put, Act.eval, hkb], HBb.out⟩
    | true =>
      have d0 := blk_cell HOb.out 0
      have d1 := blk_cell HOb.out 1
      have d2 := blk_cell HOb.out 2
      have d3 := blk_cell HOb.out 3
      simp only [List.getElem?_toArray, List.getElem?_cons_zero, List.getElem?_cons_succ] at d0 d1 d2 d3
      go_wp2_with fail
      refine (names_calls 1 a0_1 a0_2 a0_3 _ hs2).mono ?_
      rintro e W5 ⟨rfl, hb5⟩
      replace HBb := Aside0.mk (below_step HBb.out hb5)
      clear hb5
      go_wp2_with fail
      go_ret
      exact ⟨by simp [Act.put, Act.eval, hkb], HBb.out⟩
set_option maxHeartbeats 4000000 in
set_option maxRecDepth 100000 in
theorem opsMay_2 (a0_1 a0_2 : ByteArray) (a0_3 : Int) (w : World) (hs1 : a0_1.size ≤ 9223372036854775807) (hs2 : a0_2.size ≤ 9223372036854775807) :
    Calls Tryz.prog 27 #[.agg #[.int .i64 2, .string a0_1, .string a0_2, .int .i64 a0_3]] w fun e w' => e = .returned (.bool (keyB a0_1.data.toList && nameB a0_2 a0_3)) ∧ Below w.heap.size w w' := by
  have HKey := Aside0.mk (fun W => ops_Key.calls a0_1 (keyB a0_1.data.toList) W (by simp [ops_Key.f, hs1]))
  have H0 := Aside0.mk (blk_new w (.cells #[.int .i64 2, .string a0_1, .string a0_2, .int .i64 a0_3] 28))
  have HB := Aside0.mk (below_alloc (Below.refl w.heap.size w) (.cells #[.int .i64 2, .string a0_1, .string a0_2, .int .i64 a0_3] 28))
  go_enter Tryz.func27, Tryz.ntmps27
  go_wp2_with fail
  have HK : Aside0 (∀ W : World, Calls Tryz.prog 75 #[] W fun e w' => ∃ r, e = .returned (.map (some r)) ∧ w'.heap[r]? = some (.map kindsV 4) ∧ Below W.heap.size W w') := ⟨fun W => kinds_calls W⟩
  have hc := blk_cell H0.out 0
  simp only [List.getElem?_toArray, List.getElem?_cons_zero] at hc
  have hlk : ∀ (W : World) (m : Nat), W.heap[m]? = some (.map kindsV 4) → (Instr.lookup 93 (.map (some m)) (.int .i64 2) true).run Tryz.prog W = .ok (.tuple #[.agg #[.func (.func 106) #[] #[], .func (.func 107) #[] #[], .func (.func 108) #[] #[]], .bool true]) W := fun W m hm => run_lookup_int W 93 3 91 .i64 m 4 kindsV 2 2 _ Tryz.underlying93 Tryz.underlying3 hm (by rfl)
  have hlk2 : ∀ (W : World) (m : Nat) (Z : Obj), W.heap[m]? = some (.map kindsV 4) → (Instr.lookup 93 (.map (some m)) (.int .i64 2) true).run Tryz.prog (W.alloc Z) = .ok (.tuple #[.agg #[.func (.func 106) #[] #[], .func (.func 107) #[] #[], .func (.func 108) #[] #[]], .bool true]) (W.alloc Z) := fun W m Z hm => hlk _ _ (((MapKept.heap_alloc W Z).2 m (lt_of_blk hm)).trans hm)
  go_region_law (first
    | (go_simp; go_at_call 75; refine (HK.out _).mono ?_; rintro e W1 ⟨m, rfl, hm, hb⟩; have H0x := Aside0.mk (blk_below (blk_drew H0.out) hb); have HBx := Aside0.mk (below_step (below_drew HB.out) hb); have hcx := blk_cell H0x.out 0; simp only [List.getElem?_toArray, List.getElem?_cons_zero] at hcx; have hcx2 : ∀ Z : Obj, (W1.alloc Z).cell? ⟨w.heap.size, 0, none⟩ = some (.int .i64 2) := fun Z => blk_cell (blk_alloc H0x.out Z) 0; clear hb)
    | (go_simp; go_at_call 75; refine (HK.out _).mono ?_; rintro e W1 ⟨m, rfl, hm, hb⟩; have H0x := Aside0.mk (blk_below (blk_drew (blk_alloc H0.out _)) hb); have HBx := Aside0.mk (below_step (below_drew (below_alloc HB.out _)) hb); have hcx := blk_cell H0x.out 0; simp only [List.getElem?_toArray, List.getElem?_cons_zero] at hcx; have hcx2 : ∀ Z : Obj, (W1.alloc Z).cell? ⟨w.heap.size, 0, none⟩ = some (.int .i64 2) := fun Z => blk_cell (blk_alloc H0x.out Z) 0; have hnb := blk_below (blk_drew (blk_new (w.alloc (.cells #[.int .i64 2, .string a0_1, .string a0_2, .int .i64 a0_3] 28)) (.cells #[Value.nilFunc, Value.nilFunc, Value.nilFunc] 91))) hb; simp only [World.size_alloc] at hnb; have n0 := blk_cell hnb 0; have n1 := blk_cell hnb 1; have n2 := blk_cell hnb 2; have f0 := blk_frozen hnb 0; have f1 := blk_frozen hnb 1; have f2 := blk_frozen hnb 2; simp only [List.getElem?_toArray, List.getElem?_cons_zero, List.getElem?_cons_succ] at n0 n1 n2; have HNx := Aside0.mk hnb; clear hb hnb))
  all_goals first
    | (have HKb := Aside0.mk (blk_set (blk_set (blk_set HNx.out 0 (.func (.func 106) #[] #[])) 1 (.func (.func 107) #[] #[])) 2 (.func (.func 108) #[] #[])); have HOb := Aside0.mk (blk_far (blk_far (blk_far H0x.out (p := ⟨w.heap.size + 1, 0, none⟩) (show w.heap.size ≠ w.heap.size + 1 by omega) (.func (.func 106) #[] #[])) (p := ⟨w.heap.size + 1, 1, none⟩) (show w.heap.size ≠ w.heap.size + 1 by omega) (.func (.func 107) #[] #[])) (p := ⟨w.heap.size + 1, 2, none⟩) (show w.heap.size ≠ w.heap.size + 1 by omega) (.func (.func 108) #[] #[])); have HBb := Aside0.mk (below_set (below_set (below_set HBx.out (Nat.le_succ _) (j := 0) (v := .func (.func 106) #[] #[])) (Nat.le_succ _) (j := 1) (v := .func (.func 107) #[] #[])) (Nat.le_succ _) (j := 2) (v := .func (.func 108) #[] #[])); simp only [List.setIfInBounds_toArray, List.set_cons_zero, List.set_cons_succ] at HKb; clear HNx HBx H0x hcx hcx2 hlk hlk2 hc H0 HB HK hm n0 n1 n2 f0 f1 f2; revert HKb HOb HBb; refine leaf3 (b := w.heap.size + 1) (c := w.heap.size) (w := w) ?_; intro W3 HOb HBb HKb)
    | (have HKb := Aside0.mk (blk_new W1 (.cells #[.func (.func 106) #[] #[], .func (.func 107) #[] #[], .func (.func 108) #[] #[]] 91)); have HOb := Aside0.mk (blk_alloc H0x.out (.cells #[.func (.func 106) #[] #[], .func (.func 107) #[] #[], .func (.func 108) #[] #[]] 91)); have HBb := Aside0.mk (below_alloc HBx.out (.cells #[.func (.func 106) #[] #[], .func (.func 107) #[] #[], .func (.func 108) #[] #[]] 91)); clear HBx H0x hcx hcx2 hlk hlk2 hc H0 HB HK hm; generalize W1.heap.size = b3 at *; generalize W1.alloc (.cells #[.func (.func 106) #[] #[], .func (.func 107) #[] #[], .func (.func 108) #[] #[]] 91) = W3 at *)
    | (fail "no leaf")
  all_goals
    have c1 := blk_cell HOb.out 1
    have c0 := blk_cell HKb.out 0
    simp only [List.getElem?_toArray, List.getElem?_cons_zero, List.getElem?_cons_succ] at c0 c1
    go_wp2_with fail
    refine (HKey.out _).mono ?_
    rintro e W4 ⟨rfl, hd⟩
    have hb4 := drawn_below hd
    replace HOb := Aside0.mk (blk_below HOb.out hb4)
    replace HKb := Aside0.mk (blk_below HKb.out hb4)
    replace HBb := Aside0.mk (below_step HBb.out hb4)
    clear hd hb4 c0 c1
    have c0 := blk_cell HKb.out 0
    simp only [List.getElem?_toArray, List.getElem?_cons_zero, List.getElem?_cons_succ] at c0
  all_goals
    cases hkb : keyB a0_1.data.toList with
    | false =>
      go_wp2_with fail
      go_ret
      exact ⟨by simp [Act.put, Act.eval, hkb], HBb.out⟩
    | true =>
      have d0 := blk_cell HOb.out 0
      have d1 := blk_cell HOb.out 1
      have d2 := blk_cell HOb.out 2
      have d3 := blk_cell HOb.out 3
      simp only [List.getElem?_toArray, List.getElem?_cons_zero, List.getElem?_cons_succ] at d0 d1 d2 d3
      go_wp2_with fail
      refine (names_calls 2 a0_1 a0_2 a0_3 _ hs2).mono ?_
      rintro e W5 ⟨rfl, hb5⟩
      replace HBb := Aside0.mk (below_step HBb.out hb5)
      clear hb5
      go_wp2_with fail
      go_ret
      exact ⟨by simp [Act.put, Act.eval, hkb], HBb.out⟩
set_option maxHeartbeats 4000000 in
set_option maxRecDepth 100000 in
theorem opsMay_3 (a0_1 a0_2 : ByteArray) (a0_3 : Int) (w : World) (hs1 : a0_1.size ≤ 9223372036854775807) (hs2 : a0_2.size ≤ 9223372036854775807) :
    Calls Tryz.prog 27 #[.agg #[.int .i64 3, .string a0_1, .string a0_2, .int .i64 a0_3]] w fun e w' => e = .returned (.bool (keyB a0_1.data.toList && nameB a0_2 a0_3)) ∧ Below w.heap.size w w' := by
  have HKey := Aside0.mk (fun W => ops_Key.calls a0_1 (keyB a0_1.data.toList) W (by simp [ops_Key.f, hs1]))
  have H0 := Aside0.mk (blk_new w (.cells #[.int .i64 3, .string a0_1, .string a0_2, .int .i64 a0_3] 28))
  have HB := Aside0.mk (below_alloc (Below.refl w.heap.size w) (.cells #[.int .i64 3, .string a0_1, .string a0_2, .int .i64 a0_3] 28))
  go_enter Tryz.func27, Tryz.ntmps27
  go_wp2_with fail
  have HK : Aside0 (∀ W : World, Calls Tryz.prog 75 #[] W fun e w' => ∃ r, e = .returned (.map (some r)) ∧ w'.heap[r]? = some (.map kindsV 4) ∧ Below W.heap.size W w') := ⟨fun W => kinds_calls W⟩
  have hc := blk_cell H0.out 0
  simp only [List.getElem?_toArray, List.getElem?_cons_zero] at hc
  have hlk : ∀ (W : World) (m : Nat), W.heap[m]? = some (.map kindsV 4) → (Instr.lookup 93 (.map (some m)) (.int .i64 3) true).run Tryz.prog W = .ok (.tuple #[.agg #[.func (.func 106) #[] #[], .func (.func 107) #[] #[], .func (.func 108) #[] #[]], .bool true]) W := fun W m hm => run_lookup_int W 93 3 91 .i64 m 4 kindsV 3 3 _ Tryz.underlying93 Tryz.underlying3 hm (by rfl)
  have hlk2 : ∀ (W : World) (m : Nat) (Z : Obj), W.heap[m]? = some (.map kindsV 4) → (Instr.lookup 93 (.map (some m)) (.int .i64 3) true).run Tryz.prog (W.alloc Z) = .ok (.tuple #[.agg #[.func (.func 106) #[] #[], .func (.func 107) #[] #[], .func (.func 108) #[] #[]], .bool true]) (W.alloc Z) := fun W m Z hm => hlk _ _ (((MapKept.heap_alloc W Z).2 m (lt_of_blk hm)).trans hm)
  go_region_law (first
    | (go_simp; go_at_call 75; refine (HK.out _).mono ?_; rintro e W1 ⟨m, rfl, hm, hb⟩; have H0x := Aside0.mk (blk_below (blk_drew H0.out) hb); have HBx := Aside0.mk (below_step (below_drew HB.out) hb); have hcx := blk_cell H0x.out 0; simp only [List.getElem?_toArray, List.getElem?_cons_zero] at hcx; have hcx2 : ∀ Z : Obj, (W1.alloc Z).cell? ⟨w.heap.size, 0, none⟩ = some (.int .i64 3) := fun Z => blk_cell (blk_alloc H0x.out Z) 0; clear hb)
    | (go_simp; go_at_call 75; refine (HK.out _).mono ?_; rintro e W1 ⟨m, rfl, hm, hb⟩; have H0x := Aside0.mk (blk_below (blk_drew (blk_alloc H0.out _)) hb); have HBx := Aside0.mk (below_step (below_drew (below_alloc HB.out _)) hb); have hcx := blk_cell H0x.out 0; simp only [List.getElem?_toArray, List.getElem?_cons_zero] at hcx; have hcx2 : ∀ Z : Obj, (W1.alloc Z).cell? ⟨w.heap.size, 0, none⟩ = some (.int .i64 3) := fun Z => blk_cell (blk_alloc H0x.out Z) 0; have hnb := blk_below (blk_drew (blk_new (w.alloc (.cells #[.int .i64 3, .string a0_1, .string a0_2, .int .i64 a0_3] 28)) (.cells #[Value.nilFunc, Value.nilFunc, Value.nilFunc] 91))) hb; simp only [World.size_alloc] at hnb; have n0 := blk_cell hnb 0; have n1 := blk_cell hnb 1; have n2 := blk_cell hnb 2; have f0 := blk_frozen hnb 0; have f1 := blk_frozen hnb 1; have f2 := blk_frozen hnb 2; simp only [List.getElem?_toArray, List.getElem?_cons_zero, List.getElem?_cons_succ] at n0 n1 n2; have HNx := Aside0.mk hnb; clear hb hnb))
  all_goals first
    | (have HKb := Aside0.mk (blk_set (blk_set (blk_set HNx.out 0 (.func (.func 106) #[] #[])) 1 (.func (.func 107) #[] #[])) 2 (.func (.func 108) #[] #[])); have HOb := Aside0.mk (blk_far (blk_far (blk_far H0x.out (p := ⟨w.heap.size + 1, 0, none⟩) (show w.heap.size ≠ w.heap.size + 1 by omega) (.func (.func 106) #[] #[])) (p := ⟨w.heap.size + 1, 1, none⟩) (show w.heap.size ≠ w.heap.size + 1 by omega) (.func (.func 107) #[] #[])) (p := ⟨w.heap.size + 1, 2, none⟩) (show w.heap.size ≠ w.heap.size + 1 by omega) (.func (.func 108) #[] #[])); have HBb := Aside0.mk (below_set (below_set (below_set HBx.out (Nat.le_succ _) (j := 0) (v := .func (.func 106) #[] #[])) (Nat.le_succ _) (j := 1) (v := .func (.func 107) #[] #[])) (Nat.le_succ _) (j := 2) (v := .func (.func 108) #[] #[])); simp only [List.setIfInBounds_toArray, List.set_cons_zero, List.set_cons_succ] at HKb; clear HNx HBx H0x hcx hcx2 hlk hlk2 hc H0 HB HK hm n0 n1 n2 f0 f1 f2; revert HKb HOb HBb; refine leaf3 (b := w.heap.size + 1) (c := w.heap.size) (w := w) ?_; intro W3 HOb HBb HKb)
    | (have HKb := Aside0.mk (blk_new W1 (.cells #[.func (.func 106) #[] #[], .func (.func 107) #[] #[], .func (.func 108) #[] #[]] 91)); have HOb := Aside0.mk (blk_alloc H0x.out (.cells #[.func (.func 106) #[] #[], .func (.func 107) #[] #[], .func (.func 108) #[] #[]] 91)); have HBb := Aside0.mk (below_alloc HBx.out (.cells #[.func (.func 106) #[] #[], .func (.func 107) #[] #[], .func (.func 108) #[] #[]] 91)); clear HBx H0x hcx hcx2 hlk hlk2 hc H0 HB HK hm; generalize W1.heap.size = b3 at *; generalize W1.alloc (.cells #[.func (.func 106) #[] #[], .func (.func 107) #[] #[], .func (.func 108) #[] #[]] 91) = W3 at *)
    | (fail "no leaf")
  all_goals
    have c1 := blk_cell HOb.out 1
    have c0 := blk_cell HKb.out 0
    simp only [List.getElem?_toArray, List.getElem?_cons_zero, List.getElem?_cons_succ] at c0 c1
    go_wp2_with fail
    refine (HKey.out _).mono ?_
    rintro e W4 ⟨rfl, hd⟩
    have hb4 := drawn_below hd
    replace HOb := Aside0.mk (blk_below HOb.out hb4)
    replace HKb := Aside0.mk (blk_below HKb.out hb4)
    replace HBb := Aside0.mk (below_step HBb.out hb4)
    clear hd hb4 c0 c1
    have c0 := blk_cell HKb.out 0
    simp only [List.getElem?_toArray, List.getElem?_cons_zero, List.getElem?_cons_succ] at c0
  all_goals
    cases hkb : keyB a0_1.data.toList with
    | false =>
      go_wp2_with fail
      go_ret
      exact ⟨by simp [Act.put, Act.eval, hkb], HBb.out⟩
    | true =>
      have d0 := blk_cell HOb.out 0
      have d1 := blk_cell HOb.out 1
      have d2 := blk_cell HOb.out 2
      have d3 := blk_cell HOb.out 3
      simp only [List.getElem?_toArray, List.getElem?_cons_zero, List.getElem?_cons_succ] at d0 d1 d2 d3
      go_wp2_with fail
      refine (names_calls 3 a0_1 a0_2 a0_3 _ hs2).mono ?_
      rintro e W5 ⟨rfl, hb5⟩
      replace HBb := Aside0.mk (below_step HBb.out hb5)
      clear hb5
      go_wp2_with fail
      go_ret
      exact ⟨by simp [Act.put, Act.eval, hkb], HBb.out⟩
end Go.Proofs.YtmcddoolniaehaaGreat.S
end
section
namespace Go.Proofs.YtmcddoolniaehaaGreat.S
open Go.RowKit Go.Proofs.YtmcddoolniaehaaGreatW.PrintWords Go.Proofs.YtmcddoolniaehaaGreatW.PrintLast Go.Proofs.YtmcddoolniaehaaGreatW.PrintMore Go.Proofs.YtmcddoolniaehaaGreatW
set_option linter.unusedVariables false
set_option linter.unusedSimpArgs false
set_option maxHeartbeats 2000000 in
set_option maxRecDepth 100000 in
theorem ops_May.calls (a0_0 : Int) (a0_1 : ByteArray) (a0_2 : ByteArray) (a0_3 : Int) (r : Bool) (w : World) (h : ops_May.f a0_0 a0_1 a0_2 a0_3 = some r) :
    Calls Tryz.prog 27 #[.agg #[.int .i64 a0_0, .string a0_1, .string a0_2, .int .i64 a0_3]] w fun e w' => e = .returned (.bool r) ∧ Below w.heap.size w w' := by
  obtain ⟨hs1, hs2⟩ : a0_1.size ≤ 9223372036854775807 ∧ a0_2.size ≤ 9223372036854775807 := by
    by_cases q : a0_1.size ≤ 9223372036854775807 ∧ a0_2.size ≤ 9223372036854775807
    · exact q
    · simp [ops_May.f, q] at h
  obtain rfl : opB a0_0 a0_1 a0_2 a0_3 = r := by simpa [ops_May.f, hs1, hs2] using h
  clear h
  have hk := Aside0.mk (fun W => ops_Key.calls a0_1 (keyB a0_1.data.toList) W (by simp [ops_Key.f, hs1]))
  have H0 := Aside0.mk (blk_new w (.cells #[.int .i64 a0_0, .string a0_1, .string a0_2, .int .i64 a0_3] 28))
  have HB := Aside0.mk (below_alloc (Below.refl w.heap.size w) (.cells #[.int .i64 a0_0, .string a0_1, .string a0_2, .int .i64 a0_3] 28))
  by_cases h0 : a0_0 = 0
  · subst h0; rw [show opB 0 a0_1 a0_2 a0_3 = (keyB a0_1.data.toList && incB a0_2 a0_3) from by simp [opB]]; exact opsMay_0 a0_1 a0_2 a0_3 w hs1 hs2
  by_cases h1 : a0_0 = 1
  · subst h1; rw [show opB 1 a0_1 a0_2 a0_3 = (keyB a0_1.data.toList && nameB a0_2 a0_3) from by simp [opB]]; exact opsMay_1 a0_1 a0_2 a0_3 w hs1 hs2
  by_cases h2 : a0_0 = 2
  · subst h2; rw [show opB 2 a0_1 a0_2 a0_3 = (keyB a0_1.data.toList && nameB a0_2 a0_3) from by simp [opB]]; exact opsMay_2 a0_1 a0_2 a0_3 w hs1 hs2
  by_cases h3 : a0_0 = 3
  · subst h3; rw [show opB 3 a0_1 a0_2 a0_3 = (keyB a0_1.data.toList && nameB a0_2 a0_3) from by simp [opB]]; exact opsMay_3 a0_1 a0_2 a0_3 w hs1 hs2
  have hq : opB a0_0 a0_1 a0_2 a0_3 = false := by simp [opB, h0, h1, h2, h3]
  rw [hq]
  have hf := Aside0.mk (find_not h0 h1 h2 h3)
  go_enter Tryz.func27, Tryz.ntmps27
  go_wp2_with fail
  have HK : Aside0 (∀ W : World, Calls Tryz.prog 75 #[] W fun e w' => ∃ r, e = .returned (.map (some r)) ∧ w'.heap[r]? = some (.map kindsV 4) ∧ Below W.heap.size W w') := ⟨fun W => kinds_calls W⟩
  have hc := blk_cell H0.out 0
  simp only [List.getElem?_toArray, List.getElem?_cons_zero] at hc
  have hlk : ∀ (W : World) (m : Nat), W.heap[m]? = some (.map kindsV 4) → (Instr.lookup 93 (.map (some m)) (.int .i64 a0_0) true).run Tryz.prog W = .ok (.tuple #[.agg #[.nilFunc, .nilFunc, .nilFunc], .bool false]) W := fun W m hm => run_lookup_int_none W 93 3 91 .i64 m 4 kindsV a0_0 _ Tryz.underlying93 Tryz.underlying3 hm (Tryz.zeroValue91 W) hf.out
  have hlk2 : ∀ (W : World) (m : Nat) (Z : Obj), W.heap[m]? = some (.map kindsV 4) → (Instr.lookup 93 (.map (some m)) (.int .i64 a0_0) true).run Tryz.prog (W.alloc Z) = .ok (.tuple #[.agg #[.nilFunc, .nilFunc, .nilFunc], .bool false]) (W.alloc Z) := fun W m Z hm => hlk _ _ (((MapKept.heap_alloc W Z).2 m (lt_of_blk hm)).trans hm)
  go_region_law (first
    | (go_simp; go_at_call 75; refine (HK.out _).mono ?_; rintro e W1 ⟨m, rfl, hm, hb⟩; have H0x := Aside0.mk (blk_below (blk_drew H0.out) hb); have HBx := Aside0.mk (below_step (below_drew HB.out) hb); have hcx := blk_cell H0x.out 0; simp only [List.getElem?_toArray, List.getElem?_cons_zero] at hcx; have hcx2 : ∀ Z : Obj, (W1.alloc Z).cell? ⟨w.heap.size, 0, none⟩ = some (.int .i64 a0_0) := fun Z => blk_cell (blk_alloc H0x.out Z) 0; clear hb)
    | (go_simp; go_at_call 75; refine (HK.out _).mono ?_; rintro e W1 ⟨m, rfl, hm, hb⟩; have H0x := Aside0.mk (blk_below (blk_drew (blk_alloc H0.out _)) hb); have HBx := Aside0.mk (below_step (below_drew (below_alloc HB.out _)) hb); have hcx := blk_cell H0x.out 0; simp only [List.getElem?_toArray, List.getElem?_cons_zero] at hcx; have hcx2 : ∀ Z : Obj, (W1.alloc Z).cell? ⟨w.heap.size, 0, none⟩ = some (.int .i64 a0_0) := fun Z => blk_cell (blk_alloc H0x.out Z) 0; have hnb := blk_below (blk_drew (blk_new (w.alloc (.cells #[.int .i64 a0_0, .string a0_1, .string a0_2, .int .i64 a0_3] 28)) (.cells #[Value.nilFunc, Value.nilFunc, Value.nilFunc] 91))) hb; simp only [World.size_alloc] at hnb; have n0 := blk_cell hnb 0; have n1 := blk_cell hnb 1; have n2 := blk_cell hnb 2; have f0 := blk_frozen hnb 0; have f1 := blk_frozen hnb 1; have f2 := blk_frozen hnb 2; simp only [List.getElem?_toArray, List.getElem?_cons_zero, List.getElem?_cons_succ] at n0 n1 n2; clear hb hnb))
  all_goals
    go_wp2_with fail
    go_ret
    refine ⟨rfl, ?_⟩
    have hsz := HBx.out.size
    repeat (first | exact HBx.out | apply below_drew | (refine below_set ?_ (by first | omega | (simp; done) | (simp; omega))) | apply below_alloc)
end Go.Proofs.YtmcddoolniaehaaGreat.S
end
section
namespace Go.Proofs.YtmcddoolniaehaaGreat.S
open Go.RowKit Go.Proofs.YtmcddoolniaehaaGreatW.PrintWords Go.Proofs.YtmcddoolniaehaaGreatW.PrintLast Go.Proofs.YtmcddoolniaehaaGreatW.PrintMore Go.Proofs.YtmcddoolniaehaaGreatW
set_option linter.unusedVariables false
set_option linter.unusedSimpArgs false
def state_May.f (k : Nat) (l0_0 : List (S73)) (l0_1 : List (S47)) (l0_2 : List (S43)) : Option Bool := (ctr_May.f k l0_0).bind fun t0 => (if t0 = true then ((reg_May.f k l0_1).bind fun t1 => (if t1 = true then ((pair_May.f k l0_2).bind fun t2 => (some t2)) else (some false))) else (some false))
set_option maxHeartbeats 4000000 in
set_option maxRecDepth 100000 in
theorem state_May.calls (k : Nat) (A0_0 : Option Addr) (c0_0 : Nat) (l0_0 : List (S73)) (A0_1 : Option Addr) (c0_1 : Nat) (l0_1 : List (S47)) (A0_2 : Option Addr) (c0_2 : Nat) (l0_2 : List (S43)) (r : Bool) (w : World) (hr0_0 : Kd.C k73 w A0_0 l0_0.length l0_0) (hc0_0 : l0_0.length ≤ c0_0) (hr0_1 : Kd.C k47 w A0_1 l0_1.length l0_1) (hc0_1 : l0_1.length ≤ c0_1) (hr0_2 : Kd.C k43 w A0_2 l0_2.length l0_2) (hc0_2 : l0_2.length ≤ c0_2) (h : state_May.f k l0_0 l0_1 l0_2 = some r) :
    Calls Tryz.prog 15 #[.agg #[.slice A0_0 l0_0.length c0_0, .slice A0_1 l0_1.length c0_1, .slice A0_2 l0_2.length c0_2]] w fun e w' => e = .returned (.bool r) ∧ Below w.heap.size w w' := by
  unfold state_May.f at h
  obtain ⟨t0, h0, h⟩ := Option.bind_eq_some_iff.mp h
  have K0 := Aside0.mk (fun (W : World) (hb : Below w.heap.size w W) => ctr_May.calls k A0_0 c0_0 l0_0 _ W (Kd.C_below hr0_0 hb) hc0_0 h0)
  have hx : t0 = false ∧ r = false ∨ t0 = true ∧ ∃ t1, reg_May.f k l0_1 = some t1 ∧ (t1 = false ∧ r = false ∨ t1 = true ∧ pair_May.f k l0_2 = some r) := by
    cases t0 with
    | false => exact .inl ⟨rfl, by simpa using h.symm⟩
    | true =>
      rw [if_pos rfl] at h
      obtain ⟨t1, h1, h⟩ := Option.bind_eq_some_iff.mp h
      refine .inr ⟨rfl, t1, h1, ?_⟩
      cases t1 with
      | false => exact .inl ⟨rfl, by simpa using h.symm⟩
      | true => exact .inr ⟨rfl, by simpa using h⟩
  clear h
  rcases hx with ⟨rfl, rfl⟩ | ⟨rfl, t1, h1, ⟨rfl, rfl⟩ | ⟨rfl, h2⟩⟩
  · skip
    clear hr0_0 hc0_0 hr0_1 hc0_1 hr0_2 hc0_2
    have hBX0 := Bx.new (Below.refl w.heap.size w) (.cells #[.slice A0_0 l0_0.length c0_0, .slice A0_1 l0_1.length c0_1, .slice A0_2 l0_2.length c0_2] 26)
    go_enter Tryz.func15, Tryz.ntmps15
    go_wp2_with fail
    revert hBX0
    generalize (w.alloc (.cells #[.slice A0_0 l0_0.length c0_0, .slice A0_1 l0_1.length c0_1, .slice A0_2 l0_2.length c0_2] 26)) = W1
    intro hBX0
    have s00 := (blk_cell hBX0.x 0).trans rfl; have s01 := (blk_cell hBX0.x 1).trans rfl; have s02 := (blk_cell hBX0.x 2).trans rfl
    go_wp2_with fail
    refine (K0.out _ hBX0.b).mono ?_
    rintro e w2 ⟨rfl, hb⟩
    replace hBX0 := hBX0.go hb
    clear hb s00 s01 s02
    go_wp2
    go_ret
    exact ⟨rfl, hBX0.b⟩
  · have K1 := Aside0.mk (fun (W : World) (hb : Below w.heap.size w W) => reg_May.calls k A0_1 c0_1 l0_1 _ W (Kd.C_below hr0_1 hb) hc0_1 h1)
    clear hr0_0 hc0_0 hr0_1 hc0_1 hr0_2 hc0_2
    have hBX0 := Bx.new (Below.refl w.heap.size w) (.cells #[.slice A0_0 l0_0.length c0_0, .slice A0_1 l0_1.length c0_1, .slice A0_2 l0_2.length c0_2] 26)
    go_enter Tryz.func15, Tryz.ntmps15
    go_wp2_with fail
    revert hBX0
    generalize (w.alloc (.cells #[.slice A0_0 l0_0.length c0_0, .slice A0_1 l0_1.length c0_1, .slice A0_2 l0_2.length c0_2] 26)) = W1
    intro hBX0
    have s00 := (blk_cell hBX0.x 0).trans rfl; have s01 := (blk_cell hBX0.x 1).trans rfl; have s02 := (blk_cell hBX0.x 2).trans rfl
    go_wp2_with fail
    refine (K0.out _ hBX0.b).mono ?_
    rintro e w2 ⟨rfl, hb⟩
    replace hBX0 := hBX0.go hb
    clear hb s00 s01 s02
    have s00 := (blk_cell hBX0.x 0).trans rfl; have s01 := (blk_cell hBX0.x 1).trans rfl; have s02 := (blk_cell hBX0.x 2).trans rfl
    go_wp2_with fail
    refine (K1.out _ hBX0.b).mono ?_
    rintro e w2 ⟨rfl, hb⟩
    replace hBX0 := hBX0.go hb
    clear hb s00 s01 s02
    go_wp2
    go_ret
    exact ⟨rfl, hBX0.b⟩
  · have K1 := Aside0.mk (fun (W : World) (hb : Below w.heap.size w W) => reg_May.calls k A0_1 c0_1 l0_1 _ W (Kd.C_below hr0_1 hb) hc0_1 h1)
    have K2 := Aside0.mk (fun (W : World) (hb : Below w.heap.size w W) => pair_May.calls k A0_2 c0_2 l0_2 r W (Kd.C_below hr0_2 hb) hc0_2 h2)
    clear hr0_0 hc0_0 hr0_1 hc0_1 hr0_2 hc0_2
    have hBX0 := Bx.new (Below.refl w.heap.size w) (.cells #[.slice A0_0 l0_0.length c0_0, .slice A0_1 l0_1.length c0_1, .slice A0_2 l0_2.length c0_2] 26)
    go_enter Tryz.func15, Tryz.ntmps15
    go_wp2_with fail
    revert hBX0
    generalize (w.alloc (.cells #[.slice A0_0 l0_0.length c0_0, .slice A0_1 l0_1.length c0_1, .slice A0_2 l0_2.length c0_2] 26)) = W1
    intro hBX0
    have s00 := (blk_cell hBX0.x 0).trans rfl; have s01 := (blk_cell hBX0.x 1).trans rfl; have s02 := (blk_cell hBX0.x 2).trans rfl
    go_wp2_with fail
    refine (K0.out _ hBX0.b).mono ?_
    rintro e w2 ⟨rfl, hb⟩
    replace hBX0 := hBX0.go hb
    clear hb s00 s01 s02
    have s00 := (blk_cell hBX0.x 0).trans rfl; have s01 := (blk_cell hBX0.x 1).trans rfl; have s02 := (blk_cell hBX0.x 2).trans rfl
    go_wp2_with fail
    refine (K1.out _ hBX0.b).mono ?_
    rintro e w2 ⟨rfl, hb⟩
    replace hBX0 := hBX0.go hb
    clear hb s00 s01 s02
    have s00 := (blk_cell hBX0.x 0).trans rfl; have s01 := (blk_cell hBX0.x 1).trans rfl; have s02 := (blk_cell hBX0.x 2).trans rfl
    go_wp2_with fail
    refine (K2.out _ hBX0.b).mono ?_
    rintro e w2 ⟨rfl, hb⟩
    replace hBX0 := hBX0.go hb
    clear hb s00 s01 s02
    go_wp2
    go_ret
    exact ⟨rfl, hBX0.b⟩
end Go.Proofs.YtmcddoolniaehaaGreat.S
end
section
namespace Go.Proofs.YtmcddoolniaehaaGreat.S
open Go.RowKit Go.Proofs.YtmcddoolniaehaaGreatW.PrintWords Go.Proofs.YtmcddoolniaehaaGreatW.PrintLast Go.Proofs.YtmcddoolniaehaaGreatW.PrintMore
attribute [local go_sem] max2_int min2_int max_two min_two max_three min_three max_four min_four   -- for this text's walks alone
set_option linter.unusedVariables false
set_option linter.unusedSimpArgs false

def state_event.f (a0_0 : Int) (a0_1 : Int) : Option (Bool) := if a0_0 ≥ 0 then (if a0_0 < 8 then (if a0_1 > 0 then (some (decide (a0_1 ≤ 1048576))) else (some false)) else (some false)) else (some false)
set_option maxHeartbeats 8000000 in
set_option maxRecDepth 100000 in
theorem state_event.calls (a0_0 : Int) (a0_1 : Int) (r : Bool) (w : World) (h : state_event.f a0_0 a0_1 = some r) :
  Calls Tryz.prog 28 #[.agg #[.int .i64 a0_0, .int .i64 a0_1]] w fun e w' => e = .returned (.bool r) ∧ Below w.heap.size w w' := by
 have hu30 := Tryz.underlying30
 have HB := Aside0.mk (Below.refl w.heap.size w)
 have H : (if a0_0 ≥ 0 then (if a0_0 < 8 then (if a0_1 > 0 then (some (decide (a0_1 ≤ 1048576))) else (some false)) else (some false)) else (some false)) = some r := h
 clear h
 by_cases c2 : a0_0 ≥ 0
 ·rw [if_pos c2] at H
  have c2b0 : decide (0 ≤ a0_0) = true := decide_eq_true c2
  clear c2
  by_cases c3 : a0_0 < 8
  ·rw [if_pos c3] at H
   have c3b0 : decide (a0_0 < 8) = true := decide_eq_true c3
   clear c3
   by_cases c4 : a0_1 > 0
   ·rw [if_pos c4] at H
    have c4b0 : decide (0 < a0_1) = true := decide_eq_true c4
    clear c4
    obtain rfl := Option.some.inj H
    go_enter Tryz.func28, Tryz.ntmps28
    go_wp2_with (first | ((with_reducible refine gate_dst (N := 1) rfl ?_); refine box_event ?hg (N := 1) ?hd (cs := #[.int .i64 a0_0, .int .i64 a0_1]) (t := 30) ?hr ?_; (case hd => rfl); (case hg => rfl); (case hr => first | (go_simp; done) | (go_simp; rfl)); intro gb122 hg w5 hbox hb; have n0_ := Aside0.mk (below_step (by repeat (first | (with_reducible first | exact HB.out | apply below_alloc | apply pw_below_drewN | apply below_drew1) | exact HB.out)) hb); have n1_ := Aside0.mk (hbox); have n2_ := Aside0.mk ((by rw [hg]; exact (below_size (by repeat (first | (with_reducible first | exact HB.out | apply below_alloc | apply pw_below_drewN | apply below_drew1) | exact HB.out))) : w.heap.size ≤ gb122)); have n3_ := Aside0.mk ((by rw [hg]; exact (below_size (by repeat (first | (with_reducible first | exact HB.out | apply below_alloc | apply pw_below_drewN | apply below_drew1) | exact HB.out))) : w.heap.size ≤ gb122)); clear HB; have HB := n0_; have BK122 := n1_; have GW122 := n2_; have GE122 := n3_; clear n0_ n1_ n2_ n3_; clear hb hbox hg; have hcz6_0 : w5.cell? ⟨gb122, 0, none⟩ = some (.int .i64 a0_0) := (blk_cell BK122.out 0).trans rfl; have hcz6_1 : w5.cell? ⟨gb122, 1, none⟩ = some (.int .i64 a0_1) := (blk_cell BK122.out 1).trans rfl; have hfz6_0 := blk_frozen BK122.out 0; have hfz6_1 := blk_frozen BK122.out 1))
    go_ret
    exact ⟨by first | rfl | (simp [errW_none, errW_some] <;> rfl) | (simp [*, errW_none, errW_some] <;> rfl), by repeat (first | (with_reducible first | exact HB.out | apply below_alloc | apply pw_below_drewN | apply below_drew1 | refine below_set ?_ GE122.out) | exact HB.out)⟩
   ·rw [if_neg c4] at H
    have c4b0 : decide (0 < a0_1) = false := decide_eq_false c4
    clear c4
    obtain rfl := Option.some.inj H
    go_enter Tryz.func28, Tryz.ntmps28
    go_wp2_with (first | ((with_reducible refine gate_dst (N := 1) rfl ?_); refine box_event ?hg (N := 1) ?hd (cs := #[.int .i64 a0_0, .int .i64 a0_1]) (t := 30) ?hr ?_; (case hd => rfl); (case hg => rfl); (case hr => first | (go_simp; done) | (go_simp; rfl)); intro gb122 hg w7 hbox hb; have n0_ := Aside0.mk (below_step (by repeat (first | (with_reducible first | exact HB.out | apply below_alloc | apply pw_below_drewN | apply below_drew1) | exact HB.out)) hb); have n1_ := Aside0.mk (hbox); have n2_ := Aside0.mk ((by rw [hg]; exact (below_size (by repeat (first | (with_reducible first | exact HB.out | apply below_alloc | apply pw_below_drewN | apply below_drew1) | exact HB.out))) : w.heap.size ≤ gb122)); have n3_ := Aside0.mk ((by rw [hg]; exact (below_size (by repeat (first | (with_reducible first | exact HB.out | apply below_alloc | apply pw_below_drewN | apply below_drew1) | exact HB.out))) : w.heap.size ≤ gb122)); clear HB; have HB := n0_; have BK122 := n1_; have GW122 := n2_; have GE122 := n3_; clear n0_ n1_ n2_ n3_; clear hb hbox hg; have hcz8_0 : w7.cell? ⟨gb122, 0, none⟩ = some (.int .i64 a0_0) := (blk_cell BK122.out 0).trans rfl; have hcz8_1 : w7.cell? ⟨gb122, 1, none⟩ = some (.int .i64 a0_1) := (blk_cell BK122.out 1).trans rfl; have hfz8_0 := blk_frozen BK122.out 0; have hfz8_1 := blk_frozen BK122.out 1))
    go_ret
    exact ⟨by first | rfl | (simp [errW_none, errW_some] <;> rfl) | (simp [*, errW_none, errW_some] <;> rfl), by repeat (first | (with_reducible first | exact HB.out | apply below_alloc | apply pw_below_drewN | apply below_drew1 | refine below_set ?_ GE122.out) | exact HB.out)⟩
  ·rw [if_neg c3] at H
   have c3b0 : decide (a0_0 < 8) = false := decide_eq_false c3
   clear c3
   obtain rfl := Option.some.inj H
   go_enter Tryz.func28, Tryz.ntmps28
   go_wp2_with (first | ((with_reducible refine gate_dst (N := 1) rfl ?_); refine box_event ?hg (N := 1) ?hd (cs := #[.int .i64 a0_0, .int .i64 a0_1]) (t := 30) ?hr ?_; (case hd => rfl); (case hg => rfl); (case hr => first | (go_simp; done) | (go_simp; rfl)); intro gb122 hg w9 hbox hb; have n0_ := Aside0.mk (below_step (by repeat (first | (with_reducible first | exact HB.out | apply below_alloc | apply pw_below_drewN | apply below_drew1) | exact HB.out)) hb); have n1_ := Aside0.mk (hbox); have n2_ := Aside0.mk ((by rw [hg]; exact (below_size (by repeat (first | (with_reducible first | exact HB.out | apply below_alloc | apply pw_below_drewN | apply below_drew1) | exact HB.out))) : w.heap.size ≤ gb122)); have n3_ := Aside0.mk ((by rw [hg]; exact (below_size (by repeat (first | (with_reducible first | exact HB.out | apply below_alloc | apply pw_below_drewN | apply below_drew1) | exact HB.out))) : w.heap.size ≤ gb122)); clear HB; have HB := n0_; have BK122 := n1_; have GW122 := n2_; have GE122 := n3_; clear n0_ n1_ n2_ n3_; clear hb hbox hg; have hcz10_0 : w9.cell? ⟨gb122, 0, none⟩ = some (.int .i64 a0_0) := (blk_cell BK122.out 0).trans rfl; have hcz10_1 : w9.cell? ⟨gb122, 1, none⟩ = some (.int .i64 a0_1) := (blk_cell BK122.out 1).trans rfl; have hfz10_0 := blk_frozen BK122.out 0; have hfz10_1 := blk_frozen BK122.out 1))
   go_ret
   exact ⟨by first | rfl | (simp [errW_none, errW_some] <;> rfl) | (simp [*, errW_none, errW_some] <;> rfl), by repeat (first | (with_reducible first | exact HB.out | apply below_alloc | apply pw_below_drewN | apply below_drew1 | refine below_set ?_ GE122.out) | exact HB.out)⟩
 ·rw [if_neg c2] at H
  have c2b0 : decide (0 ≤ a0_0) = false := decide_eq_false c2
  clear c2
  obtain rfl := Option.some.inj H
  go_enter Tryz.func28, Tryz.ntmps28
  go_wp2_with (first | ((with_reducible refine gate_dst (N := 1) rfl ?_); refine box_event ?hg (N := 1) ?hd (cs := #[.int .i64 a0_0, .int .i64 a0_1]) (t := 30) ?hr ?_; (case hd => rfl); (case hg => rfl); (case hr => first | (go_simp; done) | (go_simp; rfl)); intro gb122 hg w11 hbox hb; have n0_ := Aside0.mk (below_step (by repeat (first | (with_reducible first | exact HB.out | apply below_alloc | apply pw_below_drewN | apply below_drew1) | exact HB.out)) hb); have n1_ := Aside0.mk (hbox); have n2_ := Aside0.mk ((by rw [hg]; exact (below_size (by repeat (first | (with_reducible first | exact HB.out | apply below_alloc | apply pw_below_drewN | apply below_drew1) | exact HB.out))) : w.heap.size ≤ gb122)); have n3_ := Aside0.mk ((by rw [hg]; exact (below_size (by repeat (first | (with_reducible first | exact HB.out | apply below_alloc | apply pw_below_drewN | apply below_drew1) | exact HB.out))) : w.heap.size ≤ gb122)); clear HB; have HB := n0_; have BK122 := n1_; have GW122 := n2_; have GE122 := n3_; clear n0_ n1_ n2_ n3_; clear hb hbox hg; have hcz12_0 : w11.cell? ⟨gb122, 0, none⟩ = some (.int .i64 a0_0) := (blk_cell BK122.out 0).trans rfl; have hcz12_1 : w11.cell? ⟨gb122, 1, none⟩ = some (.int .i64 a0_1) := (blk_cell BK122.out 1).trans rfl; have hfz12_0 := blk_frozen BK122.out 0; have hfz12_1 := blk_frozen BK122.out 1))
  go_ret
  exact ⟨by first | rfl | (simp [errW_none, errW_some] <;> rfl) | (simp [*, errW_none, errW_some] <;> rfl), by repeat (first | (with_reducible first | exact HB.out | apply below_alloc | apply pw_below_drewN | apply below_drew1 | refine below_set ?_ GE122.out) | exact HB.out)⟩

end Go.Proofs.YtmcddoolniaehaaGreat.S
end
