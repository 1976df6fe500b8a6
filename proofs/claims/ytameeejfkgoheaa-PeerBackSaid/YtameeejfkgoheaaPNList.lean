/- ref10.Same, ref10.List: are two commits, two lists of these, the same? By hand. -/
import Derived.Test.YtameeejfkgoheaaPNFew
import Derived.Test.YtameeejfkgoheaaPNSameI
namespace Go.Proofs.Ytameeejfkgoheaa.P
open Go.RowKit Go.Proofs.YtameeejfkgoheaaW.PrintWords Go.Proofs.YtameeejfkgoheaaW.PrintLast Go.Proofs.YtameeejfkgoheaaW.PrintMore Go.Proofs.YtameeejfkgoheaaW
set_option linter.unusedVariables false
set_option linter.unusedSimpArgs false
section
variable {ops : Array Oper} {rest : List Oper} {op : Oper} {a : Act} {w : World} {Q : Exit → Act → World → Prop}
theorem pw_loadA (t : TypeId) {d : TypeDesc} (hu : Try.prog.underlying t = some d) (hd : d.isRow = true) {S : World → Prop} {ds : List Nat} {i : Nat} {N : Option Tmp} {oi : Oper} {fuel : Nat} {l : Array Bool} {md : Region.Mode} (l' : Array Bool) (hi : ops[i]? = some oi) (hN : oi.dst = N) (hc : takeB md ops ds l l' i = true)
    (hQ : ∀ c a w, ∀ v, Q (.panic c) (a.put oi.dst v) w → Q (.panic c) a w) (y : Operand) (ho : oi.op = .load t y) (hw : Region.wanted oi (yielded ops a.tmps) = true) (b o : Nat) (hx : a.eval y = .pointer (some ⟨b, o, none⟩)) (cs : List Value)
    (hR : ∀ w', S w' → w'.rangeAt b o cs) (hinf : (Try.prog.info? t).map (·.size) = some cs.length) (hS : S w) {a' : Act} (ha : a.put N (.agg cs.toArray) = a')
    (h : wpAnyLast Try.prog md ops Q S ds fuel l' a' w) : wpAnyLast Try.prog md ops Q S ds (fuel + 1) l a w :=
  take_ l' hi hN hc (fun c a w => hQ c a w _) (yieldsIf_load_mid hw t y ho b o hx cs _ hR hu hd hinf) hS ha h
end
theorem str_eq (s t : ByteArray) : s.toList = t.toList ↔ s = t := by
  constructor
  · intro h
    rw [ByteArray.toList_eq, ByteArray.toList_eq] at h
    exact ByteArray.ext (Array.toList_inj.1 h)
  · rintro rfl; rfl
def sameC (x y : Cm) : Bool := decide (x = y)
theorem sameC_eq (x y : Cm) : sameC x y = (decide (x.ps = y.ps) && decide (x.e0 = y.e0 ∧ x.e1 = y.e1) && decide (x.gen = y.gen) && decide (x.kind = y.kind ∧ x.key = y.key ∧ x.elem = y.elem ∧ x.num = y.num)) := by
  unfold sameC
  rw [Bool.eq_iff_iff]
  obtain ⟨a0, a1, a2, a3, a4, a5, a6, a7⟩ := x
  obtain ⟨b0, b1, b2, b3, b4, b5, b6, b7⟩ := y
  simp
  constructor
  · rintro ⟨rfl, rfl, rfl, rfl, rfl, rfl, rfl, rfl⟩
    simp
  · rintro ⟨⟨⟨rfl, rfl, rfl⟩, rfl⟩, rfl, rfl, rfl, rfl⟩
    simp
set_option maxHeartbeats 4000000 in
set_option maxRecDepth 100000 in
theorem sameC_calls (x : Cm) (A : Option Addr) (c : Nat) (y : Cm) (A' : Option Addr) (c' : Nat) (w : World) (hx : Kd.C kI w A x.ps.length x.ps) (hy : Kd.C kI w A' y.ps.length y.ps) :
    Calls Try.prog 40 #[.agg (cellsC x (.slice A x.ps.length c)).toArray, .agg (cellsC y (.slice A' y.ps.length c')).toArray] w fun e w' => e = .returned (.bool (sameC x y)) ∧ Below w.heap.size w w' := by
  have hb := blk_new w (.cells (cellsC x (.slice A x.ps.length c)).toArray 62)
  have hb' := blk_new (w.alloc (.cells (cellsC x (.slice A x.ps.length c)).toArray 62)) (.cells (cellsC y (.slice A' y.ps.length c')).toArray 62)
  have hbx := blk_alloc hb (.cells (cellsC y (.slice A' y.ps.length c')).toArray 62)
  have HB := Aside0.mk (below_alloc (below_alloc (Below.refl w.heap.size w) (.cells (cellsC x (.slice A x.ps.length c)).toArray 62)) (.cells (cellsC y (.slice A' y.ps.length c')).toArray 62))
  rw [show (w.alloc (.cells (cellsC x (.slice A x.ps.length c)).toArray 62)).heap.size = w.heap.size + 1 by simp] at hb'
  obtain ⟨_, _, _, c3, _⟩ := blk8 hbx
  obtain ⟨_, _, _, d3, _⟩ := blk8 hb'
  have HX := Aside0.mk hbx
  have HY := Aside0.mk hb'
  have HS := Aside0.mk (same_calls A c x.ps A' c' y.ps _ (Kd.C_below hx HB.out) (Kd.C_below hy HB.out))
  clear hb hb' hbx hx hy
  rw [sameC_eq]
  generalize decide (x.ps = y.ps) = q1 at *
  cases q1 with
  | false =>
    go_enter Try.func40, Try.ntmps40
    go_wp2_with fail
    refine HS.out.mono ?_
    rintro e w1 ⟨rfl, hb1⟩
    have HB1 := Aside0.mk (below_step HB.out hb1)
    clear hb1 c3 d3
    go_wp2
    go_ret
    exact ⟨by first | rfl | simp, HB1.out⟩
  | true =>
    go_enter Try.func40, Try.ntmps40
    go_wp2_with fail
    refine HS.out.mono ?_
    rintro e w1 ⟨rfl, hb1⟩
    have HB1 := Aside0.mk (below_step HB.out hb1)
    obtain ⟨c0, c1, c2, _, c4, c5, c6, c7⟩ := blk8 (blk_below HX.out hb1)
    obtain ⟨d0, d1, d2, _, d4, d5, d6, d7⟩ := blk8 (blk_below HY.out hb1)
    clear hb1 HX HY HS
    go_wp2
    all_goals
      go_ret
      refine ⟨?_, HB1.out⟩
      clear HB1 c0 c1 c2 c4 c5 c6 c7 d0 d1 d2 d4 d5 d6 d7 c3 d3
      (try simp only [str_eq] at *)
      first | rfl | (simp [*]; done) | (simp_all; done)
theorem list_succ {a b : List Cm} {k : Nat} (ha : k < a.length) (hb : k < b.length) (h : a.take k = b.take k) (he : rdC a k = rdC b k) : a.take (k + 1) = b.take (k + 1) := by
  rw [rdC_at a k ha, rdC_at b k hb] at he
  rw [List.take_succ_eq_append_getElem ha, List.take_succ_eq_append_getElem hb, h, he]
set_option maxHeartbeats 4000000 in
set_option maxRecDepth 100000 in
theorem list_calls (A0 : Option Addr) (c0 : Nat) (a : List Cm) (A1 : Option Addr) (c1 : Nat) (b' : List Cm) (w : World) (hr0 : Kd.C kC w A0 a.length a) (hr1 : Kd.C kC w A1 b'.length b') :
    Calls Try.prog 31 #[.slice A0 a.length c0, .slice A1 b'.length c1] w fun e w' => e = .returned (.bool (decide (a = b'))) ∧ Below w.heap.size w w' := by
  have HR := Aside0.mk hr0
  have HR1 := Aside0.mk hr1
  have HL := Aside0.mk hr0.2.1
  clear hr0 hr1
  by_cases hl : a.length = b'.length
  · have hli : (a.length : Int) = (b'.length : Int) := by omega
    have HN : Aside0 (a.length = b'.length) := ⟨hl⟩
    generalize hQ : decide (a = b') = Q
    have HQ := Aside0.mk hQ
    clear hQ
    go_enter Try.func31, Try.ntmps31
    go_wp2
    go_loopw [5] (fun i wr => ∃ k : Nat, k ≤ a.length ∧ i = .int .i64 k ∧ Aside0 (a.take k = b'.take k) ∧ Aside0 (Below w.heap.size w wr)) (fun i _ => a.length - (intOf i).toNat)
    case atStart => exact ⟨0, Nat.zero_le _, rfl, ⟨rfl⟩, ⟨Below.refl _ _⟩⟩
    case round =>
    clear hli
    obtain ⟨k, hk, rfl, hT, HB⟩ := hrel
    by_cases hlt : k < a.length
    · have hltb : k < b'.length := by rw [← HN.out]; exact hlt
      obtain ⟨b, o, B, cc, rfl, hx0⟩ := at_C HR.out k hlt
      obtain ⟨b1, o1, B1, cc1, rfl, hy0⟩ := at_C HR1.out k hltb
      have HX := Aside0.mk (range_C (hx0.below HB.out))
      have HY := Aside0.mk (range_C (hy0.below HB.out))
      have HPX := Aside0.mk (hx0.below HB.out).2.2
      have HPY := Aside0.mk (hy0.below HB.out).2.2
      have hl63 := HL.out
      have HN2 : Aside0 (sameC (rdC a k) (rdC b' k) = true → a.take (k + 1) = b'.take (k + 1)) := ⟨fun h => list_succ hlt hltb hT.out (of_decide_eq_true h)⟩
      have HM : Aside0 (sameC (rdC a k) (rdC b' k) = false → Q = false) := ⟨fun h => by rw [← HQ.out]; exact decide_eq_false (fun e => of_decide_eq_false h (by rw [e]))⟩
      clear hx0 hy0
      generalize rdC a k = x at *
      generalize rdC b' k = y at *
      have hcn : ∀ V, Kd.C kI V B x.ps.length x.ps → Kd.C kI V B1 y.ps.length y.ps → _ := fun V h1 h2 => sameC_calls x B cc y B1 cc1 V h1 h2
      generalize sameC x y = q at hcn HN2 HM
      have HC := Aside0.mk hcn
      clear hcn
      have hk0 : (0 : Int) ≤ (k : Int) := Int.natCast_nonneg _
      have hk1 : (k : Int) < (a.length : Int) := by omega
      have hk2 : (k : Int) < (b'.length : Int) := by omega
      · go_wp2_with fail
        refine start_ (n := 10) (S := fun w' => Below wr.heap.size wr w') (ds := []) #[false,false,false,false,false,false,false,false,false,false] (by kernel_rfl) rfl rfl (below_drew (Below.refl _ _)) (fun hHeld => ?_)
        refine pure_ (i := 0) (N := some 18) (v := ?_) (a' := ?_) #[true,false,false,false,false,false,false,false,false,false] rfl rfl (by kernel_rfl) (fun _ _ _ h => h) (Or.inl ⟨by rfl, ?_⟩) ?_ ?_
        rotate_left
        ·intro w'
         go_simp
         with_reducible rfl
        rotate_left
        ·simp only [Act.put, List.setIfInBounds_toArray, List.set_cons_zero, List.set_cons_succ, i64_w, i32_w]
         rfl
        refine pure_ (i := 1) (N := some 19) (v := ?_) (a' := ?_) #[true,true,false,false,false,false,false,false,false,false] rfl rfl (by kernel_rfl) (fun _ _ _ h => h) (Or.inl ⟨by rfl, ?_⟩) ?_ ?_
        rotate_left
        ·intro w'
         go_simp
         with_reducible rfl
        rotate_left
        ·simp only [Act.put, List.setIfInBounds_toArray, List.set_cons_zero, List.set_cons_succ, i64_w, i32_w]
         rfl
        refine pure_ (i := 2) (N := some 20) (v := ?_) (a' := ?_) #[true,true,true,false,false,false,false,false,false,false] rfl rfl (by kernel_rfl) (fun _ _ _ h => h) (Or.inl ⟨by rfl, ?_⟩) ?_ ?_
        rotate_left
        ·intro w'
         go_simp
         with_reducible rfl
        rotate_left
        ·simp only [Act.put, List.setIfInBounds_toArray, List.set_cons_zero, List.set_cons_succ, i64_w, i32_w]
         rfl
        refine pw_loadA 62 Try.underlying62 rfl (i := 3) (N := some 21) (a' := ?_) #[true,true,true,true,false,false,false,false,false,false] rfl rfl (by kernel_rfl) (fun _ _ _ _ h => h) _ rfl (by rfl) (b) (o + k * 8) (by rfl) (cellsC x (.slice B x.ps.length cc)) (fun _ h => range_below HX.out h) info_C hHeld ?_ ?_
        rotate_left
        ·simp only [Act.put, List.setIfInBounds_toArray, List.set_cons_zero, List.set_cons_succ, i64_w, i32_w]
         rfl
        refine pure_ (i := 4) (N := some 22) (v := ?_) (a' := ?_) #[true,true,true,true,true,false,false,false,false,false] rfl rfl (by kernel_rfl) (fun _ _ _ h => h) (Or.inl ⟨by rfl, ?_⟩) ?_ ?_
        rotate_left
        ·intro w'
         go_simp
         with_reducible rfl
        rotate_left
        ·simp only [Act.put, List.setIfInBounds_toArray, List.set_cons_zero, List.set_cons_succ, i64_w, i32_w]
         rfl
        refine pure_ (i := 5) (N := some 23) (v := ?_) (a' := ?_) #[true,true,true,true,true,true,false,false,false,false] rfl rfl (by kernel_rfl) (fun _ _ _ h => h) (Or.inl ⟨by rfl, ?_⟩) ?_ ?_
        rotate_left
        ·intro w'
         go_simp
         with_reducible rfl
        rotate_left
        ·simp only [Act.put, List.setIfInBounds_toArray, List.set_cons_zero, List.set_cons_succ, i64_w, i32_w]
         rfl
        refine pure_ (i := 6) (N := some 24) (v := ?_) (a' := ?_) #[true,true,true,true,true,true,true,false,false,false] rfl rfl (by kernel_rfl) (fun _ _ _ h => h) (Or.inl ⟨by rfl, ?_⟩) ?_ ?_
        rotate_left
        ·intro w'
         go_simp
         with_reducible rfl
        rotate_left
        ·simp only [Act.put, List.setIfInBounds_toArray, List.set_cons_zero, List.set_cons_succ, i64_w, i32_w]
         rfl
        refine pw_loadA 62 Try.underlying62 rfl (i := 7) (N := some 25) (a' := ?_) #[true,true,true,true,true,true,true,true,false,false] rfl rfl (by kernel_rfl) (fun _ _ _ _ h => h) _ rfl (by rfl) (b1) (o1 + k * 8) (by rfl) (cellsC y (.slice B1 y.ps.length cc1)) (fun _ h => range_below HY.out h) info_C hHeld ?_ ?_
        rotate_left
        ·simp only [Act.put, List.setIfInBounds_toArray, List.set_cons_zero, List.set_cons_succ, i64_w, i32_w]
         rfl
        refine one_ (i := 8) (N := some 26) #[true,true,true,true,true,true,true,true,true,false] rfl rfl (by kernel_rfl) (by decide) (fun K hK => ?_)
        refine goes_ Try.func40 (by kernel_rfl) rfl #[.agg (cellsC x (.slice B x.ps.length cc)).toArray, .agg (cellsC y (.slice B1 y.ps.length cc1)).toArray] (by rfl) rfl rfl (by (try simp only [List.map_toArray, List.map_cons, List.map_nil]); first | done | rfl) ?_
        refine (HC.out _ (Kd.C_below HPX.out hHeld) (Kd.C_below HPY.out hHeld)).mono ?_
        rintro e Wc1 ⟨rfl, hbc1⟩
        refine ⟨_, rfl, ?_⟩
        refine hK.out _ _ (below_step hHeld hbc1) (fun hHeld1 => ?_)
        clear hK K
        refine norm_ (a' := ?_) ?_ ?_
        rotate_left
        ·show Act.put _ (some 26) _ = _
         simp only [Act.put, List.setIfInBounds_toArray, List.set_cons_zero, List.set_cons_succ, i64_w, i32_w]
         rfl
        refine pure_ (i := 9) (N := some 6) (v := ?_) (a' := ?_) #[true,true,true,true,true,true,true,true,true,true] rfl rfl (by kernel_rfl) (fun _ _ _ h => h) (Or.inl ⟨by rfl, ?_⟩) ?_ ?_
        rotate_left
        ·intro w'
         go_simp
         with_reducible rfl
        rotate_left
        ·simp only [Act.put, List.setIfInBounds_toArray, List.set_cons_zero, List.set_cons_succ, i64_w, i32_w]
         rfl
        refine done_ (by kernel_rfl) ?_
        have HBd := Aside0.mk (below_step HB.out hHeld1)
        clear hHeld hHeld1
        cases q with
        | true =>
          go_wp2
          go_roundw
          case rel => exact ⟨k + 1, by omega, by go_num, ⟨HN2.out rfl⟩, HBd⟩
          case measure => simp [intOf]; omega
        | false =>
          have hqf := HM.out rfl
          go_wp2
          go_ret
          exact ⟨by first | rfl | (rw [hqf]; rfl), HBd.out⟩
    · have hqt : Q = true := by
        have h := hT.out
        rw [List.take_of_length_le (by omega), List.take_of_length_le (by rw [← HN.out]; omega)] at h
        rw [← HQ.out]
        exact decide_eq_true h
      go_wp2
      go_ret
      exact ⟨by first | rfl | (rw [hqt]; rfl), HB.out⟩
  · have hli : ¬ (a.length : Int) = (b'.length : Int) := by omega
    have hqf : decide (a = b') = false := decide_eq_false (fun e => hl (by rw [e]))
    rw [hqf]
    clear hqf
    go_enter Try.func31, Try.ntmps31
    go_wp2
    go_ret
    exact ⟨rfl, Below.refl _ _⟩
end Go.Proofs.Ytameeejfkgoheaa.P
