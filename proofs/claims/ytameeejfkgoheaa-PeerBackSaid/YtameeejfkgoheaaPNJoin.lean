/- peer.Join at any node. By hand. -/
import Derived.Test.YtameeejfkgoheaaPNSameN
namespace Go.Proofs.Ytameeejfkgoheaa.P
open Go.RowKit Go.Proofs.YtameeejfkgoheaaW.PrintWords Go.Proofs.YtameeejfkgoheaaW.PrintLast Go.Proofs.YtameeejfkgoheaaW.PrintMore Go.Proofs.YtameeejfkgoheaaW
set_option linter.unusedVariables false
set_option linter.unusedSimpArgs false
/-- a function's answer: a node and an error -/
def RetN (w : World) (r : Nd × Int) (e : Ending) (w' : World) : Prop := ∃ cs, e = .returned (.tuple #[.agg cs.toArray, .int .i64 r.2]) ∧ NodeIs w' cs r.1 ∧ Below w.heap.size w w'
/-- copies: bytes, commits -/
def CpB (l : List UInt8) (W : World) (v : Value) : Prop := ∃ base A c, v = .slice A l.length c ∧ W.ownsRow base 5 1 v l.length (bytesV l)
def CpC (l : List Cm) (W : World) (v : Value) : Prop := ∃ base A c, v = .slice A l.length c ∧ l.length ≤ c ∧ kC.R 62 W base (fun _ => True) v l
theorem stays_B (l : List UInt8) : Stays (CpB l) := by
  refine ⟨fun W W' v hb h => ?_, fun W b cs i u v hbk h => ?_⟩
  · obtain ⟨base, A, c, e, ho⟩ := h
    exact ⟨base, A, c, e, own_move ho (fun k hk => hb.block k (own_lt ho k hk))⟩
  · obtain ⟨base, A, c, e, ho⟩ := h
    refine ⟨base, A, c, e, own_move ho (fun k hk => Below.heap_setCell W ⟨b, i, none⟩ u k (fun e' => ?_))⟩
    obtain ⟨cells, hc⟩ := own_typed ho k hk
    have e2 : k = b := e'
    subst e2
    rw [hbk] at hc
    injection hc with hc
    injection hc with _ hc
    exact absurd hc (by decide)
theorem stays_C (l : List Cm) : Stays (CpC l) := by
  refine ⟨fun W W' v hb h => ?_, fun W b cs i u v hbk h => ?_⟩
  · obtain ⟨base, A, c, e, hl, ho⟩ := h
    exact ⟨base, A, c, e, hl, Kd.R_below ho hb⟩
  · obtain ⟨base, A, c, e, hl, ho⟩ := h
    have h2 := Kd.R_move (w1 := W.setCell ⟨b, i, none⟩ u) (Kd.R_bound ho) (fun k hk => by
      obtain ⟨_, _, _, q, hq, cells, hc⟩ := hk
      refine Below.heap_setCell W ⟨b, i, none⟩ u k (fun e' => ?_)
      have e2 : k = b := e'
      subst e2
      rw [hbk] at hc
      injection hc with hc
      injection hc with _ hc
      subst hc
      revert hq
      show ¬ (37 ∈ [62, 71])
      decide)
    exact ⟨base, A, c, e, hl, Kd.R_mono h2 (fun _ _ => trivial)⟩
theorem copies_B {w : World} {A : Option Addr} {c : Nat} {l : List UInt8} (h : Kd.C kB w A l.length l) (hl : l.length ≤ 140737488355328) : Copies 36 (.slice A l.length c) (CpB l) w := fun W hb =>
  (cloneB_calls A c l W (Kd.C_below h hb) hl).mono fun e W' ⟨A', c', he, ho, hb'⟩ => ⟨A', _, c', he, ⟨_, A', c', rfl, ho⟩, hb'⟩
theorem copies_C {w : World} {A : Option Addr} {c : Nat} {l : List Cm} (h : Kd.C kC w A l.length l) (hl : FewC l) : Copies 37 (.slice A l.length c) (CpC l) w := fun W hb =>
  (commits_calls A c l W (Kd.C_below h hb) hl).mono fun e W' ⟨A', c', he, hc, ho, hb'⟩ => ⟨A', _, c', he, ⟨_, A', c', rfl, hc, Kd.R_mono ho (fun _ _ => trivial)⟩, hb'⟩
theorem read_B {W : World} {l : List UInt8} {A : Option Addr} {n c : Nat} (h : CpB l W (.slice A n c)) : n = l.length ∧ Kd.C kB W A l.length l := by
  obtain ⟨base, A', c', e, ho⟩ := h
  injection e with e1 e2 e3
  subst e1 e2 e3
  have hR : kB.R 5 W base (fun _ => True) (.slice A l.length c) l := Kd.R_of_own (h1 := fun _ => rfl) (by show W.ownsRow base 5 1 _ l.length (encs cellI l); exact ho) (fun _ _ => trivial)
  obtain ⟨A'', c'', e', _, hC⟩ := Kd.R_reads hR
  injection e' with e1 e2 e3
  subst e1
  exact ⟨rfl, hC⟩
theorem read_C {W : World} {l : List Cm} {A : Option Addr} {n c : Nat} (h : CpC l W (.slice A n c)) : n = l.length ∧ Kd.C kC W A l.length l := by
  obtain ⟨base, A', c', e, _, ho⟩ := h
  injection e with e1 e2 e3
  subst e1 e2 e3
  obtain ⟨A'', c'', e', _, hC⟩ := Kd.R_reads ho
  injection e' with e1 e2 e3
  subst e1
  exact ⟨rfl, hC⟩
theorem read_P {W : World} {base n c : Nat} {A : Option Addr} {l : List Int} (hn : n = l.length) (h : W.ownsRow base 3 1 (.slice A n c) n (encI1 l)) : Kd.C kP W A l.length l ∧ l.length ≤ c := by
  subst hn
  obtain ⟨A', c', h1, h2, h3⟩ := own_reads_of_le (enc := Value.int .i64) (d := (0 : Int)) h
  cases h1
  exact ⟨Kd.C_of_reads (h1 := fun _ => rfl) h3, h2⟩
/-- how great a node's lists may be, for the copies -/
def FitN (n : Nd) : Prop := n.disk.length ≤ 100000 ∧ FewC n.L ∧ FewC n.T ∧ n.peers.length ≤ 100000
def joinN (n : Nd) (p : Int) : Nd × Int := if p < 0 ∨ 8 ≤ p ∨ p = n.no then (zeroN, 1) else if n.peers.contains p then (zeroN, 7) else ({n with peers := insP p n.peers}, 0)
section
variable {ops : Array Oper} {rest : List Oper} {op : Oper} {a : Act} {w : World} {Q : Exit → Act → World → Prop}
theorem wpl_build0N (hgd : op.guard = none) (ho : op.op = .build 37 #[]) (hK : wpList Try.prog ops Q rest (a.put op.dst (.agg zeroV.toArray)) w) : wpList Try.prog ops Q (op :: rest) a w := by
  have hr : (Instr.build 37 #[]).run Try.prog w = .ok (.agg zeroV.toArray) w := by kernel_rfl
  refine wpList_plain hgd fun _ hK' => ?_
  unfold Oper.wp execOp
  simp only [ho, Sem.run_bind, Array.map_empty, hr, Result.andThen_ok]
  exact hK' _ _ hK
theorem alloc_N (w : World) : (Instr.alloc 37 true (.tuple #[])).run Try.prog w = .ok (.pointer (some ⟨w.heap.size, 0, none⟩)) (w.alloc (.cells zeroV.toArray 37)) := by
  have hz : (zeroValue 37).run Try.prog w = .ok (.agg zeroV.toArray) w := by kernel_rfl
  simp [Instr.alloc, Sem.run_bind, hz, newVar, newRow, Value.cells, Result.andThen]
/-- a new variable -/
theorem wpl_allocN (hgd : op.guard = none) (ho : op.op = .alloc 37) (h : wpList Try.prog ops Q rest (a.put op.dst (.pointer (some ⟨w.heap.size, 0, none⟩))) (w.alloc (.cells zeroV.toArray 37))) : wpList Try.prog ops Q (op :: rest) a w := by
  refine wpList_plain hgd fun _ hK => ?_
  unfold Oper.wp execOp
  simp only [ho, Sem.run_bind, alloc_N, Result.andThen_ok]
  exact hK _ _ h
end
theorem loadVar_N {V : World} {b : Nat} {cs : List Value} (hb : V.heap[b]? = some (.cells cs.toArray 37 (0, 0))) (hl : cs.length = 10) : (loadVar 37 ⟨b, 0, none⟩).run Try.prog V = .ok (.agg cs.toArray) V :=
  run_loadVar_mid V b 0 37 cs _ (range_of_blk hb) Try.underlying37 rfl (by rw [hl]; exact info_N)
theorem results_N {f : Func} (hf : f.results = #[.cell 4 37, .tmp 5]) {V : World} {b : Nat} {cs : List Value} {x : Int} (hb : V.heap[b]? = some (.cells cs.toArray 37 (0, 0))) (hl : cs.length = 10) (tmps : Array Value) (h2 : tmps.getD 4 undef = .pointer (some ⟨b, 0, none⟩)) (h3 : tmps.getD 5 undef = .int .i64 x) :
    (results f tmps).run Try.prog V = .ok (.tuple #[.agg cs.toArray, .int .i64 x]) V := by
  have hl' := loadVar_N hb hl
  unfold results
  rw [hf]
  simp only [h3, h2, asAddr, Sem.run_bind, Sem.run_pure, Result.andThen_ok, hl', Array.mapM_eq_mapM_toList, List.mapM_cons, List.mapM_nil]
  simp [hl', Result.andThen]
theorem blk_new3 (w : World) (o1 o2 o3 : Obj) : (((w.alloc o1).alloc o2).alloc o3).heap[w.heap.size]? = some o1 ∧ (((w.alloc o1).alloc o2).alloc o3).heap[w.heap.size + 1]? = some o2 ∧ (((w.alloc o1).alloc o2).alloc o3).heap[((w.alloc o1).alloc o2).heap.size]? = some o3 := by
  refine ⟨blk_alloc (blk_alloc (blk_new w o1) _) _, ?_, blk_new ((w.alloc o1).alloc o2) o3⟩
  have := blk_alloc (blk_new (w.alloc o1) o2) o3
  simpa using this
theorem heap_alloc2 (w : World) (o1 o2 : Obj) : ((w.alloc o1).alloc o2).heap.size = w.heap.size + 1 + 1 := by simp
theorem size_alloc2 (w : World) (o1 o2 : Obj) : w.heap.size ≤ ((w.alloc o1).alloc o2).heap.size := by simp; omega
set_option maxHeartbeats 4000000 in
set_option maxRecDepth 100000 in
theorem join_calls (cs : List Value) (n : Nd) (p : Int) (w : World) (hn : NodeIs w cs n) (hf : FitN n) :
    Calls Try.prog 16 #[.agg cs.toArray, .int .i64 p] w (RetN w (joinN n p)) := by
  obtain ⟨dA, dc, lA, lc, tA, tc, pA, pc, rfl, h1, h2, h3, h4, h5⟩ := hn
  by_cases hbad : p < 0 ∨ 8 ≤ p ∨ p = n.no
  · have hj : joinN n p = (zeroN, 1) := by unfold joinN; rw [if_pos hbad]
    rw [hj]
    obtain ⟨X, hX⟩ : ∃ X, X = cellsN n (.slice dA n.disk.length dc) (.slice lA n.L.length lc) (.slice tA n.T.length tc) (.slice pA n.peers.length pc) := ⟨_, rfl⟩
    rw [← hX]
    obtain ⟨b1, b2, b3⟩ := blk_new3 w (.cells X.toArray 37) (.cells #[.int .i64 p] 3) (.cells zeroV.toArray 37)
    have HB := Aside0.mk (below_alloc (below_alloc (below_alloc (Below.refl w.heap.size w) (.cells X.toArray 37)) (.cells #[.int .i64 p] 3)) (.cells zeroV.toArray 37))
    have c0 : (((w.alloc (.cells X.toArray 37)).alloc (.cells #[.int .i64 p] 3)).alloc (.cells zeroV.toArray 37)).cell? ⟨w.heap.size, 0, none⟩ = some (.int .i64 n.no) := by rw [blk_cell b1 0, hX]; rfl
    have cp : (((w.alloc (.cells X.toArray 37)).alloc (.cells #[.int .i64 p] 3)).alloc (.cells zeroV.toArray 37)).cell? ⟨w.heap.size + 1, 0, none⟩ = some (.int .i64 p) := blk_cell b2 0
    have H3 := Aside0.mk b3
    clear h1 h2 h3 h4 h5 hX b1 b2 b3
    by_cases hp0 : p < 0
    · go_enter Try.func16, Try.ntmps16
      go_wp2_with (first
        | (refine wpl_allocN (by rfl) (by rfl) ?_; go_frame)
        | (refine wpl_build0N (by rfl) (by rfl) ?_; go_frame)
        | (refine wpl_store_blkA 37 ((w.alloc (.cells X.toArray 37)).alloc (.cells #[.int .i64 p] 3)).heap.size zeroV.toArray zeroV (zero_is w).one (by rw [(zero_is w).len]; exact info_N) H3.out (by rfl) (by rfl) _ _ (by rfl) (by rfl) (by rfl) ?_; intro W1 hb1 hB1 hf1 hs1 ht1; have HB1 := Aside0.mk (hB1 w (size_alloc2 _ _ _) HB.out); clear hB1 hf1 hs1 ht1; go_frame))
      have hb1' := hb1
      simp only [heap_alloc2] at hb1'
      first
      | exact bodyPost_ret (results_N rfl hb1 (zero_is w).len _ rfl rfl) rfl ⟨zeroV, rfl, zero_is _, HB1.out⟩
      | exact bodyPost_ret (results_N rfl hb1' (zero_is w).len _ rfl rfl) rfl ⟨zeroV, rfl, zero_is _, HB1.out⟩
    · by_cases hp8 : 8 ≤ p
      · go_enter Try.func16, Try.ntmps16
        go_wp2_with (first
          | (refine wpl_allocN (by rfl) (by rfl) ?_; go_frame)
          | (refine wpl_build0N (by rfl) (by rfl) ?_; go_frame)
          | (refine wpl_store_blkA 37 ((w.alloc (.cells X.toArray 37)).alloc (.cells #[.int .i64 p] 3)).heap.size zeroV.toArray zeroV (zero_is w).one (by rw [(zero_is w).len]; exact info_N) H3.out (by rfl) (by rfl) _ _ (by rfl) (by rfl) (by rfl) ?_; intro W1 hb1 hB1 hf1 hs1 ht1; have HB1 := Aside0.mk (hB1 w (size_alloc2 _ _ _) HB.out); clear hB1 hf1 hs1 ht1; go_frame))
        have hb1' := hb1
        simp only [heap_alloc2] at hb1'
        first
        | exact bodyPost_ret (results_N rfl hb1 (zero_is w).len _ rfl rfl) rfl ⟨zeroV, rfl, zero_is _, HB1.out⟩
        | exact bodyPost_ret (results_N rfl hb1' (zero_is w).len _ rfl rfl) rfl ⟨zeroV, rfl, zero_is _, HB1.out⟩
      · have hpn : p = n.no := by omega
        subst hpn
        go_enter Try.func16, Try.ntmps16
        go_wp2_with (first
          | (refine wpl_allocN (by rfl) (by rfl) ?_; go_frame)
          | (refine wpl_build0N (by rfl) (by rfl) ?_; go_frame)
          | (refine wpl_store_blkA 37 ((w.alloc (.cells X.toArray 37)).alloc (.cells #[.int .i64 n.no] 3)).heap.size zeroV.toArray zeroV (zero_is w).one (by rw [(zero_is w).len]; exact info_N) H3.out (by rfl) (by rfl) _ _ (by rfl) (by rfl) (by rfl) ?_; intro W1 hb1 hB1 hf1 hs1 ht1; have HB1 := Aside0.mk (hB1 w (size_alloc2 _ _ _) HB.out); clear hB1 hf1 hs1 ht1; go_frame))
        have hb1' := hb1
        simp only [heap_alloc2] at hb1'
        first
        | exact bodyPost_ret (results_N rfl hb1 (zero_is w).len _ rfl rfl) rfl ⟨zeroV, rfl, zero_is _, HB1.out⟩
        | exact bodyPost_ret (results_N rfl hb1' (zero_is w).len _ rfl rfl) rfl ⟨zeroV, rfl, zero_is _, HB1.out⟩
  · have hp0 : ¬ p < 0 := fun h => hbad (.inl h)
    have hp8 : ¬ 8 ≤ p := fun h => hbad (.inr (.inl h))
    have hpn : ¬ p = n.no := fun h => hbad (.inr (.inr h))
    cases hc : n.peers.contains p with
    | true =>
      have hj : joinN n p = (zeroN, 7) := by unfold joinN; rw [if_neg hbad, if_pos hc]
      rw [hj]
      have HHAS := Aside0.mk (fun V (h : Kd.C kP V pA n.peers.length n.peers) => join_has pA pc n.peers p V (RdI_of h) (Plain_of h))
      obtain ⟨X, hX⟩ : ∃ X, X = cellsN n (.slice dA n.disk.length dc) (.slice lA n.L.length lc) (.slice tA n.T.length tc) (.slice pA n.peers.length pc) := ⟨_, rfl⟩
      rw [← hX]
      obtain ⟨b1, b2, b3⟩ := blk_new3 w (.cells X.toArray 37) (.cells #[.int .i64 p] 3) (.cells zeroV.toArray 37)
      have HB := Aside0.mk (below_alloc (below_alloc (below_alloc (Below.refl w.heap.size w) (.cells X.toArray 37)) (.cells #[.int .i64 p] 3)) (.cells zeroV.toArray 37))
      have HS := Aside0.mk (HHAS.out _ (Kd.C_below h4 HB.out))
      rw [hc] at HS
      have c0 : (((w.alloc (.cells X.toArray 37)).alloc (.cells #[.int .i64 p] 3)).alloc (.cells zeroV.toArray 37)).cell? ⟨w.heap.size, 0, none⟩ = some (.int .i64 n.no) := by rw [blk_cell b1 0, hX]; rfl
      have c7 : (((w.alloc (.cells X.toArray 37)).alloc (.cells #[.int .i64 p] 3)).alloc (.cells zeroV.toArray 37)).cell? ⟨w.heap.size, 7, none⟩ = some (.slice pA n.peers.length pc) := by rw [blk_cell b1 7, hX]; rfl
      have cp : (((w.alloc (.cells X.toArray 37)).alloc (.cells #[.int .i64 p] 3)).alloc (.cells zeroV.toArray 37)).cell? ⟨w.heap.size + 1, 0, none⟩ = some (.int .i64 p) := blk_cell b2 0
      have H3 := Aside0.mk b3
      clear h1 h2 h3 h4 h5 hX b1 b2 b3 HHAS hc hbad
      go_enter Try.func16, Try.ntmps16
      go_wp2_with (first
        | (refine wpl_allocN (by rfl) (by rfl) ?_; go_frame)
        | (go_at_call 25; refine HS.out.mono ?_; rintro e w' ⟨rfl, hw⟩; subst hw; go_frame)
        | (refine wpl_build0N (by rfl) (by rfl) ?_; go_frame)
        | (refine wpl_store_blkA 37 ((w.alloc (.cells X.toArray 37)).alloc (.cells #[.int .i64 p] 3)).heap.size zeroV.toArray zeroV (zero_is w).one (by rw [(zero_is w).len]; exact info_N) H3.out (by rfl) (by rfl) _ _ (by rfl) (by rfl) (by rfl) ?_; intro W1 hb1 hB1 hf1 hs1 ht1; have HB1 := Aside0.mk (hB1 w (size_alloc2 _ _ _) HB.out); clear hB1 hf1 hs1 ht1; go_frame))
      have hb1' := hb1
      simp only [heap_alloc2] at hb1'
      first
      | exact bodyPost_ret (results_N rfl hb1 (zero_is w).len _ rfl rfl) rfl ⟨zeroV, rfl, zero_is _, HB1.out⟩
      | exact bodyPost_ret (results_N rfl hb1' (zero_is w).len _ rfl rfl) rfl ⟨zeroV, rfl, zero_is _, HB1.out⟩
    | false =>
      have hj : joinN n p = ({n with peers := insP p n.peers}, 0) := by unfold joinN; rw [if_neg hbad, if_neg (by rw [hc]; simp)]
      rw [hj]
      obtain ⟨hf1, hf2, hf3, hf4⟩ := hf
      refine (join_ok w n.no n.room n.seq n.nx n.ms n.up dA lA tA pA n.disk.length dc n.L.length lc n.T.length tc pc n.peers p (CpB n.disk) (CpC n.L) (CpC n.T) (stays_B _) (stays_C _) (stays_C _)
        (copies_B h1 (by omega)) (copies_C h2 hf2) (copies_C h3 hf3) (RdI_of h4) (Plain_of h4) (by omega) (by omega) (by omega) hpn hc).mono ?_
      rintro e w' ⟨⟨dA', dn', dc', lA', ln', lc', tA', tn', tc', A, k, c, rfl, hk, ho, q1, q2, q3⟩, hb⟩
      obtain ⟨e1, r1⟩ := read_B q1
      obtain ⟨e2, r2⟩ := read_C q2
      obtain ⟨e3, r3⟩ := read_C q3
      obtain ⟨r4, r5⟩ := read_P hk ho
      subst e1 e2 e3 hk
      exact ⟨_, rfl, ⟨dA', dc', lA', lc', tA', tc', A, c, rfl, r1, r2, r3, r4, r5⟩, hb⟩
end Go.Proofs.Ytameeejfkgoheaa.P
