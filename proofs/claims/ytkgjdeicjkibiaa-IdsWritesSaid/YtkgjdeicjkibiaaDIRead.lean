/- ids.Read. By hand. -/
import Derived.Test.YtkgjdeicjkibiaaDIHex
import Derived.Laws.RangeAny
import Derived.LoopTactic
namespace Go.Proofs.Ytkgjdeicjkibiaa.D
open Go.RowKit Go.Proofs.YtkgjdeicjkibiaaW.PrintWords Go.Proofs.YtkgjdeicjkibiaaW.PrintLast Go.Proofs.YtkgjdeicjkibiaaW.PrintMore Go.Proofs.YtkgjdeicjkibiaaW
set_option linter.unusedVariables false
set_option linter.unusedSimpArgs false
def digV (c : UInt8) : Int := Lib.indexByte digitsL c
def stepR (a : Id) (i : Nat) (d : Int) : Id := a.set (i / 2) (UInt8.ofNat ((a.getD (i / 2) 0).toNat * 16 + d.toNat))
def goR : List UInt8 → Nat → Id → Option Id
  | [], _, a => some a
  | c :: s, i, a => if digV c < 0 then none else goR s (i + 1) (stepR a i (digV c))
def readI (s : List UInt8) : Option Id := if s.length = 64 then goR s 0 zeroI else none
theorem stepR_len (a : Id) (i : Nat) (d : Int) : (stepR a i d).length = a.length := by simp [stepR]
theorem goR_ok : ∀ (s : List UInt8) (i : Nat) (a b : Id), okId a → goR s i a = some b → okId b
  | [], _, a, b, h, e => by cases e; exact h
  | c :: s, i, a, b, h, e => by
    unfold goR at e
    split at e
    · cases e
    · exact goR_ok s _ _ b (by unfold okId at *; rw [stepR_len]; exact h) e
theorem next_str {P : Program} {w : World} {r : Nat} {s : ByteArray} {pos : Nat} (h : w.heap[r]? = some (.stringIter s pos)) (ty : TypeId) (hp : pos < s.size) :
    (Instr.next (.pointer (some ⟨r, 0, none⟩)) true ty).run P w = .ok (.tuple #[.bool true, .int .i64 pos, .int .i32 (Utf8.decode s pos).1]) { w with heap := w.heap.setIfInBounds r (.stringIter s (pos + (Utf8.decode s pos).2)) } := by
  simp only [Instr.next, getObj, setObj, Sem.run_bind, Sem.run, h, Result.andThen, hp, if_true]
  simp [goInt]
theorem next_str_end {P : Program} {w : World} {r : Nat} {s : ByteArray} {pos : Nat} (h : w.heap[r]? = some (.stringIter s pos)) (ty : TypeId) (hp : ¬ pos < s.size) :
    (Instr.next (.pointer (some ⟨r, 0, none⟩)) true ty).run P w = .ok (.tuple #[.bool false]) w := by
  simp [Instr.next, getObj, Sem.run, h, hp]
section
variable {ops : Array Oper} {rest : List Oper} {op : Oper} {a : Act} {w : World} {Q : Exit → Act → World → Prop}
theorem wpl_next_str (r : Nat) (s : ByteArray) (pos : Nat) (h : w.heap[r]? = some (.stringIter s pos)) (hp : pos < s.size) (hgd : op.guard = none) (it : Operand) (ho : op.op = .next it true) (hit : a.eval it = .pointer (some ⟨r, 0, none⟩))
    (hK : ∀ W1 : World, W1.heap[r]? = some (.stringIter s (pos + (Utf8.decode s pos).2)) → (∀ w0 : World, w0.heap.size ≤ r → Below w0.heap.size w0 w → Below w0.heap.size w0 W1) → (∀ k, k ≠ r → W1.heap[k]? = w.heap[k]?) → wpList Try.prog ops Q rest (a.put op.dst (.tuple #[.bool true, .int .i64 pos, .int .i32 (Utf8.decode s pos).1])) W1) : wpList Try.prog ops Q (op :: rest) a w := by
  have hlt : r < w.heap.size := (Array.getElem?_eq_some_iff.1 h).1
  refine wpList_plain hgd fun _ hK' => ?_
  unfold Oper.wp execOp
  simp only [ho, hit, Sem.run_bind, next_str h _ hp, Result.andThen_ok]
  refine hK' _ _ (hK _ ?_ ?_ ?_)
  · simp [hlt]
  · intro w0 h0 hB
    refine ⟨hB.os, hB.tape, hB.output, by simpa using hB.size, fun j hj => ?_⟩
    rw [← hB.block j hj, Array.getElem?_setIfInBounds, if_neg (by omega)]
  · intro j hj
    rw [Array.getElem?_setIfInBounds, if_neg (fun e => hj e.symm)]
theorem wpl_next_end (r : Nat) (s : ByteArray) (pos : Nat) (h : w.heap[r]? = some (.stringIter s pos)) (hp : ¬ pos < s.size) (hgd : op.guard = none) (it : Operand) (ho : op.op = .next it true) (hit : a.eval it = .pointer (some ⟨r, 0, none⟩))
    (hK : wpList Try.prog ops Q rest (a.put op.dst (.tuple #[.bool false])) w) : wpList Try.prog ops Q (op :: rest) a w := by
  refine wpList_plain hgd fun _ hK' => ?_
  unfold Oper.wp execOp
  simp only [ho, hit, Sem.run_bind, next_str_end h _ hp, Result.andThen_ok]
  exact hK' _ _ hK
theorem wpl_build0 (hgd : op.guard = none) (ho : op.op = .build 23 #[]) (hK : wpList Try.prog ops Q rest (a.put op.dst (valI zeroI)) w) : wpList Try.prog ops Q (op :: rest) a w := by
  have hr : (Instr.build 23 #[]).run Try.prog w = .ok (valI zeroI) w := by kernel_rfl
  refine wpList_plain hgd fun _ hK' => ?_
  unfold Oper.wp execOp
  simp only [ho, Sem.run_bind, Array.map_empty, hr, Result.andThen_ok]
  exact hK' _ _ hK
end
theorem results_read {V : World} {b : Nat} {i : Id} {t : Bool} (hb : V.heap[b]? = some (.cells (arrI i) 23 (0, 0))) (hi : okId i) (tmps : Array Value) (h2 : tmps.getD 2 undef = .pointer (some ⟨b, 0, none⟩)) (h3 : tmps.getD 3 undef = .bool t) :
    (results Try.f10 tmps).run Try.prog V = .ok (.tuple #[valI i, .bool t]) V := by
  have hl : (loadVar 23 ⟨b, 0, none⟩).run Try.prog V = .ok (valI i) V := run_loadVar_mid V b 0 23 (cellsI i) _ (range_of_blk hb) Try.underlying23 rfl (info_I hi)
  have hf : (Try.f10).results = #[.cell 2 23, .tmp 3] := rfl
  unfold results
  rw [hf]
  simp only [h3, h2, asAddr, Sem.run_bind, Sem.run_pure, Result.andThen_ok, hl, Array.mapM_eq_mapM_toList, List.mapM_cons, List.mapM_nil]
  simp [hl, Result.andThen]
set_option maxRecDepth 100000 in
theorem digV_lt {c : UInt8} (h : 0 ≤ digV c) : c.toNat < 128 ∧ digV c < 16 := by
  have : ∀ n : Fin 256, 0 ≤ digV (UInt8.ofNat n.val) → (UInt8.ofNat n.val).toNat < 128 ∧ digV (UInt8.ofNat n.val) < 16 := by decide
  have e := this ⟨c.toNat, c.toNat_lt⟩
  simp only [UInt8.ofNat_toNat] at e
  exact e h
theorem digits_call (c : UInt8) (V : World) : Calls Try.prog 29 #[.string ⟨#[48, 49, 50, 51, 52, 53, 54, 55, 56, 57, 97, 98, 99, 100, 101, 102]⟩, .int .u8 (c.toNat : Int)] V fun e w' => e = .returned (.int .i64 (digV c)) ∧ w' = V := by
  have h := Try.strings_IndexByte ⟨#[48, 49, 50, 51, 52, 53, 54, 55, 56, 57, 97, 98, 99, 100, 101, 102]⟩ (c.toNat : Int) V
  have e : ((c.toNat : Int)).toNat.toUInt8 = c := by simp
  rw [e] at h
  exact h
set_option maxRecDepth 100000 in
theorem or_step (m : UInt8) (d : Int) (h0 : 0 ≤ d) (h1 : d < 16) : bits BinOp.or IntKind.u8 ((m.toNat : Int) * 16 % 256) d = ((UInt8.ofNat (m.toNat * 16 + d.toNat)).toNat : Int) := by
  have h : ∀ (a : Fin 256) (b : Fin 16), bits BinOp.or IntKind.u8 ((a.val : Int) * 16 % 256) (b.val : Int) = ((UInt8.ofNat (a.val * 16 + b.val)).toNat : Int) := by decide +kernel
  have := h ⟨m.toNat, m.toNat_lt⟩ ⟨d.toNat, by omega⟩
  simp only [Int.toNat_of_nonneg h0] at this
  exact this
theorem arr_set (a : Id) (i : Nat) (z : UInt8) : (arrI a).setIfInBounds i (.int .u8 (z.toNat : Int)) = arrI (a.set i z) := by
  unfold arrI cellsI
  rw [List.setIfInBounds_toArray, List.map_set]
  rfl
set_option maxHeartbeats 4000000 in
set_option maxRecDepth 100000 in
theorem read_calls (s : ByteArray) (hs : s.size ≤ 140737488355328) (w : World) :
    Calls Try.prog 10 #[.string s] w fun e w' => e = .returned (.tuple #[valI ((readI s.data.toList).getD zeroI), .bool (readI s.data.toList).isSome]) ∧ Below w.heap.size w w' := by
  have hu9 := Try.underlying9
  have HB0 := Aside0.mk (below_alloc (Below.refl w.heap.size w) (.cells (arrI zeroI) 23))
  have HA0 := Aside0.mk (blk_new w (.cells (arrI zeroI) 23))
  by_cases hl : s.size = 64
  · have hr : readI s.data.toList = goR s.data.toList 0 zeroI := by unfold readI; rw [if_pos (by simpa using hl)]
    rw [hr]
    generalize hg0 : goR s.data.toList 0 zeroI = g0
    have HG0 := Aside0.mk hg0
    clear hg0 hr
    go_enter Try.func10, Try.ntmps10
    go_wp2_with (first | (refine wpl_alloc (by rfl) (by rfl) ?_; go_frame))
    have HIT : Aside0 (((w.alloc (.cells (arrI zeroI) 23)).iter s 0).heap[w.heap.size + 1]? = some (.stringIter s 0)) := ⟨by have := World.iter_heap (w.alloc (.cells (arrI zeroI) 23)) s 0; simpa using this⟩
    have HA1 : Aside0 (((w.alloc (.cells (arrI zeroI) 23)).iter s 0).heap[w.heap.size]? = some (.cells (arrI zeroI) 23 (0, 0))) := ⟨blk_alloc HA0.out _⟩
    have HB1 : Aside0 (Below w.heap.size w ((w.alloc (.cells (arrI zeroI) 23)).iter s 0)) := ⟨below_alloc HB0.out _⟩
    clear HA0 HB0
    go_loopw [4] (fun v wr => ∃ (k : Nat) (a : Id), k ≤ 64 ∧ okId a ∧ Aside0 (wr.heap[w.heap.size + 1]? = some (.stringIter s k)) ∧ Aside0 (wr.heap[w.heap.size]? = some (.cells (arrI a) 23 (0, 0))) ∧ Aside0 (goR (s.data.toList.drop k) k a = g0) ∧ Aside0 (Below w.heap.size w wr)) (fun _ wr => 64 - wr.iterPos (w.heap.size + 1))
    case atStart => exact ⟨0, zeroI, by omega, zeroI_ok, HIT, HA1, HG0, HB1⟩
    case round =>
      clear HIT HA1 HB1 HG0
      obtain ⟨k, ai, hk, hai, hIT, hA, hG, hB⟩ := hrel
      by_cases hlt : k < 64
      · have hks : k < s.size := by omega
        have hkl : k < s.data.toList.length := by simpa using hks
        have hGk := hG.out
        rw [List.drop_eq_getElem_cons hkl] at hGk
        generalize hc : s[k]'hks = c
        have hcl : s.data.toList[k] = c := by rw [← hc]; rfl
        rw [hcl] at hGk
        unfold goR at hGk
        have HGK := Aside0.mk hGk
        have HDC := Aside0.mk (fun (h : c.toNat < 128) => show Utf8.decode s k = (c.toNat, 1) by have := decode_ascii s k hks (by rw [hc]; exact h); rw [hc] at this; exact this)
        have hk0 : (0 : Int) ≤ (k : Int) := Int.natCast_nonneg _
        have hk64 : (k : Int) < (s.size : Int) := by omega
        clear hGk hG hcl
        by_cases hd : digV c < 0
        · have hg0 := HGK.out
          rw [if_pos hd] at hg0
          subst hg0
          clear HGK
          go_wp2_with (first
            | (refine wpl_next_str (w.heap.size + 1) s k hIT.out hks (by rfl) _ (by rfl) (by rfl) ?_; intro W1 hi1 hB1 hf1; have HI1 := Aside0.mk hi1; have HA1 := Aside0.mk ((hf1 w.heap.size (by omega)).trans hA.out); have HB1 := Aside0.mk (hB1 w (by omega) hB.out); clear hi1 hB1 hf1 hIT hA hB; go_frame)
            | (go_at_call 29; refine (digits_call c _).mono ?_; rintro e w' ⟨rfl, rfl⟩; go_frame)
            | (refine wpl_build0 (by rfl) (by rfl) ?_; go_frame)
            | (refine wpl_store_blk w.heap.size _ zeroI HA1.out (by simp [arrI, cellsI_ok hai]) zeroI_ok (by rfl) _ _ (by rfl) (by rfl) (by rfl) ?_; intro W1 hb1 hB1 hf1 hs1; have HB1 := Aside0.mk (hB1 w (Nat.le_refl _) HB1.out); clear hB1; go_frame))
          exact bodyPost_ret (results_read hb1 zeroI_ok _ rfl rfl) rfl ⟨rfl, HB1.out⟩
        · have hg0 := HGK.out
          rw [if_neg hd] at hg0
          obtain ⟨hc128, hd16⟩ := digV_lt (c := c) (by omega)
          have hdec := HDC.out hc128
          have HG1 := Aside0.mk hg0
          obtain ⟨m, hm⟩ : ∃ m, m = ai.getD (k / 2) 0 := ⟨_, rfl⟩
          have HAV : Aside0 ((arrI ai)[k / 2]? = some (Value.int .u8 (m.toNat : Int))) := ⟨by
            have hx' : k / 2 < ai.length := by rw [hai]; omega
            rw [hm]
            simp [arrI, cellsI, cellI, List.getD_eq_getElem?_getD, hx']⟩
          have HM : Aside0 (stepR ai k (digV c) = ai.set (k / 2) (UInt8.ofNat (m.toNat * 16 + (digV c).toNat))) := ⟨by unfold stepR; rw [hm]⟩
          have hpos : wr.iterPos (w.heap.size + 1) = k := by simp [World.iterPos, hIT.out]
          clear hm
          have hd0 : 0 ≤ digV c := by omega
          clear HGK hg0 HDC
          go_wp2_with (first
            | (refine wpl_next_str (w.heap.size + 1) s k hIT.out hks (by rfl) _ (by rfl) (by rfl) ?_; intro W1 hi1 hB1 hf1; have HI1 := Aside0.mk hi1; have HA1 := Aside0.mk ((hf1 w.heap.size (by omega)).trans hA.out); have HB1 := Aside0.mk (hB1 w (by omega) hB.out); clear hi1 hB1 hf1 hIT hA hB; have hc27 := (blk_cell HA1.out (k / 2)).trans HAV.out; have hf27 := blk_frozen HA1.out (k / 2); go_frame)
            | (go_at_call 29; refine (digits_call c _).mono ?_; rintro e w' ⟨rfl, rfl⟩; go_frame))
          rw [or_step m (digV c) hd0 hd16]
          have HA2 : Aside0 ((w'.setCell ⟨w.heap.size, k / 2, none⟩ (.int .u8 ((UInt8.ofNat (m.toNat * 16 + (digV c).toNat)).toNat : Int))).heap[w.heap.size]? = some (.cells (arrI (stepR ai k (digV c))) 23 (0, 0))) := ⟨by rw [HM.out, ← arr_set]; exact blk_set HA1.out _ _⟩
          have HI2 : Aside0 ((w'.setCell ⟨w.heap.size, k / 2, none⟩ (.int .u8 ((UInt8.ofNat (m.toNat * 16 + (digV c).toNat)).toNat : Int))).heap[w.heap.size + 1]? = some (.stringIter s (k + 1))) := ⟨by
            rw [Below.heap_setCell w' ⟨w.heap.size, k / 2, none⟩ _ (w.heap.size + 1) (by simp)]
            have := HI1.out
            rw [hdec] at this
            exact this⟩
          have HB2 : Aside0 (Below w.heap.size w (w'.setCell ⟨w.heap.size, k / 2, none⟩ (.int .u8 ((UInt8.ofNat (m.toNat * 16 + (digV c).toNat)).toNat : Int)))) := ⟨below_set HB1.out (Nat.le_refl _)⟩
          clear hc27 hf27
          go_roundw
          case rel => exact ⟨k + 1, stepR ai k (digV c), by omega, by unfold okId; rw [stepR_len]; exact hai, HI2, HA2, HG1, HB2⟩
          case measure =>
            have : (w'.setCell ⟨w.heap.size, k / 2, none⟩ (.int .u8 ((UInt8.ofNat (m.toNat * 16 + (digV c).toNat)).toNat : Int))).iterPos (w.heap.size + 1) = k + 1 := by
              unfold World.iterPos
              rw [HI2.out]
            rw [this, hpos]
            omega
      · have hk2 : k = 64 := by omega
        subst hk2
        have hge : goR (s.data.toList.drop 64) 64 ai = some ai := by rw [List.drop_of_length_le (by simp; omega)]; rfl
        have hgg := hG.out
        rw [hge] at hgg
        subst hgg
        clear hge hG
        go_wp2_with (first
          | (refine wpl_next_end (w.heap.size + 1) s 64 hIT.out (by omega) (by rfl) _ (by rfl) (by rfl) ?_; go_frame)
          | (refine wpl_load w.heap.size 0 ai (range_of_blk (t := 23) hA.out) hai (by rfl) _ (by rfl) (by rfl) ?_; go_frame)
          | (refine wpl_store_blk w.heap.size _ ai hA.out (by simp [arrI, cellsI_ok hai]) hai (by rfl) _ _ (by rfl) (by rfl) (by rfl) ?_; intro W1 hb1 hB1 hf1 hs1; have HB1 := Aside0.mk (hB1 w (Nat.le_refl _) hB.out); clear hB1; go_frame))
        exact bodyPost_ret (results_read hb1 hai _ rfl rfl) rfl ⟨rfl, HB1.out⟩
  · have hr : readI s.data.toList = none := by unfold readI; rw [if_neg (by simpa using hl)]
    rw [hr]
    have hl2 : ¬ (s.size : Int) = 64 := by omega
    go_enter Try.func10, Try.ntmps10
    go_wp2_with (first
      | (refine wpl_alloc (by rfl) (by rfl) ?_; go_frame)
      | (refine wpl_load w.heap.size 0 zeroI (range_of_blk (t := 23) HA0.out) zeroI_ok (by rfl) _ (by rfl) (by rfl) ?_; go_frame)
      | (refine wpl_store_blk w.heap.size _ zeroI HA0.out (by rfl) zeroI_ok (by rfl) _ _ (by rfl) (by rfl) (by rfl) ?_; intro W1 hb1 hB1 hf1 hs1; have HB1 := Aside0.mk (hB1 w (Nat.le_refl _) HB0.out); clear hB1; go_frame))
    exact bodyPost_ret (results_read hb1 zeroI_ok _ rfl rfl) rfl ⟨rfl, HB1.out⟩
end Go.Proofs.Ytkgjdeicjkibiaa.D
