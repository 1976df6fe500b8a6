/- Several texts in one: PNAgg, PNClone, PNCloneB, PNCommits, PNNode. -/
import Derived.Test.YtameeejfkgoheaaPNApp
import Derived.Great.BuildSlice
import Derived.Test.YtameeejfkgoheaaPOwn
import Derived.Test.YtameeejfkgoheaaPJoin
section
/- One operation at a time, at structs whose cells stay a list: a new variable, a store into it. Plain. -/
namespace Go.Proofs.Ytameeejfkgoheaa.P
open Go.RowKit Go.Proofs.YtameeejfkgoheaaW.PrintWords Go.Proofs.YtameeejfkgoheaaW.PrintLast Go.Proofs.YtameeejfkgoheaaW.PrintMore Go.Proofs.YtameeejfkgoheaaW
set_option linter.unusedVariables false
set_option linter.unusedSimpArgs false
theorem tape_setCells {b : Nat} : ∀ (vs : List Value) (o : Nat) (V : World), (V.setCells b o vs).tape = V.tape
  | [], _, _ => rfl
  | v :: vs, o, V => (tape_setCells vs (o + 1) (V.setCell ⟨b, o, none⟩ v)).trans rfl
section
variable {ops : Array Oper} {rest : List Oper} {op : Oper} {a : Act} {w : World} {Q : Exit → Act → World → Prop}
/-- a store into a variable that was just made -/
theorem wpl_store_newA (t : TypeId) (w0 : World) (Z : Array Value) (cs : List Value) (h1 : ∀ u ∈ cs, u.oneCell' = true) (hi : (Try.prog.info? t).map (·.size) = some cs.length) (hw : w = w0.alloc (.cells Z t)) (hZ : Z.size = cs.length) (hgd : op.guard = none) (x y : Operand) (ho : op.op = .store t x y)
    (hx : a.eval x = .pointer (some ⟨w0.heap.size, 0, none⟩)) (hy : a.eval y = .agg cs.toArray)
    (h : ∀ W1 : World, W1.heap[w0.heap.size]? = some (.cells cs.toArray t (0, 0)) → Below w0.heap.size w0 W1 → W1.heap.size = w0.heap.size + 1 → wpList Try.prog ops Q rest (a.put op.dst undef) W1) : wpList Try.prog ops Q (op :: rest) a w := by
  subst hw
  have hb := blk_new w0 (.cells Z t)
  refine wpList_store_mid hgd t x y ho w0.heap.size 0 cs.toArray hx hy (fun j hj => ?_) (by rw [List.size_toArray]; exact hi) (all_oneCell_toArray h1) ?_
  · rw [List.size_toArray] at hj
    rw [Nat.zero_add]
    refine ⟨?_, blk_frozen hb j⟩
    rw [blk_cell hb j]
    simp [hZ, hj]
  · obtain ⟨cs', h2, h3, h4, _⟩ := setCells_heap cs _ w0.heap.size 0 Z _ hb (by rw [hZ]; omega)
    have he : cs' = cs.toArray := by
      apply Array.ext_getElem?
      intro j
      by_cases hj : j < cs.length
      · have := h4 j hj
        rw [Nat.zero_add] at this
        rw [this]
        simp
      · rw [Array.getElem?_eq_none (by omega), Array.getElem?_eq_none (by simp; omega)]
    subst he
    exact h _ h2 (below_setCells (Nat.le_refl _) _ _ _ (below_alloc (Below.refl _ _) _)) (by rw [size_setCells]; simp)
/-- a store over a whole variable -/
theorem wpl_store_blkA (t : TypeId) (b : Nat) (Z : Array Value) (cs : List Value) (h1 : ∀ u ∈ cs, u.oneCell' = true) (hi : (Try.prog.info? t).map (·.size) = some cs.length) (hb : w.heap[b]? = some (.cells Z t (0, 0))) (hZ : Z.size = cs.length) (hgd : op.guard = none) (x y : Operand) (ho : op.op = .store t x y)
    (hx : a.eval x = .pointer (some ⟨b, 0, none⟩)) (hy : a.eval y = .agg cs.toArray)
    (h : ∀ W1 : World, W1.heap[b]? = some (.cells cs.toArray t (0, 0)) → (∀ w0 : World, w0.heap.size ≤ b → Below w0.heap.size w0 w → Below w0.heap.size w0 W1) → (∀ k, k ≠ b → W1.heap[k]? = w.heap[k]?) → W1.heap.size = w.heap.size → W1.tape = w.tape → wpList Try.prog ops Q rest (a.put op.dst undef) W1) : wpList Try.prog ops Q (op :: rest) a w := by
  refine wpList_store_mid hgd t x y ho b 0 cs.toArray hx hy (fun j hj => ?_) (by rw [List.size_toArray]; exact hi) (all_oneCell_toArray h1) ?_
  · rw [List.size_toArray] at hj
    rw [Nat.zero_add]
    refine ⟨?_, blk_frozen hb j⟩
    rw [blk_cell hb j]
    simp [hZ, hj]
  · obtain ⟨cs', h2, h3, h4, _⟩ := setCells_heap cs w b 0 Z _ hb (by rw [hZ]; omega)
    have he : cs' = cs.toArray := by
      apply Array.ext_getElem?
      intro j
      by_cases hj : j < cs.length
      · have := h4 j hj
        rw [Nat.zero_add] at this
        rw [this]
        simp
      · rw [Array.getElem?_eq_none (by omega), Array.getElem?_eq_none (by simp; omega)]
    subst he
    refine h _ h2 (fun w0 h0 hB => below_setCells h0 _ _ _ hB) (fun k hk => heap_setCells_far _ _ _ k hk) (size_setCells _ _ _) ?_
    exact tape_setCells _ _ _
end
theorem fold_set : ∀ (vs : List Value) (Z : Array Value) (off s : Nat), off + s + vs.length ≤ Z.size →
    ∃ C, (vs.zipIdx s).foldl (fun cs (x : Value × Nat) => cs.setIfInBounds (off + x.2) x.1) Z = C ∧ C.size = Z.size ∧ (∀ j, j < vs.length → C[off + s + j]? = vs[j]?) ∧ ∀ j, (j < off + s ∨ off + s + vs.length ≤ j) → C[j]? = Z[j]?
  | [], Z, off, s, h => ⟨Z, rfl, rfl, fun j hj => absurd hj (by simp), fun j _ => rfl⟩
  | v :: vs, Z, off, s, h => by
    have hl : (v :: vs).length = vs.length + 1 := rfl
    obtain ⟨C, h1, h2, h3, h4⟩ := fold_set vs (Z.setIfInBounds (off + s) v) off (s + 1) (by rw [Array.size_setIfInBounds]; omega)
    refine ⟨C, by rw [List.zipIdx_cons, List.foldl_cons]; exact h1, by simpa using h2, fun j hj => ?_, fun j hj => ?_⟩
    · match j with
      | 0 =>
        rw [Nat.add_zero, h4 _ (.inl (by omega)), Array.getElem?_setIfInBounds, if_pos rfl, if_pos (by omega)]
        rfl
      | j + 1 =>
        have := h3 j (by omega)
        rw [show off + s + (j + 1) = off + (s + 1) + j by omega, this]
        rfl
    · rw [h4 j (by omega), Array.getElem?_setIfInBounds, if_neg (by omega)]
theorem fill_one (cs : List Value) (sz : Nat) (Z : Array Value) (hl : cs.length = sz) (hZ : Z.size = sz) : Instr.fill (fun i => some (i * sz, sz)) Z [(0, Value.agg cs.toArray)] = some cs.toArray := by
  obtain ⟨C0, e0, z0, p0, q0⟩ := fold_set cs Z 0 0 (by omega)
  unfold Instr.fill
  simp only [Value.cells, Nat.zero_mul]
  rw [if_neg (by simp; omega)]
  unfold Instr.fill
  have e : cs.toArray.zipIdx.foldl (fun cs (x : Value × Nat) => cs.setIfInBounds (0 + x.2) x.1) Z = C0 := by
    rw [← Array.foldl_toList, Array.toList_zipIdx]
    exact e0
  have hC : C0 = cs.toArray := by
    apply Array.ext_getElem?
    intro j
    by_cases hj : j < cs.length
    · have := p0 j hj
      rw [show 0 + 0 + j = j by omega] at this
      rw [this]
      simp
    · rw [Array.getElem?_eq_none (by omega), Array.getElem?_eq_none (by simp; omega)]
  exact congrArg some (e.trans hC)
/-- a slice literal of one struct -/
theorem wpl_build1A {ops : Array Oper} {rest : List Oper} {op : Oper} {a : Act} {w : World} {Q : Exit → Act → World → Prop} (ts t : TypeId) (cs : List Value) (hu : Try.prog.underlying ts = some (.slice t)) (h1 : (Try.prog.info? t).map (·.size) = some cs.length) (h2 : ((Try.prog.info? t).bind (·.zero)).isSome = true) (hc : cs.length ≤ 1000) (hc0 : 0 < cs.length) (hgd : op.guard = none)
    (parts : Array (Nat × Operand)) (ho : op.op = .buildSlice ts 1 parts) (hp : parts.toList.map (fun q => (q.1, a.eval q.2)) = [(0, .agg cs.toArray)])
    (h : wpList Try.prog ops Q rest (a.put op.dst (.slice (some ⟨w.heap.size, 0, none⟩) 1 1)) (w.alloc (.cells cs.toArray t))) : wpList Try.prog ops Q (op :: rest) a w := by
  cases hie : Try.prog.info? t with
  | none => simp [hie] at h1
  | some ie =>
    simp only [hie, Option.map_some, Option.some.injEq, Option.bind_some] at h1 h2
    obtain ⟨z, hz⟩ := Option.isSome_iff_exists.1 h2
    refine wpList_buildSlice hgd ts t 1 parts ho _ ie z hu hie hz (by rw [h1]; omega) (by rw [h1]; omega) ?_ h
    rw [Array.toList_map, hp, h1]
    exact fill_one cs cs.length _ rfl (by simp)
end Go.Proofs.Ytameeejfkgoheaa.P
end
section
/- slices.Clone at ids and at bytes. By hand. -/
namespace Go.Proofs.Ytameeejfkgoheaa.P
open Go.RowKit Go.Proofs.YtameeejfkgoheaaW.PrintWords Go.Proofs.YtameeejfkgoheaaW.PrintLast Go.Proofs.YtameeejfkgoheaaW.PrintMore Go.Proofs.YtameeejfkgoheaaW
set_option linter.unusedVariables false
set_option linter.unusedSimpArgs false
theorem R_ofI {w : World} {base : Nat} {ok : Nat → Prop} {v : Value} {l : List Id} (h : w.ownsRow base 71 32 v l.length (rowI l)) (hok : ∀ x ∈ l, okId x) (ho : ∀ k, v.ownBlock = some k → ok k) : kI.R 71 w base ok v l :=
  ⟨ho, rowI l, h, reps_I (fun x hx => ⟨rfl, hx⟩) l hok⟩
set_option maxHeartbeats 1000000 in
set_option maxRecDepth 100000 in
theorem cloneI_calls (A0 : Option Addr) (c0 : Nat) (l : List Id) (w : World) (hr0 : Kd.C kI w A0 l.length l) (hlim : l.length * 32 ≤ 140737488355328) :
    Calls Try.prog 41 #[.slice A0 l.length c0] w fun e w' => ∃ A c, e = .returned (.slice A l.length c) ∧ l.length ≤ c ∧ kI.R 71 w' w.heap.size (fun k => w.heap.size ≤ k) (.slice A l.length c) l ∧ Below w.heap.size w w' := by
  have HK := Aside0.mk (C_ok hr0)
  have hnil := fun (W : World) (a : Option Addr) (n c : Nat) => Lib.run_eql_slice_nil (P := Try.prog) W 58 71 a n c 0 0 Try.underlying58
  cases A0 with
  | none =>
    have h0 : l = [] := by
      rcases Nat.eq_zero_or_pos l.length with h | h
      · exact List.eq_nil_of_length_eq_zero h
      · obtain ⟨ad, h', _⟩ := hr0.2.2 h
        cases h'
    subst h0
    clear hr0
    go_enter Try.func41, Try.ntmps41
    go_wp2
    go_ret
    exact ⟨none, 0, rfl, Nat.le_refl _, Kd.R_nil _ _ _ _ _, Below.refl _ _⟩
  | some ad =>
    have hob : (w.alloc (.cells #[] 71)).ownsRow w.heap.size 71 32 (.slice (some ⟨w.heap.size, 0, none⟩) ([] : List Id).length 0) ([] : List Id).length (rowI []) := ⟨rfl, .inr ⟨w.heap.size, 0, #[], rfl, Nat.le_refl _, blk_new w _, Nat.le_refl _, Nat.zero_le _, rfl, rfl⟩⟩
    obtain ⟨v1, V1, hr1, ho1, hg1, A1, c1, rfl⟩ := app_ids (w.alloc (.cells #[] 71)) 58 hob (some ad) c0 l (Kd.C_alloc hr0 _) (by simp; omega) (by simp)
    simp only [List.nil_append, List.length_nil] at hr1 ho1
    have hcap := own_cap ho1
    have HB := Aside0.mk ((below_alloc (Below.refl w.heap.size w) (.cells #[] 71)).grown hg1 (by simp) (own_base hob))
    have HR := Aside0.mk (R_ofI (ok := fun k => w.heap.size ≤ k) ho1 HK.out (own_base ho1))
    clear hr0 hob ho1 hg1
    go_enter Try.func41, Try.ntmps41
    go_wp2_with (first
      | (at_builtin; refine Lib.wpList_append_run _ rfl _ _ _ _ rfl _ _ rfl rfl _ _ hr1 ?_; clear hr1; go_frame))
    go_ret
    exact ⟨A1, c1, rfl, hcap, HR.out, HB.out⟩
end Go.Proofs.Ytameeejfkgoheaa.P
end
section
/- slices.Clone at bytes. By hand. -/
namespace Go.Proofs.Ytameeejfkgoheaa.P
open Go.RowKit Go.Proofs.YtameeejfkgoheaaW.PrintWords Go.Proofs.YtameeejfkgoheaaW.PrintLast Go.Proofs.YtameeejfkgoheaaW.PrintMore Go.Proofs.YtameeejfkgoheaaW
set_option linter.unusedVariables false
set_option linter.unusedSimpArgs false
abbrev kB : Kd UInt8 := Kd.scalar cellI (fun _ => rfl)
theorem info_byte : ∃ i, Try.prog.info? 5 = some i ∧ i.zero = some (.int .u8 0) ∧ i.size = 1 ∧ i.bytes = 1 := by
  have h : (Try.prog.info? 5).map (fun i => (i.zero, i.size, i.bytes)) = some (some (.int .u8 0), 1, 1) := by kernel_rfl
  cases hi : Try.prog.info? 5 with
  | none => simp [hi] at h
  | some i =>
    simp only [hi, Option.map_some, Option.some.injEq, Prod.mk.injEq] at h
    exact ⟨i, rfl, h.1, h.2.1, h.2.2⟩
theorem news_B {w : World} {ad : Addr} {n : Nat} {l : List UInt8} (h : Kd.C kB w (some ad) n l) : ∀ j u, (bytesV l)[j]? = some u → w.cell? (ad.add j) = some u := by
  intro j u hu
  have hj : j < l.length := by have := (List.getElem?_eq_some_iff.1 hu).1; simpa [bytesV] using this
  obtain ⟨ad', e, hc⟩ := h.2.2 (by have := h.1; omega)
  cases e
  obtain ⟨cs, _, hK, hcell⟩ := hc j l[j] (List.getElem?_eq_getElem hj)
  have hK' : cs = [cellI l[j]] := hK
  subst hK'
  have h0 := hcell 0 _ rfl
  have e2 : u = cellI l[j] := by
    unfold bytesV at hu
    rw [List.getElem?_map, List.getElem?_eq_getElem hj] at hu
    simpa using hu.symm
  rw [e2]
  have e3 : j * kB.sz + 0 = j := by show j * 1 + 0 = j; omega
  rw [e3] at h0
  exact h0
set_option maxHeartbeats 1000000 in
set_option maxRecDepth 100000 in
theorem cloneB_calls (A0 : Option Addr) (c0 : Nat) (l : List UInt8) (w : World) (hr0 : Kd.C kB w A0 l.length l) (hlim : l.length ≤ 140737488355328) :
    Calls Try.prog 36 #[.slice A0 l.length c0] w fun e w' => ∃ A c, e = .returned (.slice A l.length c) ∧ w'.ownsRow w.heap.size 5 1 (.slice A l.length c) l.length (bytesV l) ∧ Below w.heap.size w w' := by
  have hnil := fun (W : World) (a : Option Addr) (n c : Nat) => Lib.run_eql_slice_nil (P := Try.prog) W 34 5 a n c 0 0 Try.underlying34
  obtain ⟨i0, hi, hz0, hz1, hz2⟩ := info_byte
  cases A0 with
  | none =>
    have h0 : l = [] := by
      rcases Nat.eq_zero_or_pos l.length with h | h
      · exact List.eq_nil_of_length_eq_zero h
      · obtain ⟨ad, h', _⟩ := hr0.2.2 h
        cases h'
    subst h0
    clear hr0 hi hz0 hz1 hz2
    go_enter Try.func36, Try.ntmps36
    go_wp2
    go_ret
    exact ⟨none, 0, rfl, own_nil _ _ _ _, Below.refl _ _⟩
  | some ad =>
    have hob : (w.alloc (.cells #[] 5)).ownsRow w.heap.size 5 1 (.slice (some ⟨w.heap.size, 0, none⟩) 0 0) 0 [] := ⟨rfl, .inr ⟨w.heap.size, 0, #[], rfl, Nat.le_refl _, blk_new w _, Nat.le_refl _, Nat.zero_le _, rfl, rfl⟩⟩
    obtain ⟨v1, V1, hr1, ho1, hg1, _, hat⟩ := run_append_own_at (P := Try.prog) (w := w.alloc (.cells #[] 5)) w.heap.size 34 34 5 i0 _ 1 1 Try.underlying34 hi hz0 hz1 hz2 rfl (by omega) _ 0 [] hob ad l.length c0 (bytesV l)
      (by simp [bytesV]) (news_B (Kd.C_alloc hr0 _)) (fun u hu => by obtain ⟨b, _, rfl⟩ := List.mem_map.1 hu; rfl) (by unfold maxLen; omega) (by omega) (by simp)
    simp only [List.nil_append, Nat.zero_add] at ho1
    obtain ⟨A1, c1, rfl⟩ := own_slice ho1
    have HB := Aside0.mk ((below_alloc (Below.refl w.heap.size w) (.cells #[] 5)).grown hg1 (by simp) (own_base hob))
    have HR := Aside0.mk ho1
    clear hr0 hob ho1 hg1 hi hz0 hz1 hz2 hat
    go_enter Try.func36, Try.ntmps36
    go_wp2_with (first
      | (at_builtin; refine Lib.wpList_append_run _ rfl _ _ _ _ rfl _ _ rfl rfl _ _ hr1 ?_; clear hr1; go_frame))
    go_ret
    exact ⟨A1, c1, rfl, HR.out, HB.out⟩
end Go.Proofs.Ytameeejfkgoheaa.P
end
section
/- peer.commits: some commits once more. By hand. -/
namespace Go.Proofs.Ytameeejfkgoheaa.P
open Go.RowKit Go.Proofs.YtameeejfkgoheaaW.PrintWords Go.Proofs.YtameeejfkgoheaaW.PrintLast Go.Proofs.YtameeejfkgoheaaW.PrintMore Go.Proofs.YtameeejfkgoheaaW
set_option linter.unusedVariables false
set_option linter.unusedSimpArgs false
theorem info_C : (Try.prog.info? 62).map (·.size) = some 8 := by kernel_rfl
theorem infoC3 : (Try.prog.info? 62).map (fun i => (i.zero, i.size, i.bytes)) = some (some (.agg #[.int .i64 0, .int .i64 0, .int .i64 0, .slice none 0 0, .int .i64 0, .string ⟨#[]⟩, .string ⟨#[]⟩, .int .i64 0]), 8, 96) := by kernel_rfl
theorem info_zeroC : ((Try.prog.info? 62).bind (·.zero)).isSome = true := by kernel_rfl
theorem range_C {w : World} {b o : Nat} {x : Cm} {A : Option Addr} {c : Nat} (h : CmAt w b o x A c) : w.rangeAt b o (cellsC x (.slice A x.ps.length c)) := by
  obtain ⟨⟨h0, h1, h2, h3, h4, h5, h6, h7⟩, _⟩ := h
  intro j v hv
  have hj : j < 8 := (List.getElem?_eq_some_iff.1 hv).1
  match j, hj with
  | 0, _ => cases hv; exact h0
  | 1, _ => cases hv; exact h1
  | 2, _ => cases hv; exact h2
  | 3, _ => cases hv; exact h3
  | 4, _ => cases hv; exact h4
  | 5, _ => cases hv; exact h5
  | 6, _ => cases hv; exact h6
  | 7, _ => cases hv; exact h7
def FewC (l : List Cm) : Prop := l.length ≤ 1000 ∧ ∀ x ∈ l, x.ps.length ≤ 1000
set_option maxHeartbeats 400000 in
set_option maxRecDepth 100000 in
theorem commits_calls (A0 : Option Addr) (c0 : Nat) (l : List Cm) (w : World) (hr0 : Kd.C kC w A0 l.length l) (hf : FewC l) :
    Calls Try.prog 37 #[.slice A0 l.length c0] w fun e w' => ∃ A c, e = .returned (.slice A l.length c) ∧ l.length ≤ c ∧ kC.R 62 w' w.heap.size (fun k => w.heap.size ≤ k) (.slice A l.length c) l ∧ Below w.heap.size w w' := by
  have HR := Aside0.mk hr0
  have hl1 : l.length ≤ 1000 := hf.1
  have HF := Aside0.mk hf.2
  clear hr0 hf
  go_enter Try.func37, Try.ntmps37
  go_wp2
  go_loopw [3, 8] (fun v i wr => ∃ k : Nat, k ≤ l.length ∧ i = .int .i64 k ∧ Aside0 (kC.R 62 wr w.heap.size (fun j => w.heap.size ≤ j) v (l.take k)) ∧ Aside0 (Below w.heap.size w wr)) (fun _ i _ => l.length - (intOf i).toNat)
  case atStart => exact ⟨0, Nat.zero_le _, rfl, ⟨Kd.R_nil _ _ _ _ _⟩, ⟨Below.refl _ _⟩⟩
  case round =>
    obtain ⟨k, hk, rfl, hO, HB⟩ := hrel
    by_cases hlt : k < l.length
    · obtain ⟨b, o, B, cc, rfl, hx0⟩ := at_C HR.out k hlt
      have hx := hx0.below HB.out
      have HRG := Aside0.mk (range_C hx)
      have hle := hx.2.1
      have HPS := Aside0.mk hx.2.2
      have hps : (rdC l k).ps.length ≤ 1000 := by rw [rdC_at l k hlt]; exact HF.out _ (List.getElem_mem _)
      have HT : Aside0 (l.take (k + 1) = l.take k ++ [rdC l k]) := ⟨by rw [List.take_succ_eq_append_getElem hlt, rdC_at l k hlt]⟩
      have hlk : (l.take k).length = k := by rw [List.length_take]; omega
      clear hx hx0
      generalize rdC l k = x at *
      obtain ⟨p, hp⟩ : ∃ p, p = l.take k := ⟨_, rfl⟩
      rw [← hp] at hO HT hlk
      have HLK := Aside0.mk hlk
      clear hp hlk
      have hk0 : (0 : Int) ≤ (k : Int) := Int.natCast_nonneg _
      have hk1 : (k : Int) < (l.length : Int) := by omega
      obtain ⟨v, hv0⟩ : ∃ v0 : Value, v0 = .slice none 0 0 := ⟨_, rfl⟩
      clear hv0 v
      have hwz := HB.out.size
      go_wp2_with (first
        | (refine wpList_load_mid (by rfl) 62 _ (by rfl) b (o + k * 8) (by rfl) (cellsC x (.slice B x.ps.length cc)) _ HRG.out Try.underlying62 rfl info_C ?_; go_frame)
        | (refine wpl_store_newA 62 wr _ (cellsC x (.slice B x.ps.length cc)) cellsC_one info_C (by rfl) (by rfl) (by rfl) _ _ (by rfl) (by rfl) (by rfl) ?_; intro W1 hb1 hB1 hs1; have HBr := Aside0.mk hB1; have HP1 := Aside0.mk (Kd.C_below HPS.out hB1); have hc3 : W1.cell? ⟨wr.heap.size, 3, none⟩ = some (.slice B x.ps.length cc) := blk_cell hb1 3; have HK1 := Aside0.mk hb1; have hs1' : wr.heap.size < W1.heap.size := (by omega); clear hb1 hB1 hs1; go_frame)
        | (go_at_call 41; refine (cloneI_calls B cc x.ps _ HP1.out (by omega)).mono ?_; rintro e w2 ⟨B2, c2, rfl, hle2, hr2, hb2⟩; have HBr := Aside0.mk (below_step HBr.out hb2); have HK2 := Aside0.mk (blk_below HK1.out hb2); have hc3' : w2.cell? ⟨wr.heap.size, 3, none⟩ = some (.slice B x.ps.length cc) := blk_cell HK2.out 3; have hf3 := blk_frozen HK2.out 3; obtain ⟨V3, hV3⟩ : ∃ V3, V3 = w2.setCell ⟨wr.heap.size, 3, none⟩ (.slice B2 x.ps.length c2) := ⟨_, rfl⟩; have HBr := Aside0.mk (show Below wr.heap.size wr V3 by rw [hV3]; exact below_set HBr.out (Nat.le_refl _)); have HPV : Aside0 (kI.R 71 V3 w.heap.size (fun j => W1.heap.size ≤ j) (.slice B2 x.ps.length c2) x.ps) := ⟨by rw [hV3]; exact Kd.R_lower (Kd.R_move hr2 (fun j (hj : W1.heap.size ≤ j) => Below.heap_setCell w2 ⟨wr.heap.size, 3, none⟩ _ j (by show j ≠ wr.heap.size; omega))) (by omega)⟩; have HRV : Aside0 (V3.rangeAt wr.heap.size 0 (cellsC x (.slice B2 x.ps.length c2))) := ⟨by rw [hV3]; exact range_of_blk (t := 62) (blk_set HK2.out 3 _)⟩; have HV3 := Aside0.mk hV3; clear hc3 hr2 hb2 hV3; go_frame)
        | (rw [← HV3.out]; refine wpList_load_mid (by rfl) 62 _ (by rfl) wr.heap.size 0 (by rfl) (cellsC x (.slice B2 x.ps.length c2)) _ HRV.out Try.underlying62 rfl info_C ?_; go_frame)
        | (refine wpl_build1A 35 62 (cellsC x (.slice B2 x.ps.length c2)) Try.underlying35 info_C info_zeroC (by show 8 ≤ 1000; omega) (by show 0 < 8; omega) (by rfl) _ (by rfl) (by rfl) ?_; go_frame)
        | (at_builtin; refine Kd.R_append kC (w0 := w) w.heap.size (by rfl) _ _ 35 62 _ 96 (by rfl) Try.underlying35 infoC3 rfl (show 0 < kC.sz from Nat.zero_lt_succ 7) (Nat.zero_lt_succ 95) u3 p x (cellsC x (.slice B2 x.ps.length c2)) (fun j => w.heap.size ≤ j) (fun j => W1.heap.size ≤ j) (by rfl) (by rfl) ⟨_, rfl, HPV.out⟩ ?h1 ?h2 (Kd.R_below hO.out HBr.out) (below_step HB.out HBr.out) ?h3 ?h4 ?_; (case h1 => exact fun j (hj : W1.heap.size ≤ j) => ⟨by omega, fun e => by obtain ⟨inner, ho⟩ := Kd.R_own hO.out; have := own_lt ho j e.symm; omega⟩); (case h2 => exact fun j hj => Nat.le_trans (below_step HB.out HBr.out).size hj); (case h3 => exact (below_step HB.out HBr.out).size); (case h4 => have := HLK.out; omega); intro v1 w4 hr4 hb4 hg4 hat4; have HR4 := Aside0.mk hr4; have HB4 := Aside0.mk hb4; clear hr4 hb4 hg4 hat4; go_frame))
      go_roundw
      case rel => exact ⟨k + 1, by omega, by go_num, ⟨by rw [HT.out]; exact HR4.out⟩, HB4⟩
      case measure => simp [intOf]; omega
    · have hkl : k = l.length := by omega
      subst hkl
      have hO2 := hO.out
      rw [List.take_length] at hO2
      obtain ⟨A, c, rfl, hc, _⟩ := Kd.R_reads hO2
      have HO2 := Aside0.mk hO2
      clear hO hO2
      go_wp2
      go_ret
      exact ⟨A, c, rfl, hc, HO2.out, HB.out⟩
end Go.Proofs.Ytameeejfkgoheaa.P
end
section
/- Nodes as values: what reads as one. Plain. -/
namespace Go.Proofs.Ytameeejfkgoheaa.P
open Go.RowKit Go.Proofs.YtameeejfkgoheaaW.PrintWords Go.Proofs.YtameeejfkgoheaaW.PrintLast Go.Proofs.YtameeejfkgoheaaW.PrintMore Go.Proofs.YtameeejfkgoheaaW
set_option linter.unusedVariables false
set_option linter.unusedSimpArgs false
structure Nd where
  no : Int
  disk : List UInt8
  room : Int
  L : List Cm
  T : List Cm
  seq : Int
  up : Bool
  peers : List Int
  nx : Int
  ms : Int
deriving DecidableEq
/-- its ten cells, its slices being d, l, t, p -/
def cellsN (n : Nd) (d l t p : Value) : List Value := [.int .i64 n.no, d, .int .i64 n.room, l, t, .int .i64 n.seq, .bool n.up, p, .int .i64 n.nx, .int .i64 n.ms]
abbrev kP : Kd Int := Kd.int .i64
def NodeIs (W : World) (cs : List Value) (n : Nd) : Prop := ∃ dA dc lA lc tA tc pA pc,
  cs = cellsN n (.slice dA n.disk.length dc) (.slice lA n.L.length lc) (.slice tA n.T.length tc) (.slice pA n.peers.length pc) ∧
  Kd.C kB W dA n.disk.length n.disk ∧ Kd.C kC W lA n.L.length n.L ∧ Kd.C kC W tA n.T.length n.T ∧ Kd.C kP W pA n.peers.length n.peers ∧ n.peers.length ≤ pc
theorem NodeIs.below {W W1 : World} {cs : List Value} {n : Nd} (h : NodeIs W cs n) (hb : Below W.heap.size W W1) : NodeIs W1 cs n := by
  obtain ⟨dA, dc, lA, lc, tA, tc, pA, pc, e, h1, h2, h3, h4, h5⟩ := h
  exact ⟨dA, dc, lA, lc, tA, tc, pA, pc, e, Kd.C_below h1 hb, Kd.C_below h2 hb, Kd.C_below h3 hb, Kd.C_below h4 hb, h5⟩
theorem NodeIs.len {W : World} {cs : List Value} {n : Nd} (h : NodeIs W cs n) : cs.length = 10 := by
  obtain ⟨dA, dc, lA, lc, tA, tc, pA, pc, rfl, _⟩ := h
  rfl
theorem cellsN_one {n : Nd} {A B C D : Option Addr} {a b c d a' b' c' d' : Nat} : ∀ u ∈ cellsN n (.slice A a a') (.slice B b b') (.slice C c c') (.slice D d d'), u.oneCell' = true := by
  intro u hu
  simp only [cellsN, List.mem_cons, List.not_mem_nil, or_false] at hu
  rcases hu with rfl | rfl | rfl | rfl | rfl | rfl | rfl | rfl | rfl | rfl <;> rfl
theorem NodeIs.one {W : World} {cs : List Value} {n : Nd} (h : NodeIs W cs n) : ∀ u ∈ cs, u.oneCell' = true := by
  obtain ⟨dA, dc, lA, lc, tA, tc, pA, pc, rfl, _⟩ := h
  exact cellsN_one
theorem info_N : (Try.prog.info? 37).map (·.size) = some 10 := by kernel_rfl
/-- the node that is none -/
def zeroN : Nd := ⟨0, [], 0, [], [], 0, false, [], 0, 0⟩
def zeroV : List Value := [.int .i64 0, .slice none 0 0, .int .i64 0, .slice none 0 0, .slice none 0 0, .int .i64 0, .bool false, .slice none 0 0, .int .i64 0, .int .i64 0]
theorem zero_is (W : World) : NodeIs W zeroV zeroN := ⟨none, 0, none, 0, none, 0, none, 0, rfl, Kd.C_nil _ _, Kd.C_nil _ _, Kd.C_nil _ _, Kd.C_nil _ _, Nat.le_refl _⟩
theorem RdI_of {W : World} {A : Option Addr} {n : Nat} {l : List Int} (h : Kd.C kP W A n l) : RdI W A l := by
  have hn := h.1
  refine ⟨by rw [hn]; exact h.2.1, fun h0 => ?_⟩
  obtain ⟨ad, e, hc⟩ := h.2.2 (by omega)
  refine ⟨ad, e, fun j hj => ?_⟩
  obtain ⟨cs, _, hK, hcell⟩ := hc j l[j] (List.getElem?_eq_getElem hj)
  have hK' : cs = [Value.int .i64 l[j]] := hK
  subst hK'
  have h0 := hcell 0 _ rfl
  have e3 : j * kP.sz + 0 = j := by show j * 1 + 0 = j; omega
  rw [e3] at h0
  exact h0
theorem Plain_of {W : World} {A : Option Addr} {n : Nat} {l : List Int} (h : Kd.C kP W A n l) : PlainA A l := by
  intro h0 ad e
  subst e
  obtain ⟨_, hR⟩ := RdI_of h
  obtain ⟨ad', e', hc⟩ := hR h0
  cases e'
  have h1 := hc 0 h0
  have h2 : ad.add 0 = ad := by unfold Addr.add; rw [if_pos rfl]
  rw [h2] at h1
  unfold World.cell? at h1
  cases hsp : ad.spot with
  | none => rfl
  | some s =>
    rw [hsp] at h1
    revert h1
    split <;> simp
end Go.Proofs.Ytameeejfkgoheaa.P
end
