/- Several of the walk's texts in one: SAwk, SApp, Sx31, Sx33, Sx32, SREnc, Sx18, SRK. -/
import Derived.Laws.BitsAllLaws
import Derived.Test.YtmcddoolniaehaaGreatMD04
import Derived.Test.YtmcddoolniaehaaGreatMD05
import Derived.Test.YtmcddoolniaehaaGreatMD16
import Derived.Test.YtmcddoolniaehaaGreatMD20
section
namespace Go.Proofs.YtmcddoolniaehaaGreat.S
open Go.RowKit Go.Proofs.YtmcddoolniaehaaGreatW.PrintWords Go.Proofs.YtmcddoolniaehaaGreatW.PrintLast Go.Proofs.YtmcddoolniaehaaGreatW.PrintMore Go.Proofs.YtmcddoolniaehaaGreatW
set_option linter.unusedVariables false
set_option linter.unusedSimpArgs false
def rA : Rg := ⟨⟨#[97]⟩, ⟨#[120]⟩, 1, ⟨0, 1⟩⟩
def sA : St := ⟨[], [rA], []⟩
theorem fit0 {n : Nat} : FitS n noS := ⟨⟨Nat.zero_le _, Nat.zero_le _, Nat.zero_le _⟩, fun x hx => (by cases hx), fun x hx => (by cases hx), fun x hx => (by cases hx)⟩
theorem fitA : FitS 1000 sA := ⟨⟨Nat.zero_le _, by decide, Nat.zero_le _⟩, fun x hx => (by cases hx), fun x hx => (by rw [List.mem_singleton.1 hx]; exact ⟨by decide, by decide⟩), fun x hx => (by cases hx)⟩
theorem awk_can : canS noS 1 ⟨#[97]⟩ ⟨#[120]⟩ 0 0 1 1 = true := by decide +kernel
theorem awk_do : doS noS 1 ⟨#[97]⟩ ⟨#[120]⟩ 0 0 1 1 = (sA, 0) := by
  unfold doS
  rw [if_pos awk_can]
  unfold opS
  rw [if_neg (by decide), if_pos rfl]
  rfl
theorem awk_may : mayS sA = true := by decide +kernel
theorem awk_merge : mergeS noS sA noS = (sA, 0) := by
  unfold mergeS
  rw [if_pos (by decide +kernel)]
  have h0 : mergeC noS.c sA.c noS.c = [] := List.eq_nil_of_length_eq_zero (Nat.le_zero.1 (mergeC_len [] [] []))
  have h1 : mergeO sA.r noS.r = sA.r := by unfold mergeO; rw [if_pos (by decide +kernel)]; rfl
  have h2 : mergeP noS.p sA.p noS.p = [] := List.eq_nil_of_length_eq_zero (Nat.le_zero.1 (mergeP_len [] [] []))
  rw [h0, h1, h2]
  rfl
theorem awk_same : sameS sA sA = true := sameS_iff.2 rfl
theorem awk_put : putS noS.c noS.r noS.p = [0, 0, 0] := by
  have h : numI 0 = [0] := numL_small (by decide)
  unfold putS
  simp [noS, h]
theorem awk_diff : sameS sA noS = false := by
  cases h : sameS sA noS with
  | false => rfl
  | true => exact absurd (congrArg (fun s => s.r.length) (sameS_iff.1 h)) (by decide)
set_option maxHeartbeats 4000000 in
set_option maxRecDepth 100000 in
theorem awake_calls (w : World) : Calls Tryz.prog 9 #[] w fun e w' => e = .returned (.bool true) ∧ Below w.heap.size w w' := by
  have HB := Aside0.mk (Below.refl w.heap.size w)
  go_enter Tryz.func9, Tryz.ntmps9
  go_wp2_with fail
  have hcn := do_calls (key := ⟨#[97]⟩) (elem := ⟨#[120]⟩) 1 0 0 1 1 (zero_is w) fit0 (ok_small (by decide)) (ok_small (by decide))
  rw [awk_do] at hcn
  dsimp only at hcn
  refine hcn.mono ?_
  rintro e V1 ⟨css, rfl, hN1, hb1⟩
  clear hcn
  replace HB := Aside0.mk (below_step HB.out hb1)
  have Ns := Aside0.mk hN1
  clear hN1 hb1
  obtain ⟨A0, c0, A1, c1, A2, c2, hcs, _⟩ := Ns.out
  have HCS := Aside0.mk hcs
  clear hcs
  go_wp2_with (first
    | (refine sv_st Ns (by rfl) (by rfl) _ _ (by rfl) (by rfl) (by rfl) ?_; intro U2 hbk2 hBk2 hsk2; replace Ns := Aside0.mk (Ns.out.below hBk2); replace HB := Aside0.mk (below_step HB.out hBk2); have Hs := Aside0.mk hbk2; clear hbk2 hBk2 hsk2; have cs0 : U2.cell? ⟨V1.heap.size, 0, none⟩ = some (.slice A0 0 c0) := (by have h := Hs.out; rw [HCS.out] at h; exact blk_cell h 0); have cs1 : U2.cell? ⟨V1.heap.size, 1, none⟩ = some (.slice A1 1 c1) := (by have h := Hs.out; rw [HCS.out] at h; exact blk_cell h 1); have cs2 : U2.cell? ⟨V1.heap.size, 2, none⟩ = some (.slice A2 0 c2) := (by have h := Hs.out; rw [HCS.out] at h; exact blk_cell h 2); go_frame)
    | (refine ld_st Hs Ns (by rfl) _ (by rfl) (by rfl) ?_; go_frame)
    | (refine ld_on Hs Ns (by rfl) _ (by rfl) (by rfl) ?_; go_frame))
  have hcn := merge_calls (zero_is _) Ns.out (zero_is _) fit0 fitA fit0
  rw [awk_merge] at hcn
  dsimp only at hcn
  refine hcn.mono ?_
  rintro e V3 ⟨csm, rfl, hN3, hb3⟩
  clear hcn
  replace Hs := Aside0.mk (blk_below Hs.out hb3)
  replace Ns := Aside0.mk (Ns.out.below hb3)
  replace HB := Aside0.mk (below_step HB.out hb3)
  have Nm := Aside0.mk hN3
  clear hN3 hb3
  go_wp2_with (first
    | (refine ld_st Hs Ns (by rfl) _ (by rfl) (by rfl) ?_; go_frame)
    | (refine ld_on Hs Ns (by rfl) _ (by rfl) (by rfl) ?_; go_frame)
    | (refine sv_st Nm (by rfl) (by rfl) _ _ (by rfl) (by rfl) (by rfl) ?_; intro U4 hbk4 hBk4 hsk4; replace Hs := Aside0.mk (blk_below Hs.out hBk4); replace Ns := Aside0.mk (Ns.out.below hBk4); replace Nm := Aside0.mk (Nm.out.below hBk4); replace HB := Aside0.mk (below_step HB.out hBk4); have Hm := Aside0.mk hbk4; clear hbk4 hBk4 hsk4; have cs0 : U4.cell? ⟨V1.heap.size, 0, none⟩ = some (.slice A0 0 c0) := (by have h := Hs.out; rw [HCS.out] at h; exact blk_cell h 0); have cs1 : U4.cell? ⟨V1.heap.size, 1, none⟩ = some (.slice A1 1 c1) := (by have h := Hs.out; rw [HCS.out] at h; exact blk_cell h 1); have cs2 : U4.cell? ⟨V1.heap.size, 2, none⟩ = some (.slice A2 0 c2) := (by have h := Hs.out; rw [HCS.out] at h; exact blk_cell h 2); go_frame)
    | (refine ld_st Hm Nm (by rfl) _ (by rfl) (by rfl) ?_; go_frame)
    | (refine ld_on Hm Nm (by rfl) _ (by rfl) (by rfl) ?_; go_frame))
  have hcn := may_calls Ns.out (fitA.up (by decide))
  rw [awk_may] at hcn
  refine hcn.mono ?_
  rintro e V5 ⟨rfl, hb5⟩
  clear hcn
  replace Hs := Aside0.mk (blk_below Hs.out hb5)
  replace Ns := Aside0.mk (Ns.out.below hb5)
  replace Hm := Aside0.mk (blk_below Hm.out hb5)
  replace Nm := Aside0.mk (Nm.out.below hb5)
  replace HB := Aside0.mk (below_step HB.out hb5)
  clear hb5
  go_wp2_with (first
    | (refine ld_st Hs Ns (by rfl) _ (by rfl) (by rfl) ?_; go_frame)
    | (refine ld_on Hs Ns (by rfl) _ (by rfl) (by rfl) ?_; go_frame)
    | (refine ld_st Hm Nm (by rfl) _ (by rfl) (by rfl) ?_; go_frame)
    | (refine ld_on Hm Nm (by rfl) _ (by rfl) (by rfl) ?_; go_frame))
  have hcn := same_calls Ns.out Nm.out fitA
  rw [awk_same] at hcn
  refine hcn.mono ?_
  rintro e V6 ⟨rfl, hb6⟩
  clear hcn
  replace Hs := Aside0.mk (blk_below Hs.out hb6)
  replace Ns := Aside0.mk (Ns.out.below hb6)
  replace Hm := Aside0.mk (blk_below Hm.out hb6)
  replace Nm := Aside0.mk (Nm.out.below hb6)
  replace HB := Aside0.mk (below_step HB.out hb6)
  clear hb6
  go_wp2_with (first
    | (refine ld_st Hs Ns (by rfl) _ (by rfl) (by rfl) ?_; go_frame)
    | (refine ld_on Hs Ns (by rfl) _ (by rfl) (by rfl) ?_; go_frame)
    | (refine ld_st Hm Nm (by rfl) _ (by rfl) (by rfl) ?_; go_frame)
    | (refine ld_on Hm Nm (by rfl) _ (by rfl) (by rfl) ?_; go_frame))
  have hcn := put_calls2 (zero_is V6) fit0 (by intro x hx; cases hx)
  rw [awk_put] at hcn
  refine hcn.mono ?_
  rintro e V7 ⟨AP, cp, rfl, _, hb7⟩
  clear hcn
  replace Hs := Aside0.mk (blk_below Hs.out hb7)
  replace Ns := Aside0.mk (Ns.out.below hb7)
  replace Hm := Aside0.mk (blk_below Hm.out hb7)
  replace Nm := Aside0.mk (Nm.out.below hb7)
  replace HB := Aside0.mk (below_step HB.out hb7)
  clear hb7
  go_wp2_with (first
    | (refine ld_st Hs Ns (by rfl) _ (by rfl) (by rfl) ?_; go_frame)
    | (refine ld_on Hs Ns (by rfl) _ (by rfl) (by rfl) ?_; go_frame)
    | (refine ld_st Hm Nm (by rfl) _ (by rfl) (by rfl) ?_; go_frame)
    | (refine ld_on Hm Nm (by rfl) _ (by rfl) (by rfl) ?_; go_frame))
  have hcn := same_calls Ns.out (zero_is _) fitA
  rw [awk_diff] at hcn
  refine hcn.mono ?_
  rintro e V8 ⟨rfl, hb8⟩
  clear hcn
  replace Hs := Aside0.mk (blk_below Hs.out hb8)
  replace Ns := Aside0.mk (Ns.out.below hb8)
  replace Hm := Aside0.mk (blk_below Hm.out hb8)
  replace Nm := Aside0.mk (Nm.out.below hb8)
  replace HB := Aside0.mk (below_step HB.out hb8)
  clear hb8
  go_wp2
  go_ret
  exact ⟨rfl, HB.out⟩
end Go.Proofs.YtmcddoolniaehaaGreat.S
end
section
namespace Go.Proofs.YtmcddoolniaehaaGreat.S
open Go Go.RowKit Go.Proofs.YtmcddoolniaehaaGreatW.PrintWords Go.Proofs.YtmcddoolniaehaaGreatW.PrintLast Go.Proofs.YtmcddoolniaehaaGreatW.PrintMore Go.Proofs.YtmcddoolniaehaaGreatW
set_option linter.unusedVariables false
structure Ou {α : Type} (d : Kd α) (t : TypeId) (w0 : World) (v : Value) (xs : List α) (W : World) : Prop where
  r : Kd.R d t W w0.heap.size (fun _ => True) v xs
  b : Below w0.heap.size w0 W
section
variable {α : Type} {d : Kd α} {t : TypeId} {w0 : World} {v : Value} {xs : List α} {W W' : World}
theorem Ou.go (h : Ou d t w0 v xs W) (hb : Below W.heap.size W W') : Ou d t w0 v xs W' := ⟨Kd.R_below h.r hb, below_step h.b hb⟩
theorem Ou.alloc (h : Ou d t w0 v xs W) (o : Obj) : Ou d t w0 v xs (W.alloc o) := h.go (below_alloc (Below.refl _ _) o)
theorem Ou.drew (h : Ou d t w0 v xs W) : Ou d t w0 v xs W.drew := h.go (below_drew (Below.refl _ _))
theorem Ou.nil (h : Below w0.heap.size w0 W) : Ou d t w0 (.slice none 0 0) [] W := ⟨Kd.R_nil _ _ _ _ _, h⟩
end
structure Kept1 (v : Value) (W : World) (v1 : Value) (w1 : World) : Prop where
  g : W.grownBy w1 v.ownBlock
  a : v1.ownBlock = v.ownBlock ∨ ∃ b, v1.ownBlock = some b ∧ W.heap.size ≤ b
theorem Kept1.box {v v1 : Value} {W w1 : World} (h : Kept1 v W v1 w1) {g : Nat} {o : Obj} (ho : W.heap[g]? = some o) (hn : v.ownBlock ≠ some g) : w1.heap[g]? = some o ∧ v1.ownBlock ≠ some g :=
  ⟨(h.g.block g (blk_lt ho) (Ne.symm hn)).trans ho, by
    rcases h.a with h | ⟨b, h, hb⟩
    · rw [h]; exact hn
    · rw [h]; intro e; cases e; exact absurd (blk_lt ho) (by omega)⟩
def Apart1 (u v : Value) : Prop := ∀ k, u.ownBlock = some k → some k ≠ v.ownBlock
theorem Kept1.ap {α : Type} {d : Kd α} {t base : Nat} {ok : Nat → Prop} {u u1 v : Value} {xs : List α} {W w1 : World} (h : Kept1 u W u1 w1) (hr : d.R t W base ok v xs) (ha : Apart1 u v) : Apart1 u1 v := fun k hk => by
  rcases h.a with h | ⟨b, h, hb⟩
  · exact ha k (h ▸ hk)
  · rw [h] at hk; cases hk
    intro e
    exact absurd (Kd.R_lt hr _ e.symm) (by omega)
theorem Ou.other {α : Type} {d : Kd α} {t : TypeId} {w0 : World} {u u1 v : Value} {xs ys : List α} {W w1 : World} (h : Ou d t w0 v xs W) (hE : d.E = []) (hk : Kept1 u W u1 w1) (ho : Ou d t w0 u1 ys w1) (ha : Apart1 u v) : Ou d t w0 v xs w1 := ⟨Kd.R_grown2 h.r hE hk.g ha, ho.b⟩
structure Ob {α : Type} (d : Kd α) (t : TypeId) (w0 : World) (g0 : Nat) (o : Obj) (v : Value) (xs : List α) (W : World) : Prop extends Ou d t w0 v xs W where
  x : W.heap[g0]? = some o
  n : v.ownBlock ≠ some g0
section
variable {α : Type} {d : Kd α} {t : TypeId} {w0 : World} {g0 : Nat} {o : Obj} {v v1 : Value} {xs ys : List α} {W W' : World}
theorem Ob.go (h : Ob d t w0 g0 o v xs W) (hb : Below W.heap.size W W') : Ob d t w0 g0 o v xs W' := ⟨h.toOu.go hb, blk_below h.x hb, h.n⟩
theorem Ob.drew (h : Ob d t w0 g0 o v xs W) : Ob d t w0 g0 o v xs W.drew := h.go (below_drew (Below.refl _ _))
theorem Ob.kept (h : Ob d t w0 g0 o v xs W) (h1 : Ou d t w0 v1 ys W') (hk : Kept1 v W v1 W') : Ob d t w0 g0 o v1 ys W' := ⟨h1, (hk.box h.x h.n).1, (hk.box h.x h.n).2⟩
end
section
variable {α : Type} {d : Kd α} {t : TypeId} {w0 : World} {v : Value} {xs : List α} {W W' : World}
theorem Ou.of (h : Kd.R d t W' W.heap.size (fun _ => True) v xs) (hb : Below w0.heap.size w0 W) (hb2 : Below W.heap.size W W') : Ou d t w0 v xs W' := ⟨Kd.R_lower h hb.size, below_step hb hb2⟩
end
section
variable {ops : Array Oper} {rest : List Oper} {op : Oper} {a : Act} {Q : Exit → Act → World → Prop}
theorem apC (x : S73) {w0 W : World} {v : Value} {xs : List S73} (H : Ou k73 73 w0 v xs W) (hl : xs.length ≤ 100000) (hgd : op.guard = none) (s y : Operand) (ho : op.op = .call { callee := .builtin .append, args := #[s, y], argTypes := #[22, 22] }) (hs : a.eval s = v) (hy : a.eval y = .slice (some ⟨W.heap.size, 0, none⟩) 1 1)
    (h : ∀ v1 w1, Kept1 v W v1 w1 → Ou k73 73 w0 v1 (xs ++ [x]) w1 → wpList Tryz.prog ops Q rest (a.put op.dst v1) w1) : wpList Tryz.prog ops Q (op :: rest) a (W.alloc (.cells #[.string x.f0, .int .i64 x.f1] 73)) :=
  Kd.R_append k73 (w0 := w0) w0.heap.size hgd s y 22 73 (.agg #[(.string ⟨#[]⟩), (.int .i64 0)]) 24 ho Tryz.underlying22 info73 rfl (by decide) (by omega) v xs x [.string x.f0, .int .i64 x.f1] (fun _ => True) (fun _ => False) hs hy (k73_mkM _ _ _ x) (fun _ hk => hk.elim) (fun _ _ => trivial) H.r H.b H.b.size (by omega) (fun v1 w1 hr hb hg hat => h v1 w1 ⟨hg, hat⟩ ⟨hr, hb⟩)
theorem apR (x : S47) {w0 W : World} {v : Value} {xs : List S47} (H : Ou k47 47 w0 v xs W) (hl : xs.length ≤ 100000) (hgd : op.guard = none) (s y : Operand) (ho : op.op = .call { callee := .builtin .append, args := #[s, y], argTypes := #[23, 23] }) (hs : a.eval s = v) (hy : a.eval y = .slice (some ⟨W.heap.size, 0, none⟩) 1 1)
    (h : ∀ v1 w1, Kept1 v W v1 w1 → Ou k47 47 w0 v1 (xs ++ [x]) w1 → wpList Tryz.prog ops Q rest (a.put op.dst v1) w1) : wpList Tryz.prog ops Q (op :: rest) a (W.alloc (.cells #[.string x.f0, .string x.f1, .int .i64 x.f2, .int .i64 x.f3.f0, .int .i64 x.f3.f1] 47)) :=
  Kd.R_append k47 (w0 := w0) w0.heap.size hgd s y 23 47 (.agg #[(.string ⟨#[]⟩), (.string ⟨#[]⟩), (.int .i64 0), (.int .i64 0), (.int .i64 0)]) 56 ho Tryz.underlying23 info47 rfl (by decide) (by omega) v xs x [.string x.f0, .string x.f1, .int .i64 x.f2, .int .i64 x.f3.f0, .int .i64 x.f3.f1] (fun _ => True) (fun _ => False) hs hy (k47_mkM _ _ _ x) (fun _ hk => hk.elim) (fun _ _ => trivial) H.r H.b H.b.size (by omega) (fun v1 w1 hr hb hg hat => h v1 w1 ⟨hg, hat⟩ ⟨hr, hb⟩)
theorem apP (x : S43) {w0 W : World} {v : Value} {xs : List S43} (H : Ou k43 43 w0 v xs W) (hl : xs.length ≤ 100000) (hgd : op.guard = none) (s y : Operand) (ho : op.op = .call { callee := .builtin .append, args := #[s, y], argTypes := #[24, 24] }) (hs : a.eval s = v) (hy : a.eval y = .slice (some ⟨W.heap.size, 0, none⟩) 1 1)
    (h : ∀ v1 w1, Kept1 v W v1 w1 → Ou k43 43 w0 v1 (xs ++ [x]) w1 → wpList Tryz.prog ops Q rest (a.put op.dst v1) w1) : wpList Tryz.prog ops Q (op :: rest) a (W.alloc (.cells #[.string x.f0, .string x.f1, .int .i64 x.f2.f0, .int .i64 x.f2.f1] 43)) :=
  Kd.R_append k43 (w0 := w0) w0.heap.size hgd s y 24 43 (.agg #[(.string ⟨#[]⟩), (.string ⟨#[]⟩), (.int .i64 0), (.int .i64 0)]) 48 ho Tryz.underlying24 info43 rfl (by decide) (by omega) v xs x [.string x.f0, .string x.f1, .int .i64 x.f2.f0, .int .i64 x.f2.f1] (fun _ => True) (fun _ => False) hs hy (k43_mkM _ _ _ x) (fun _ hk => hk.elim) (fun _ _ => trivial) H.r H.b H.b.size (by omega) (fun v1 w1 hr hb hg hat => h v1 w1 ⟨hg, hat⟩ ⟨hr, hb⟩)
theorem arC {w0 W : World} {v : Value} {xs ys : List S73} {A : Option Addr} {m c : Nat} (H : Ou k73 73 w0 v xs W) (HR : Kd.C k73 W A m ys) (hl : xs.length + m ≤ 100000) (hgd : op.guard = none) (s y : Operand) (ho : op.op = .call { callee := .builtin .append, args := #[s, y], argTypes := #[22, 22] }) (hs : a.eval s = v) (hy : a.eval y = .slice A m c)
    (h : ∀ v1 w1, Kept1 v W v1 w1 → Ou k73 73 w0 v1 (xs ++ ys) w1 → wpList Tryz.prog ops Q rest (a.put op.dst v1) w1) : wpList Tryz.prog ops Q (op :: rest) a W :=
  Kd.R_append_rows k73 (w0 := w0) w0.heap.size hgd s y 22 73 (.agg #[(.string ⟨#[]⟩), (.int .i64 0)]) 24 ho Tryz.underlying22 info73 rfl (by decide) (by omega) v xs ys A m c (fun _ => True) (fun _ => False) hs hy H.r HR (fun _ _ h => h) (fun _ hk => hk.elim) (fun _ _ => trivial) H.b H.b.size (by omega) (fun v1 w1 hr hb hg hat => h v1 w1 ⟨hg, hat⟩ ⟨hr, hb⟩)
theorem arR {w0 W : World} {v : Value} {xs ys : List S47} {A : Option Addr} {m c : Nat} (H : Ou k47 47 w0 v xs W) (HR : Kd.C k47 W A m ys) (hl : xs.length + m ≤ 100000) (hgd : op.guard = none) (s y : Operand) (ho : op.op = .call { callee := .builtin .append, args := #[s, y], argTypes := #[23, 23] }) (hs : a.eval s = v) (hy : a.eval y = .slice A m c)
    (h : ∀ v1 w1, Kept1 v W v1 w1 → Ou k47 47 w0 v1 (xs ++ ys) w1 → wpList Tryz.prog ops Q rest (a.put op.dst v1) w1) : wpList Tryz.prog ops Q (op :: rest) a W :=
  Kd.R_append_rows k47 (w0 := w0) w0.heap.size hgd s y 23 47 (.agg #[(.string ⟨#[]⟩), (.string ⟨#[]⟩), (.int .i64 0), (.int .i64 0), (.int .i64 0)]) 56 ho Tryz.underlying23 info47 rfl (by decide) (by omega) v xs ys A m c (fun _ => True) (fun _ => False) hs hy H.r HR (fun _ _ h => h) (fun _ hk => hk.elim) (fun _ _ => trivial) H.b H.b.size (by omega) (fun v1 w1 hr hb hg hat => h v1 w1 ⟨hg, hat⟩ ⟨hr, hb⟩)
theorem arP {w0 W : World} {v : Value} {xs ys : List S43} {A : Option Addr} {m c : Nat} (H : Ou k43 43 w0 v xs W) (HR : Kd.C k43 W A m ys) (hl : xs.length + m ≤ 100000) (hgd : op.guard = none) (s y : Operand) (ho : op.op = .call { callee := .builtin .append, args := #[s, y], argTypes := #[24, 24] }) (hs : a.eval s = v) (hy : a.eval y = .slice A m c)
    (h : ∀ v1 w1, Kept1 v W v1 w1 → Ou k43 43 w0 v1 (xs ++ ys) w1 → wpList Tryz.prog ops Q rest (a.put op.dst v1) w1) : wpList Tryz.prog ops Q (op :: rest) a W :=
  Kd.R_append_rows k43 (w0 := w0) w0.heap.size hgd s y 24 43 (.agg #[(.string ⟨#[]⟩), (.string ⟨#[]⟩), (.int .i64 0), (.int .i64 0)]) 48 ho Tryz.underlying24 info43 rfl (by decide) (by omega) v xs ys A m c (fun _ => True) (fun _ => False) hs hy H.r HR (fun _ _ h => h) (fun _ hk => hk.elim) (fun _ _ => trivial) H.b H.b.size (by omega) (fun v1 w1 hr hb hg hat => h v1 w1 ⟨hg, hat⟩ ⟨hr, hb⟩)
end
end Go.Proofs.YtmcddoolniaehaaGreat.S
end
section
namespace Go.Proofs.YtmcddoolniaehaaGreat.S
open Go.RowKit Go.Proofs.YtmcddoolniaehaaGreatW.PrintWords Go.Proofs.YtmcddoolniaehaaGreatW.PrintLast Go.Proofs.YtmcddoolniaehaaGreatW.PrintMore
attribute [local go_sem] max2_int min2_int max_two min_two max_three min_three max_four min_four   -- for this text's walks alone
set_option linter.unusedVariables false
set_option linter.unusedSimpArgs false

def ref03_Num.l0 : Nat → Int → List Int → Option (List Int)
 | 0, _, _ => none
 | k + 1, x0, x3 => if x0 > 127 then (if x3.length < 140737488355328 then (ref03_Num.l0 k (IntKind.u64.wrap (Int.tdiv x0 128)) (x3 ++ [(IntKind.u64.wrap ((Int.tmod x0 128) + 128)) % 256])) else (none)) else (if x3.length < 140737488355328 then (some (x3 ++ [(x0) % 256])) else (none))
def ref03_Num.f (k : Nat) (a0 : Int) : Option (List Int) := ref03_Num.l0 k a0 ([] : List Int)
theorem ref03_Num.mono_l : ∀ k, (∀ y0 y1, LeO (ref03_Num.l0 k y0 y1) (ref03_Num.l0 (k + 1) y0 y1))
 | 0 => fun _ _ r h => by simp [ref03_Num.l0] at h
 | k + 1 => by
  have ih0 := ref03_Num.mono_l k
  ·intro y0 y1
   unfold ref03_Num.l0
   repeat' first
   | (with_reducible exact ih0 _ _)
   | (with_reducible exact LeO.refl _)
   | (with_reducible exact LeO.none _)
   | (with_reducible refine LeO.ite ?_ ?_)
   | (with_reducible refine LeO.bind ?_ (fun _ => ?_))
   | exact ih0 _ _
   | exact LeO.none _
   | refine LeO.ite ?_ ?_
   | refine LeO.bind ?_ (fun _ => ?_)
theorem ref03_Num.mono : ∀ a0 k, LeO (ref03_Num.f k a0) (ref03_Num.f (k + 1) a0) := by
 intro a0 k
 have ih0 := ref03_Num.mono_l k
 unfold ref03_Num.f
 repeat' first
   | (with_reducible exact ih0 _ _)
   | (with_reducible exact LeO.refl _)
   | (with_reducible exact LeO.none _)
   | (with_reducible refine LeO.ite ?_ ?_)
   | (with_reducible refine LeO.bind ?_ (fun _ => ?_))
   | exact ih0 _ _
   | exact LeO.none _
   | refine LeO.ite ?_ ?_
   | refine LeO.bind ?_ (fun _ => ?_)
set_option maxHeartbeats 8000000 in
set_option maxRecDepth 100000 in
theorem ref03_Num.calls (k : Nat) (a0 : Int) (r : List Int) (w : World) (h : ref03_Num.f k a0 = some r) :
  Calls Tryz.prog 59 #[.int .u64 a0] w fun e w' => ∃ v0_ : Value, e = .returned (v0_) ∧ Kd.R (Kd.int .u8) 5 w' w.heap.size (fun _ => True) v0_ r ∧ Below w.heap.size w w' := by
 have HB := Aside0.mk (Below.refl w.heap.size w)
 have H : (ref03_Num.l0 k a0 ([] : List Int)) = some r := h
 clear h
 have H' := Aside0.mk H
 clear H
 go_enter Tryz.func59, Tryz.ntmps59
 go_wp2
 go_loopg [0, 3] k (fun kq v0 v3 w' => ∃ (x0_1 : Int) (x3_1 : List Int), v0 = .int .u64 x0_1 ∧ Aside0 (ref03_Num.l0 kq x0_1 x3_1 = some r) ∧ Aside0 (kq ≤ k) ∧ Aside0 (Kd.R (Kd.int .u8) 5 w' w.heap.size (fun _ => True) v3 x3_1) ∧ Aside0 (Below w.heap.size w w'))
 case atStart => exact ⟨(a0), (([] : List Int)), (by first | rfl | (simp; done) | (simp [*]; done)), H', ⟨Nat.le_refl _⟩, ⟨by first | exact Kd.R_nil _ _ _ _ _ | exact Kd.N_nil _ _ _ _ _ | exact Kd.V_nil _ _ _ _ _ | exact Kd.Q_nil _ _ _ _ _ | exact Kd.S_nil _ _ _ _ _⟩, ⟨by repeat (first | (with_reducible first | exact HB.out | apply below_alloc | apply pw_below_drewN | apply below_drew1) | exact HB.out)⟩⟩
 case round =>
  clear H'
  obtain ⟨x0_1, x3_1, rfl, HA, HK1, HO_3, HB⟩ := hrel
  cases gk with
  | zero => exact absurd HA.out (by simp [ref03_Num.l0])
  | succ k1 =>
   have H := HA.out
   clear HA
   simp only [ref03_Num.l0] at H
   by_cases c2 : x0_1 > 127
   ·rw [if_pos c2] at H
    have c2b0 : decide (127 < x0_1) = true := decide_eq_true c2
    clear c2
    by_cases c3 : x3_1.length < 140737488355328
    ·rw [if_pos c3] at H
     have LMc3 := Aside0.mk c3
     clear c3
     obtain ⟨y276, hy276⟩ : ∃ y_ : List Int, y_ = (x3_1 ++ [(IntKind.u64.wrap ((Int.tmod x0_1 128) + 128)) % 256]) := ⟨_, rfl⟩
     replace H : (ref03_Num.l0 k1 (IntKind.u64.wrap (Int.tdiv x0_1 128)) y276) = some r := by first | (rw [hy276]; with_reducible exact H) | (have H2_ := (Option.bind_some _ _).symm.trans H; rw [hy276]; with_reducible exact H2_) | (have H2_ := (Option.bind_some _ _).symm.trans H; with_reducible exact H2_) | with_reducible exact H | (rw [hy276]; exact H) | exact H
     have Ny276 := Aside0.mk hy276
     clear hy276
     have H' := Aside0.mk H
     clear H
     go_wp2_with (first | ((with_reducible refine gate_builtin (b := .append) (xs := #[.tmp 6, .tmp 11]) rfl ?_); at_builtin; refine Kd.R_append (Kd.int .u8) (w0 := w) w.heap.size rfl (.tmp 6) (.tmp 11) 37 5 (.int .u8 0) 1 rfl Tryz.underlying37 info5 rfl (by decide) (by omega) u3 x3_1 ((IntKind.u64.wrap ((Int.tmod x0_1 128) + 128)) % 256) [.int .u8 ((IntKind.u64.wrap ((Int.tmod x0_1 128) + 128)) % 256)] (fun _ => True) (fun _ => False) rfl rfl ?aP (fun _ hk => hk.elim) ?aF ?aO ?aB ?aS ?aL ?_; (case aP => exact rfl); (case aB => exact (by repeat (first | (with_reducible first | exact HB.out | apply below_alloc | apply pw_below_drewN | apply below_drew1) | exact HB.out))); (case aF => exact (fun _ _ => trivial)); (case aO => exact (by (with_reducible repeat (first | apply Kd.R_alloc | apply Kd.R_drewN | apply Kd.R_drew)); exact HO_3.out)); (case aS => exact (below_size (by repeat (first | (with_reducible first | exact HB.out | apply below_alloc | apply pw_below_drewN | apply below_drew1) | exact HB.out)))); (case aL => have := LMc3.out; omega); intro v277 w4 ho hb hg hat; rw [← Ny276.out] at ho; have n0_ := Aside0.mk (hb); have n1_ := Aside0.mk (ho); clear HB; clear HO_3; have HB := n0_; have HO278 := n1_; clear n0_ n1_; clear ho hb hg hat))
     go_roundg k1
     case measure => have := HK1.out; omega
     case rel => exact ⟨(IntKind.u64.wrap (Int.tdiv x0_1 128)), (y276), (by first | rfl | (simp; done) | (simp [*]; done)), H', ⟨by have := HK1.out; omega⟩, ⟨by (with_reducible repeat (first | apply Kd.R_alloc | apply Kd.R_drewN | apply Kd.R_drew)); exact HO278.out⟩, ⟨by repeat (first | (with_reducible first | exact HB.out | apply below_alloc | apply pw_below_drewN | apply below_drew1) | exact HB.out)⟩⟩
    ·rw [if_neg c3] at H
     exact absurd H (by simp)
   ·rw [if_neg c2] at H
    have c2b0 : decide (127 < x0_1) = false := decide_eq_false c2
    clear c2
    by_cases c5 : x3_1.length < 140737488355328
    ·rw [if_pos c5] at H
     have LMc5 := Aside0.mk c5
     clear c5
     obtain ⟨y279, hy279⟩ : ∃ y_ : List Int, y_ = (x3_1 ++ [(x0_1) % 256]) := ⟨_, rfl⟩
     replace H : (some y279) = some r := by first | (rw [hy279]; with_reducible exact H) | (have H2_ := (Option.bind_some _ _).symm.trans H; rw [hy279]; with_reducible exact H2_) | (have H2_ := (Option.bind_some _ _).symm.trans H; with_reducible exact H2_) | with_reducible exact H | (rw [hy279]; exact H) | exact H
     have Ny279 := Aside0.mk hy279
     clear hy279
     obtain rfl := Option.some.inj H
     go_wp2_with (first | ((with_reducible refine gate_builtin (b := .append) (xs := #[.tmp 15, .tmp 18]) rfl ?_); at_builtin; refine Kd.R_append (Kd.int .u8) (w0 := w) w.heap.size rfl (.tmp 15) (.tmp 18) 37 5 (.int .u8 0) 1 rfl Tryz.underlying37 info5 rfl (by decide) (by omega) u3 x3_1 ((x0_1) % 256) [.int .u8 ((x0_1) % 256)] (fun _ => True) (fun _ => False) rfl rfl ?aP (fun _ hk => hk.elim) ?aF ?aO ?aB ?aS ?aL ?_; (case aP => exact rfl); (case aB => exact (by repeat (first | (with_reducible first | exact HB.out | apply below_alloc | apply pw_below_drewN | apply below_drew1) | exact HB.out))); (case aF => exact (fun _ _ => trivial)); (case aO => exact (by (with_reducible repeat (first | apply Kd.R_alloc | apply Kd.R_drewN | apply Kd.R_drew)); exact HO_3.out)); (case aS => exact (below_size (by repeat (first | (with_reducible first | exact HB.out | apply below_alloc | apply pw_below_drewN | apply below_drew1) | exact HB.out)))); (case aL => have := LMc5.out; omega); intro v280 w6 ho hb hg hat; rw [← Ny279.out] at ho; have n0_ := Aside0.mk (hb); have n1_ := Aside0.mk (ho); clear HB; clear HO_3; have HB := n0_; have HO281 := n1_; clear n0_ n1_; clear ho hb hg hat))
     go_ret
     exact ⟨_, by first | rfl | (simp [errW_none, errW_some] <;> rfl) | (simp [*, errW_none, errW_some] <;> rfl), by (with_reducible repeat (first | apply Kd.R_alloc | apply Kd.R_drewN | apply Kd.R_drew)); exact HO281.out, by repeat (first | (with_reducible first | exact HB.out | apply below_alloc | apply pw_below_drewN | apply below_drew1) | exact HB.out)⟩
    ·rw [if_neg c5] at H
     exact absurd H (by simp)

end Go.Proofs.YtmcddoolniaehaaGreat.S
end
section
namespace Go.Proofs.YtmcddoolniaehaaGreat.S
open Go.RowKit Go.Proofs.YtmcddoolniaehaaGreatW.PrintWords Go.Proofs.YtmcddoolniaehaaGreatW.PrintLast Go.Proofs.YtmcddoolniaehaaGreatW.PrintMore
attribute [local go_sem] max2_int min2_int max_two min_two max_three min_three max_four min_four   -- for this text's walks alone
set_option linter.unusedVariables false
set_option linter.unusedSimpArgs false

def ref03_Text.f (k : Nat) (a0 : ByteArray) : Option (List Int) := (ref03_Num.f k (IntKind.u64.wrap ((a0.size : Int)))).bind fun t285 => (if t285.length + a0.size < 140737488355328 then (some (t285 ++ bytesOf a0)) else (none))
theorem ref03_Text.mono : ∀ a0 k, LeO (ref03_Text.f k a0) (ref03_Text.f (k + 1) a0) := by
 intro a0 k
 unfold ref03_Text.f
 repeat' first
   | (with_reducible exact ref03_Num.mono _ _)
   | (with_reducible exact LeO.refl _)
   | (with_reducible exact LeO.none _)
   | (with_reducible refine LeO.ite ?_ ?_)
   | (with_reducible refine LeO.bind ?_ (fun _ => ?_))
   | exact ref03_Num.mono _ _
   | exact LeO.none _
   | refine LeO.ite ?_ ?_
   | refine LeO.bind ?_ (fun _ => ?_)
set_option maxHeartbeats 8000000 in
set_option maxRecDepth 100000 in
theorem ref03_Text.calls (k : Nat) (a0 : ByteArray) (r : List Int) (w : World) (h : ref03_Text.f k a0 = some r) :
  Calls Tryz.prog 58 #[.string a0] w fun e w' => ∃ v0_ : Value, e = .returned (v0_) ∧ Kd.R (Kd.int .u8) 5 w' w.heap.size (fun _ => True) v0_ r ∧ Below w.heap.size w w' := by
 have HB := Aside0.mk (Below.refl w.heap.size w)
 have H : ((ref03_Num.f k (IntKind.u64.wrap ((a0.size : Int)))).bind fun t285 => (if t285.length + a0.size < 140737488355328 then (some (t285 ++ bytesOf a0)) else (none))) = some r := h
 clear h
 replace H := Option.bind_eq_some_iff.mp H
 obtain ⟨t285, A20, H⟩ := H
 replace H : (if t285.length + a0.size < 140737488355328 then (some (t285 ++ bytesOf a0)) else (none)) = some r := H
 have A2 := Aside0.mk A20
 clear A20
 by_cases c3 : t285.length + a0.size < 140737488355328
 ·rw [if_pos c3] at H
  have LMc3 := Aside0.mk c3
  clear c3
  obtain ⟨y288, hy288⟩ : ∃ y_ : List Int, y_ = (t285 ++ bytesOf a0) := ⟨_, rfl⟩
  replace H : (some y288) = some r := by first | (rw [hy288]; with_reducible exact H) | (have H2_ := (Option.bind_some _ _).symm.trans H; rw [hy288]; with_reducible exact H2_) | (have H2_ := (Option.bind_some _ _).symm.trans H; with_reducible exact H2_) | with_reducible exact H | (rw [hy288]; exact H) | exact H
  have Ny288 := Aside0.mk hy288
  clear hy288
  obtain rfl := Option.some.inj H
  go_enter Tryz.func58, Tryz.ntmps58
  go_wp2_with (first | ((with_reducible refine gate_callee (f := 59) rfl ?_); refine goesL_ (some 6) rfl rfl Tryz.func59 (by kernel_rfl) rfl #[.int .u64 (IntKind.u64.wrap ((a0.size : Int)))] rfl (by (try simp only [List.map_toArray, List.map_cons, List.map_nil]); first | done | rfl | (simp only [List.length_drop, List.length_take]; rfl)) ?_; (with_reducible refine (ref03_Num.calls k (IntKind.u64.wrap ((a0.size : Int))) t285 _ A2.out).mono ?_); rintro e w4 ⟨v286, rfl, ho0, hb⟩; refine ⟨_, rfl, ?_⟩; have n0_ := Aside0.mk (Kd.R_lower ho0 (below_size (by repeat (first | (with_reducible first | exact HB.out | apply below_alloc | apply pw_below_drewN | apply below_drew1) | exact HB.out)))); have n1_ := Aside0.mk (below_step (by repeat (first | (with_reducible first | exact HB.out | apply below_alloc | apply pw_below_drewN | apply below_drew1) | exact HB.out)) hb); clear HB; have HO287 := n0_; have HB := n1_; clear n0_ n1_; (try clear hb); (try clear hb2); (try clear hk); (try clear hi); (try clear ho0)) | (at_builtin; refine print_append_str (w0 := w) w.heap.size rfl (.tmp 6) _ 37 9 5 rfl Tryz.underlying37 Tryz.underlying9 info5 v286 t285 a0 rfl rfl ?aO ?aB ?aS ?aL ?_; (case aB => exact (by repeat (first | (with_reducible first | exact HB.out | apply below_alloc | apply pw_below_drewN | apply below_drew1) | exact HB.out))); (case aO => exact (Kd.own_of_R (by (with_reducible repeat (first | apply Kd.R_alloc | apply Kd.R_drewN | apply Kd.R_drew)); exact HO287.out))); (case aS => exact (below_size (by repeat (first | (with_reducible first | exact HB.out | apply below_alloc | apply pw_below_drewN | apply below_drew1) | exact HB.out)))); (case aL => have := LMc3.out; omega); intro v289 w5 ho0 hb hg; have ho := Kd.R_of_own (h1 := fun _ => rfl) (ok := fun _ => True) ho0 (fun _ _ => trivial); clear ho0; have hat := True.intro; rw [← Ny288.out] at ho; change Kd.R (Kd.int .u8) 5 w5 w.heap.size (fun _ => True) v289 y288 at ho; have n0_ := Aside0.mk (hb); have n1_ := Aside0.mk (ho); clear HB; clear HO287; have HB := n0_; have HO290 := n1_; clear n0_ n1_; clear ho hb hg hat))
  go_ret
  exact ⟨_, by first | rfl | (simp [errW_none, errW_some] <;> rfl) | (simp [*, errW_none, errW_some] <;> rfl), by (with_reducible repeat (first | apply Kd.R_alloc | apply Kd.R_drewN | apply Kd.R_drew)); exact HO290.out, by repeat (first | (with_reducible first | exact HB.out | apply below_alloc | apply pw_below_drewN | apply below_drew1) | exact HB.out)⟩
 ·rw [if_neg c3] at H
  exact absurd H (by simp)

def ref03_Fold.f (a0 : Int) : Option (Int) := if a0 ≥ 0 then (some (IntKind.u64.wrap (2 * (IntKind.u64.wrap (a0))))) else (some (IntKind.u64.wrap ((IntKind.u64.wrap (2 * (IntKind.u64.wrap (wrap64 ((-1) - a0))))) + 1)))
set_option maxHeartbeats 8000000 in
set_option maxRecDepth 100000 in
theorem ref03_Fold.calls (a0 : Int) (r : Int) (w : World) (h : ref03_Fold.f a0 = some r) :
  Calls Tryz.prog 60 #[.int .i64 a0] w fun e w' => e = .returned (.int .u64 r) ∧ Drawn0 w w' := by
 have H : (if a0 ≥ 0 then (some (IntKind.u64.wrap (2 * (IntKind.u64.wrap (a0))))) else (some (IntKind.u64.wrap ((IntKind.u64.wrap (2 * (IntKind.u64.wrap (wrap64 ((-1) - a0))))) + 1)))) = some r := h
 clear h
 by_cases c2 : a0 ≥ 0
 ·rw [if_pos c2] at H
  have c2b0 : decide (0 ≤ a0) = true := decide_eq_true c2
  clear c2
  obtain rfl := Option.some.inj H
  go_enter Tryz.func60, Tryz.ntmps60
  go_wp2
  go_ret
  exact ⟨by first | rfl | (simp; done) | (simp [*]; done), by repeat (first | exact Drawn0.refl _ | apply Drawn0.step)⟩
 ·rw [if_neg c2] at H
  have c2b0 : decide (0 ≤ a0) = false := decide_eq_false c2
  clear c2
  obtain rfl := Option.some.inj H
  go_enter Tryz.func60, Tryz.ntmps60
  go_wp2
  go_ret
  exact ⟨by first | rfl | (simp; done) | (simp [*]; done), by repeat (first | exact Drawn0.refl _ | apply Drawn0.step)⟩

end Go.Proofs.YtmcddoolniaehaaGreat.S
end
section
namespace Go.Proofs.YtmcddoolniaehaaGreat.S
open Go.RowKit Go.Proofs.YtmcddoolniaehaaGreatW.PrintWords Go.Proofs.YtmcddoolniaehaaGreatW.PrintLast Go.Proofs.YtmcddoolniaehaaGreatW.PrintMore
attribute [local go_sem] max2_int min2_int max_two min_two max_three min_three max_four min_four   -- for this text's walks alone
set_option linter.unusedVariables false
set_option linter.unusedSimpArgs false

def ref09_num.f (k : Nat) (a0 : Int) : Option (List Int) := (ref03_Num.f k (IntKind.u64.wrap (a0))).bind fun t282 => (some t282)
theorem ref09_num.mono : ∀ a0 k, LeO (ref09_num.f k a0) (ref09_num.f (k + 1) a0) := by
 intro a0 k
 unfold ref09_num.f
 repeat' first
   | (with_reducible exact ref03_Num.mono _ _)
   | (with_reducible exact LeO.refl _)
   | (with_reducible exact LeO.none _)
   | (with_reducible refine LeO.ite ?_ ?_)
   | (with_reducible refine LeO.bind ?_ (fun _ => ?_))
   | exact ref03_Num.mono _ _
   | exact LeO.none _
   | refine LeO.ite ?_ ?_
   | refine LeO.bind ?_ (fun _ => ?_)
set_option maxHeartbeats 8000000 in
set_option maxRecDepth 100000 in
theorem ref09_num.calls (k : Nat) (a0 : Int) (r : List Int) (w : World) (h : ref09_num.f k a0 = some r) :
  Calls Tryz.prog 57 #[.int .i64 a0] w fun e w' => ∃ v0_ : Value, e = .returned (v0_) ∧ Kd.R (Kd.int .u8) 5 w' w.heap.size (fun _ => True) v0_ r ∧ Below w.heap.size w w' := by
 have HB := Aside0.mk (Below.refl w.heap.size w)
 have H : ((ref03_Num.f k (IntKind.u64.wrap (a0))).bind fun t282 => (some t282)) = some r := h
 clear h
 replace H := Option.bind_eq_some_iff.mp H
 obtain ⟨t282, A20, H⟩ := H
 replace H : (some t282) = some r := H
 have A2 := Aside0.mk A20
 clear A20
 obtain rfl := Option.some.inj H
 go_enter Tryz.func57, Tryz.ntmps57
 go_wp2_with (first | ((with_reducible refine gate_callee (f := 59) rfl ?_); refine goesL_ (some 5) rfl rfl Tryz.func59 (by kernel_rfl) rfl #[.int .u64 (IntKind.u64.wrap (a0))] rfl (by (try simp only [List.map_toArray, List.map_cons, List.map_nil]); first | done | rfl | (simp only [List.length_drop, List.length_take]; rfl)) ?_; (with_reducible refine (ref03_Num.calls k (IntKind.u64.wrap (a0)) t282 _ A2.out).mono ?_); rintro e w3 ⟨v283, rfl, ho0, hb⟩; refine ⟨_, rfl, ?_⟩; have n0_ := Aside0.mk (Kd.R_lower ho0 (below_size (by repeat (first | (with_reducible first | exact HB.out | apply below_alloc | apply pw_below_drewN | apply below_drew1) | exact HB.out)))); have n1_ := Aside0.mk (below_step (by repeat (first | (with_reducible first | exact HB.out | apply below_alloc | apply pw_below_drewN | apply below_drew1) | exact HB.out)) hb); clear HB; have HO284 := n0_; have HB := n1_; clear n0_ n1_; (try clear hb); (try clear hb2); (try clear hk); (try clear hi); (try clear ho0)))
 go_ret
 exact ⟨_, by first | rfl | (simp [errW_none, errW_some] <;> rfl) | (simp [*, errW_none, errW_some] <;> rfl), by (with_reducible repeat (first | apply Kd.R_alloc | apply Kd.R_drewN | apply Kd.R_drew)); exact HO284.out, by repeat (first | (with_reducible first | exact HB.out | apply below_alloc | apply pw_below_drewN | apply below_drew1) | exact HB.out)⟩

end Go.Proofs.YtmcddoolniaehaaGreat.S
end
section
namespace Go.Proofs.YtmcddoolniaehaaGreat.S
open Go.RowKit Go.Proofs.YtmcddoolniaehaaGreatW.PrintWords Go.Proofs.YtmcddoolniaehaaGreatW.PrintLast Go.Proofs.YtmcddoolniaehaaGreatW.PrintMore Go.Proofs.YtmcddoolniaehaaGreatW
set_option linter.unusedVariables false
set_option linter.unusedSimpArgs false
theorem dig_or : ∀ a : Fin 256, Go.bits .or .u8 (a.1 : Int) 128 = ((a.1 % 128 + 128 : Nat) : Int) := by decide +kernel
theorem dig_is (n : Nat) : dig n = ((n % 128 + 128 : Nat) : Int) := by
  have h := dig_or ⟨n % 256, by omega⟩
  unfold dig
  rw [show ((n : Int) % 256) = ((n % 256 : Nat) : Int) by omega, h]
  show (((n % 256) % 128 + 128 : Nat) : Int) = _
  omega
theorem rnum_loop : ∀ (k n : Nat) (out : List Int), (numL n).length ≤ k → n < 18446744073709551616 → out.length + (numL n).length ≤ 1000 → ref03_Num.l0 k (n : Int) out = some (out ++ numL n)
  | 0, n, out, h, _, _ => by have := numL_pos n; omega
  | k + 1, n, out, h, hn, ho => by
    have hp := numL_pos n
    simp only [ref03_Num.l0]
    by_cases hb : 127 < n
    · rw [numL_big hb] at h ho ⊢
      simp only [List.length_cons] at h ho
      rw [if_pos (by omega), if_pos (by omega)]
      have e1 : IntKind.u64.wrap (Int.tdiv (n : Int) 128) = ((n / 128 : Nat) : Int) := by
        rw [wrap_u64, show Int.tdiv (n : Int) 128 = ((n / 128 : Nat) : Int) from rfl]; omega
      have e2 : IntKind.u64.wrap (Int.tmod (n : Int) 128 + 128) % 256 = dig n := by
        rw [wrap_u64, dig_is, show Int.tmod (n : Int) 128 = ((n % 128 : Nat) : Int) from rfl]; omega
      rw [e1, e2, rnum_loop k (n / 128) (out ++ [dig n]) (by omega) (by omega) (by rw [List.length_append, List.length_singleton]; omega)]
      rw [List.append_assoc, List.singleton_append]
    · rw [numL_small hb]
      rw [if_neg (by omega), if_pos (by rw [numL_small hb] at ho; simp at ho; omega)]
      congr 3
      omega
theorem rnum_f (n : Nat) (hn : n < 18446744073709551616) : ref03_Num.f 20 (n : Int) = some (numL n) := by
  have h10 := numL_ten hn
  exact rnum_loop 20 n [] (by omega) hn (by simp; omega)
theorem rnumI_f (n : Int) : ref09_num.f 20 n = some (numI n) := by
  unfold ref09_num.f numI
  rw [wrap_u64]
  obtain ⟨m, hm⟩ : ∃ m : Nat, n % 18446744073709551616 = (m : Int) := ⟨(n % 18446744073709551616).toNat, by omega⟩
  rw [hm, rnum_f m (by omega)]
  rfl
theorem rtext_f (a : ByteArray) (h : a.size ≤ 1000) : ref03_Text.f 20 a = some (textL a) := by
  unfold ref03_Text.f textL
  have hw : IntKind.u64.wrap ((a.size : Int)) = ((a.size : Nat) : Int) := by rw [wrap_u64]; omega
  have h10 := numL_ten (n := a.size) (by omega)
  rw [hw, rnum_f a.size (by omega), Option.bind_some, if_pos (by omega)]
  rfl
theorem xor_ones (x : Nat) (h : x < 18446744073709551616) : x ^^^ 18446744073709551615 = 18446744073709551615 - x := by
  have h1 := BitVec.toNat_not (x := BitVec.ofNat 64 x)
  rw [BitVec.not_def, BitVec.toNat_xor, BitVec.toNat_allOnes, BitVec.toNat_ofNat, Nat.mod_eq_of_lt (by simpa using h)] at h1
  rw [Nat.xor_comm]
  simpa using h1
theorem rfold_f (a : Int) (ha : inR a) : ref03_Fold.f a = some (foldI a) := by
  unfold inR at ha
  unfold ref03_Fold.f foldI
  simp only [wrap_u64]
  rw [Go.u64_xor _ _ (by omega) (by omega) (by omega) (by omega)]
  by_cases h : a ≥ 0
  · rw [if_pos h, show (a / 9223372036854775808 % 18446744073709551616).toNat = 0 by omega, Nat.xor_zero]
    congr 1
    omega
  · rw [if_neg h, show (a / 9223372036854775808 % 18446744073709551616).toNat = 18446744073709551615 by omega, xor_ones _ (by omega)]
    have hw : wrap64 (-1 - a) = -1 - a := by unfold wrap64; omega
    rw [hw]
    congr 1
    omega
def RetB (W : World) (r : List Int) (e : Ending) (w' : World) : Prop := ∃ v : Value, e = .returned v ∧ Kd.R (Kd.int .u8) 5 w' W.heap.size (fun _ => True) v r ∧ Below W.heap.size W w'
theorem rtext_calls (a : ByteArray) (h : a.size ≤ 1000) (W : World) : Calls Tryz.prog 58 #[.string a] W (RetB W (textL a)) := ref03_Text.calls 20 a _ W (rtext_f a h)
theorem rnumI_calls (n : Int) (W : World) : Calls Tryz.prog 57 #[.int .i64 n] W (RetB W (numI n)) := ref09_num.calls 20 n _ W (rnumI_f n)
theorem rnumF_calls (a : Int) (W : World) : Calls Tryz.prog 59 #[.int .u64 (foldI a)] W (RetB W (numL (foldI a).toNat)) := by
  have hf := foldI_range a
  have h := ref03_Num.calls 20 ((foldI a).toNat : Int) _ W (rnum_f (foldI a).toNat (by omega))
  rw [show (((foldI a).toNat : Nat) : Int) = foldI a by omega] at h
  exact h
section
variable {ops : Array Oper} {rest : List Oper} {op : Oper} {a : Act} {Q : Exit → Act → World → Prop}
theorem arB {w0 W : World} {v : Value} {xs ys : List Int} {A : Option Addr} {m c : Nat} (H : Ou (Kd.int .u8) 5 w0 v xs W) (HR : Kd.C (Kd.int .u8) W A m ys) (hl : xs.length + m ≤ 100000000) (hgd : op.guard = none) (s y : Operand) (ho : op.op = .call { callee := .builtin .append, args := #[s, y], argTypes := #[37, 37] }) (hs : a.eval s = v) (hy : a.eval y = .slice A m c)
    (h : ∀ v1 w1, Kept1 v W v1 w1 → Ou (Kd.int .u8) 5 w0 v1 (xs ++ ys) w1 → wpList Tryz.prog ops Q rest (a.put op.dst v1) w1) : wpList Tryz.prog ops Q (op :: rest) a W :=
  Kd.R_append_rows (Kd.int .u8) (w0 := w0) w0.heap.size hgd s y 37 5 (.int .u8 0) 1 ho Tryz.underlying37 info5 rfl (by decide) (by omega) v xs ys A m c (fun _ => True) (fun _ => False) hs hy H.r HR (fun _ _ h => h) (fun _ hk => hk.elim) (fun _ _ => trivial) H.b H.b.size (by omega) (fun v1 w1 hr hb hg hat => h v1 w1 ⟨hg, hat⟩ ⟨hr, hb⟩)
end
end Go.Proofs.YtmcddoolniaehaaGreat.S
end
section
namespace Go.Proofs.YtmcddoolniaehaaGreat.S
open Go.RowKit Go.Proofs.YtmcddoolniaehaaGreatW.PrintWords Go.Proofs.YtmcddoolniaehaaGreatW.PrintLast Go.Proofs.YtmcddoolniaehaaGreatW.PrintMore
attribute [local go_sem] max2_int min2_int max_two min_two max_three min_three max_four min_four   -- for this text's walks alone
set_option linter.unusedVariables false
set_option linter.unusedSimpArgs false

def ref05_Key.l0 : Nat → ByteArray → Int → Option (Bool)
 | 0, _, _ => none
 | k + 1, x0, x3 => if x3 < (x0.size : Int) then (if 0 ≤ x3 then (if (bt x0 x3) ≥ 97 then (if (bt x0 x3) ≤ 122 then (ref05_Key.l0 k x0 (wrap64 (x3 + 1))) else (if (bt x0 x3) ≥ 48 then (if ((bt x0 x3) ≤ 57) then (ref05_Key.l0 k x0 (wrap64 (x3 + 1))) else (some false)) else (some false))) else (if (bt x0 x3) ≥ 48 then (if ((bt x0 x3) ≤ 57) then (ref05_Key.l0 k x0 (wrap64 (x3 + 1))) else (some false)) else (some false))) else (none)) else (if (x0.size : Int) ≥ 1 then (some (decide ((x0.size : Int) ≤ 8))) else (some false))
def ref05_Key.f (k : Nat) (a0 : ByteArray) : Option (Bool) := ref05_Key.l0 k a0 0
theorem ref05_Key.mono_l : ∀ k, (∀ y0 y1, LeO (ref05_Key.l0 k y0 y1) (ref05_Key.l0 (k + 1) y0 y1))
 | 0 => fun _ _ r h => by simp [ref05_Key.l0] at h
 | k + 1 => by
  have ih0 := ref05_Key.mono_l k
  ·intro y0 y1
   unfold ref05_Key.l0
   repeat' first
   | (with_reducible exact ih0 _ _)
   | (with_reducible exact LeO.refl _)
   | (with_reducible exact LeO.none _)
   | (with_reducible refine LeO.ite ?_ ?_)
   | (with_reducible refine LeO.bind ?_ (fun _ => ?_))
   | exact ih0 _ _
   | exact LeO.none _
   | refine LeO.ite ?_ ?_
   | refine LeO.bind ?_ (fun _ => ?_)
theorem ref05_Key.mono : ∀ a0 k, LeO (ref05_Key.f k a0) (ref05_Key.f (k + 1) a0) := by
 intro a0 k
 have ih0 := ref05_Key.mono_l k
 unfold ref05_Key.f
 repeat' first
   | (with_reducible exact ih0 _ _)
   | (with_reducible exact LeO.refl _)
   | (with_reducible exact LeO.none _)
   | (with_reducible refine LeO.ite ?_ ?_)
   | (with_reducible refine LeO.bind ?_ (fun _ => ?_))
   | exact ih0 _ _
   | exact LeO.none _
   | refine LeO.ite ?_ ?_
   | refine LeO.bind ?_ (fun _ => ?_)
set_option maxHeartbeats 8000000 in
set_option maxRecDepth 100000 in
theorem ref05_Key.calls (k : Nat) (a0 : ByteArray) (r : Bool) (w : World) (h : ref05_Key.f k a0 = some r) :
  Calls Tryz.prog 88 #[.string a0] w fun e w' => e = .returned (.bool r) ∧ Drawn0 w w' := by
 have H : (ref05_Key.l0 k a0 0) = some r := h
 clear h
 have H' := Aside0.mk H
 clear H
 go_enter Tryz.func88, Tryz.ntmps88
 go_wp2
 go_loopg [3] k (fun kq v3 w' => ∃ (x3_1 : Int), v3 = .int .i64 x3_1 ∧ Aside0 (ref05_Key.l0 kq a0 x3_1 = some r) ∧ Aside0 (kq ≤ k) ∧ Drawn0 w w')
 case atStart => exact ⟨(0), (by first | rfl | (simp; done) | (simp [*]; done)), H', ⟨Nat.le_refl _⟩, by repeat (first | exact Drawn0.refl _ | apply Drawn0.step)⟩
 case round =>
  clear H'
  obtain ⟨x3_1, rfl, HA, HK1, ⟨m1, rfl⟩⟩ := hrel
  cases gk with
  | zero => exact absurd HA.out (by simp [ref05_Key.l0])
  | succ k1 =>
   have H := HA.out
   clear HA
   simp only [ref05_Key.l0] at H
   by_cases c2 : x3_1 < (a0.size : Int)
   ·rw [if_pos c2] at H
    have c2b0 : decide (x3_1 < (a0.size : Int)) = true := decide_eq_true c2
    clear c2
    by_cases c3 : 0 ≤ x3_1
    ·rw [if_pos c3] at H
     have c3b0 : decide (0 ≤ x3_1) = true := decide_eq_true c3
     clear c3
     by_cases c5 : (bt a0 x3_1) ≥ 97
     ·rw [if_pos c5] at H
      have c5b0 : decide (97 ≤ (bt a0 x3_1)) = true := decide_eq_true c5
      clear c5
      by_cases c7 : (bt a0 x3_1) ≤ 122
      ·rw [if_pos c7] at H
       have c7b0 : decide ((bt a0 x3_1) ≤ 122) = true := decide_eq_true c7
       clear c7
       have H' := Aside0.mk H
       clear H
       have p4 : 0 ≤ (x3_1 : Int) := of_decide_eq_true (by first | (with_reducible assumption) | assumption)
       have q4 : x3_1 < (a0.size : Int) := of_decide_eq_true (by first | (with_reducible assumption) | assumption)
       have hx4 := bt_at a0 x3_1
       replace p4 := eq_true p4
       replace q4 := eq_true q4
       have p6 : 0 ≤ (x3_1 : Int) := of_decide_eq_true (by first | (with_reducible assumption) | assumption)
       have q6 : x3_1 < (a0.size : Int) := of_decide_eq_true (by first | (with_reducible assumption) | assumption)
       have hx6 := bt_at a0 x3_1
       replace p6 := eq_true p6
       replace q6 := eq_true q6
       go_wp2
       go_roundg k1
       case measure => have := HK1.out; omega
       case rel => exact ⟨(wrap64 (x3_1 + 1)), (by first | rfl | (simp; done) | (simp [*]; done)), H', ⟨by have := HK1.out; omega⟩, by repeat (first | exact Drawn0.refl _ | apply Drawn0.step)⟩
      ·rw [if_neg c7] at H
       have c7b0 : decide ((bt a0 x3_1) ≤ 122) = false := decide_eq_false c7
       clear c7
       by_cases c9 : (bt a0 x3_1) ≥ 48
       ·rw [if_pos c9] at H
        have c9b0 : decide (48 ≤ (bt a0 x3_1)) = true := decide_eq_true c9
        clear c9
        by_cases c11 : ((bt a0 x3_1) ≤ 57)
        ·rw [if_pos c11] at H
         have c11b0 : decide ((bt a0 x3_1) ≤ 57) = true := decide_eq_true c11
         clear c11
         have H' := Aside0.mk H
         clear H
         have p4 : 0 ≤ (x3_1 : Int) := of_decide_eq_true (by first | (with_reducible assumption) | assumption)
         have q4 : x3_1 < (a0.size : Int) := of_decide_eq_true (by first | (with_reducible assumption) | assumption)
         have hx4 := bt_at a0 x3_1
         replace p4 := eq_true p4
         replace q4 := eq_true q4
         have p6 : 0 ≤ (x3_1 : Int) := of_decide_eq_true (by first | (with_reducible assumption) | assumption)
         have q6 : x3_1 < (a0.size : Int) := of_decide_eq_true (by first | (with_reducible assumption) | assumption)
         have hx6 := bt_at a0 x3_1
         replace p6 := eq_true p6
         replace q6 := eq_true q6
         have p8 : 0 ≤ (x3_1 : Int) := of_decide_eq_true (by first | (with_reducible assumption) | assumption)
         have q8 : x3_1 < (a0.size : Int) := of_decide_eq_true (by first | (with_reducible assumption) | assumption)
         have hx8 := bt_at a0 x3_1
         replace p8 := eq_true p8
         replace q8 := eq_true q8
         have p10 : 0 ≤ (x3_1 : Int) := of_decide_eq_true (by first | (with_reducible assumption) | assumption)
         have q10 : x3_1 < (a0.size : Int) := of_decide_eq_true (by first | (with_reducible assumption) | assumption)
         have hx10 := bt_at a0 x3_1
         replace p10 := eq_true p10
         replace q10 := eq_true q10
         go_wp2
         go_roundg k1
         case measure => have := HK1.out; omega
         case rel => exact ⟨(wrap64 (x3_1 + 1)), (by first | rfl | (simp; done) | (simp [*]; done)), H', ⟨by have := HK1.out; omega⟩, by repeat (first | exact Drawn0.refl _ | apply Drawn0.step)⟩
        ·rw [if_neg c11] at H
         have c11b0 : decide ((bt a0 x3_1) ≤ 57) = false := decide_eq_false c11
         clear c11
         obtain rfl := Option.some.inj H
         have p4 : 0 ≤ (x3_1 : Int) := of_decide_eq_true (by first | (with_reducible assumption) | assumption)
         have q4 : x3_1 < (a0.size : Int) := of_decide_eq_true (by first | (with_reducible assumption) | assumption)
         have hx4 := bt_at a0 x3_1
         replace p4 := eq_true p4
         replace q4 := eq_true q4
         have p6 : 0 ≤ (x3_1 : Int) := of_decide_eq_true (by first | (with_reducible assumption) | assumption)
         have q6 : x3_1 < (a0.size : Int) := of_decide_eq_true (by first | (with_reducible assumption) | assumption)
         have hx6 := bt_at a0 x3_1
         replace p6 := eq_true p6
         replace q6 := eq_true q6
         have p8 : 0 ≤ (x3_1 : Int) := of_decide_eq_true (by first | (with_reducible assumption) | assumption)
         have q8 : x3_1 < (a0.size : Int) := of_decide_eq_true (by first | (with_reducible assumption) | assumption)
         have hx8 := bt_at a0 x3_1
         replace p8 := eq_true p8
         replace q8 := eq_true q8
         have p10 : 0 ≤ (x3_1 : Int) := of_decide_eq_true (by first | (with_reducible assumption) | assumption)
         have q10 : x3_1 < (a0.size : Int) := of_decide_eq_true (by first | (with_reducible assumption) | assumption)
         have hx10 := bt_at a0 x3_1
         replace p10 := eq_true p10
         replace q10 := eq_true q10
         go_wp2
         go_ret
         exact ⟨by first | rfl | (simp; done) | (simp [*]; done), by repeat (first | exact Drawn0.refl _ | apply Drawn0.step)⟩
       ·rw [if_neg c9] at H
        have c9b0 : decide (48 ≤ (bt a0 x3_1)) = false := decide_eq_false c9
        clear c9
        obtain rfl := Option.some.inj H
        have p4 : 0 ≤ (x3_1 : Int) := of_decide_eq_true (by first | (with_reducible assumption) | assumption)
        have q4 : x3_1 < (a0.size : Int) := of_decide_eq_true (by first | (with_reducible assumption) | assumption)
        have hx4 := bt_at a0 x3_1
        replace p4 := eq_true p4
        replace q4 := eq_true q4
        have p6 : 0 ≤ (x3_1 : Int) := of_decide_eq_true (by first | (with_reducible assumption) | assumption)
        have q6 : x3_1 < (a0.size : Int) := of_decide_eq_true (by first | (with_reducible assumption) | assumption)
        have hx6 := bt_at a0 x3_1
        replace p6 := eq_true p6
        replace q6 := eq_true q6
        have p8 : 0 ≤ (x3_1 : Int) := of_decide_eq_true (by first | (with_reducible assumption) | assumption)
        have q8 : x3_1 < (a0.size : Int) := of_decide_eq_true (by first | (with_reducible assumption) | assumption)
        have hx8 := bt_at a0 x3_1
        replace p8 := eq_true p8
        replace q8 := eq_true q8
        go_wp2
        go_ret
        exact ⟨by first | rfl | (simp; done) | (simp [*]; done), by repeat (first | exact Drawn0.refl _ | apply Drawn0.step)⟩
     ·rw [if_neg c5] at H
      have c5b0 : decide (97 ≤ (bt a0 x3_1)) = false := decide_eq_false c5
      clear c5
      by_cases c13 : (bt a0 x3_1) ≥ 48
      ·rw [if_pos c13] at H
       have c13b0 : decide (48 ≤ (bt a0 x3_1)) = true := decide_eq_true c13
       clear c13
       by_cases c15 : ((bt a0 x3_1) ≤ 57)
       ·rw [if_pos c15] at H
        have c15b0 : decide ((bt a0 x3_1) ≤ 57) = true := decide_eq_true c15
        clear c15
        have H' := Aside0.mk H
        clear H
        have p4 : 0 ≤ (x3_1 : Int) := of_decide_eq_true (by first | (with_reducible assumption) | assumption)
        have q4 : x3_1 < (a0.size : Int) := of_decide_eq_true (by first | (with_reducible assumption) | assumption)
        have hx4 := bt_at a0 x3_1
        replace p4 := eq_true p4
        replace q4 := eq_true q4
        have p12 : 0 ≤ (x3_1 : Int) := of_decide_eq_true (by first | (with_reducible assumption) | assumption)
        have q12 : x3_1 < (a0.size : Int) := of_decide_eq_true (by first | (with_reducible assumption) | assumption)
        have hx12 := bt_at a0 x3_1
        replace p12 := eq_true p12
        replace q12 := eq_true q12
        have p14 : 0 ≤ (x3_1 : Int) := of_decide_eq_true (by first | (with_reducible assumption) | assumption)
        have q14 : x3_1 < (a0.size : Int) := of_decide_eq_true (by first | (with_reducible assumption) | assumption)
        have hx14 := bt_at a0 x3_1
        replace p14 := eq_true p14
        replace q14 := eq_true q14
        go_wp2
        go_roundg k1
        case measure => have := HK1.out; omega
        case rel => exact ⟨(wrap64 (x3_1 + 1)), (by first | rfl | (simp; done) | (simp [*]; done)), H', ⟨by have := HK1.out; omega⟩, by repeat (first | exact Drawn0.refl _ | apply Drawn0.step)⟩
       ·rw [if_neg c15] at H
        have c15b0 : decide ((bt a0 x3_1) ≤ 57) = false := decide_eq_false c15
        clear c15
        obtain rfl := Option.some.inj H
        have p4 : 0 ≤ (x3_1 : Int) := of_decide_eq_true (by first | (with_reducible assumption) | assumption)
        have q4 : x3_1 < (a0.size : Int) := of_decide_eq_true (by first | (with_reducible assumption) | assumption)
        have hx4 := bt_at a0 x3_1
        replace p4 := eq_true p4
        replace q4 := eq_true q4
        have p12 : 0 ≤ (x3_1 : Int) := of_decide_eq_true (by first | (with_reducible assumption) | assumption)
        have q12 : x3_1 < (a0.size : Int) := of_decide_eq_true (by first | (with_reducible assumption) | assumption)
        have hx12 := bt_at a0 x3_1
        replace p12 := eq_true p12
        replace q12 := eq_true q12
        have p14 : 0 ≤ (x3_1 : Int) := of_decide_eq_true (by first | (with_reducible assumption) | assumption)
        have q14 : x3_1 < (a0.size : Int) := of_decide_eq_true (by first | (with_reducible assumption) | assumption)
        have hx14 := bt_at a0 x3_1
        replace p14 := eq_true p14
        replace q14 := eq_true q14
        go_wp2
        go_ret
        exact ⟨by first | rfl | (simp; done) | (simp [*]; done), by repeat (first | exact Drawn0.refl _ | apply Drawn0.step)⟩
      ·rw [if_neg c13] at H
       have c13b0 : decide (48 ≤ (bt a0 x3_1)) = false := decide_eq_false c13
       clear c13
       obtain rfl := Option.some.inj H
       have p4 : 0 ≤ (x3_1 : Int) := of_decide_eq_true (by first | (with_reducible assumption) | assumption)
       have q4 : x3_1 < (a0.size : Int) := of_decide_eq_true (by first | (with_reducible assumption) | assumption)
       have hx4 := bt_at a0 x3_1
       replace p4 := eq_true p4
       replace q4 := eq_true q4
       have p12 : 0 ≤ (x3_1 : Int) := of_decide_eq_true (by first | (with_reducible assumption) | assumption)
       have q12 : x3_1 < (a0.size : Int) := of_decide_eq_true (by first | (with_reducible assumption) | assumption)
       have hx12 := bt_at a0 x3_1
       replace p12 := eq_true p12
       replace q12 := eq_true q12
       go_wp2
       go_ret
       exact ⟨by first | rfl | (simp; done) | (simp [*]; done), by repeat (first | exact Drawn0.refl _ | apply Drawn0.step)⟩
    ·rw [if_neg c3] at H
     exact absurd H (by simp)
   ·rw [if_neg c2] at H
    have c2b0 : decide (x3_1 < (a0.size : Int)) = false := decide_eq_false c2
    clear c2
    by_cases c16 : (a0.size : Int) ≥ 1
    ·rw [if_pos c16] at H
     have c16b0 : decide (1 ≤ (a0.size : Int)) = true := decide_eq_true c16
     have c16b1 : decide (1 ≤ a0.size) = true := decide_eq_true (by omega)
     clear c16
     obtain rfl := Option.some.inj H
     go_wp2
     go_ret
     exact ⟨by first | rfl | (simp; done) | (simp [*]; done), by repeat (first | exact Drawn0.refl _ | apply Drawn0.step)⟩
    ·rw [if_neg c16] at H
     have c16b0 : decide (1 ≤ (a0.size : Int)) = false := decide_eq_false c16
     have c16b1 : decide (1 ≤ a0.size) = false := decide_eq_false (by omega)
     clear c16
     obtain rfl := Option.some.inj H
     go_wp2
     go_ret
     exact ⟨by first | rfl | (simp; done) | (simp [*]; done), by repeat (first | exact Drawn0.refl _ | apply Drawn0.step)⟩

end Go.Proofs.YtmcddoolniaehaaGreat.S
end
section
namespace Go.Proofs.YtmcddoolniaehaaGreat.S
open Go.RowKit Go.Proofs.YtmcddoolniaehaaGreatW.PrintWords Go.Proofs.YtmcddoolniaehaaGreatW.PrintLast Go.Proofs.YtmcddoolniaehaaGreatW.PrintMore Go.Proofs.YtmcddoolniaehaaGreatW
set_option linter.unusedVariables false
set_option linter.unusedSimpArgs false
theorem bt_midS {a : ByteArray} {pre suf : List UInt8} {c : UInt8} (e : a.data.toList = pre ++ c :: suf) : bt a ((pre.length : Nat) : Int) = (c.toNat : Int) := by
  have hl : a.size = pre.length + (suf.length + 1) := by
    have h := congrArg List.length e
    simpa using h
  unfold bt
  have h : (((pre.length : Nat) : Int)).toNat < a.size := by simp; omega
  rw [dif_pos h]
  have h2 : pre.length < a.data.toList.length := by rw [e]; simp
  have : a[(((pre.length : Nat) : Int)).toNat]'h = a.data.toList[pre.length]'h2 := rfl
  rw [this]
  simp [e]
theorem wrapK {n : Nat} (h : n < 9223372036854775807) : wrap64 ((n : Int) + 1) = ((n + 1 : Nat) : Int) := by unfold wrap64; omega
theorem keyD_loop (a : ByteArray) (hs : a.size ≤ 9223372036854775807) : ∀ (suf pre : List UInt8) (k : Nat), a.data.toList = pre ++ suf → suf.length < k →
    ref05_Key.l0 k a ((pre.length : Nat) : Int) = some (suf.all keyChar && (decide (1 ≤ a.data.toList.length) && decide (a.data.toList.length ≤ 8)))
  | suf, pre, 0, _, hk => by omega
  | [], pre, k + 1, e, _ => by
    have hl : a.size = pre.length := by
      have h := congrArg List.length e
      simpa using h
    simp only [ref05_Key.l0]
    have hL : a.data.toList.length = a.size := by simp
    rw [if_neg (by omega), hL]
    by_cases h1 : 1 ≤ a.size
    · rw [if_pos (by omega)]
      simp only [List.all_nil, Bool.true_and, h1, decide_true]
      congr 1
      exact decide_eq_decide.2 (by omega)
    · rw [if_neg (by omega)]; simp [h1]
  | c :: suf, pre, k + 1, e, hk => by
    have hl : a.size = pre.length + (suf.length + 1) := by
      have h := congrArg List.length e
      simpa using h
    have ih := keyD_loop a hs suf (pre ++ [c]) k (by rw [appS]; exact e) (by simp at hk; omega)
    rw [lenS] at ih
    simp only [ref05_Key.l0]
    rw [if_pos (by omega), if_pos (by omega), bt_midS e, wrapK (by omega), ih, List.all_cons]
    by_cases h1 : 97 ≤ c.toNat
    · rw [if_pos (by omega)]
      by_cases h2 : c.toNat ≤ 122
      · rw [if_pos (by omega)]
        have : keyChar c = true := by simp [keyChar, h1, h2]
        rw [this]; rfl
      · rw [if_neg (by omega)]
        have : keyChar c = false := by simp [keyChar]; omega
        rw [this]
        rw [if_pos (by omega), if_neg (by omega)]; rfl
    · rw [if_neg (by omega)]
      by_cases h3 : 48 ≤ c.toNat
      · rw [if_pos (by omega)]
        by_cases h4 : c.toNat ≤ 57
        · rw [if_pos (by omega)]
          have : keyChar c = true := by simp [keyChar, h3, h4]
          rw [this]; rfl
        · rw [if_neg (by omega)]
          have : keyChar c = false := by simp [keyChar]; omega
          rw [this]; rfl
      · rw [if_neg (by omega)]
        have : keyChar c = false := by simp [keyChar]; omega
        rw [this]; rfl
theorem keyD_f (a : ByteArray) (k : Nat) (hs : a.size ≤ 9223372036854775807) (hk : a.size < k) : ref05_Key.f k a = some (keyB a.data.toList) := by
  have h := keyD_loop a hs a.data.toList [] k rfl (by simpa using hk)
  simpa [ref05_Key.f, keyB] using h
end Go.Proofs.YtmcddoolniaehaaGreat.S
end
