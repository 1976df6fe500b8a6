/- Several of the walk's texts in one: SHRPAD, SHRPut, Sx22, SR9Do. -/
import Derived.Deep.RegionLaw
import Derived.BigQuiet
import Derived.Test.YtmcddoolniaehaaGreatMD04
import Derived.Test.YtmcddoolniaehaaGreatMD11
import Derived.Test.YtmcddoolniaehaaGreatMD17
import Derived.Test.YtmcddoolniaehaaGreatMD19
import Derived.Test.YtmcddoolniaehaaGreatMD20
import Derived.Test.YtmcddoolniaehaaGreatMD21
import Derived.Test.YtmcddoolniaehaaGreatMD22
import Derived.Test.YtmcddoolniaehaaGreatMD23
import Derived.Test.YtmcddoolniaehaaGreatMD24
import Derived.Test.YtmcddoolniaehaaGreatMD27
section
namespace Go.Proofs.YtmcddoolniaehaaGreat.S
open Go.RowKit Go.Proofs.YtmcddoolniaehaaGreatW.PrintWords Go.Proofs.YtmcddoolniaehaaGreatW.PrintLast Go.Proofs.YtmcddoolniaehaaGreatW.PrintMore Go.Proofs.YtmcddoolniaehaaGreatW
set_option linter.unusedVariables false
set_option linter.unusedSimpArgs false
theorem C_oneP {w : World} {g : Nat} (p : S43) (h : w.heap[g]? = some (.cells #[.string p.f0, .string p.f1, .int .i64 p.f2.f0, .int .i64 p.f2.f1] 43)) : Kd.C k43 w (some ⟨g, 0, none⟩) 1 [p] := ⟨rfl, by decide, fun _ => ⟨⟨g, 0, none⟩, rfl, fun j q hj => by
  obtain ⟨hj0, rfl⟩ : j = 0 ∧ q = p := by
    cases j with
    | zero => exact ⟨rfl, by simpa using hj.symm⟩
    | succ j => simp at hj
  subst hj0
  refine ⟨_, rfl, k43_mk w q, fun i u hu => ?_⟩
  have hu2 := hu
  rcases i with _ | _ | _ | _ | i
  · exact (blk_cell h 0).trans hu2
  · exact (blk_cell h 1).trans hu2
  · exact (blk_cell h 2).trans hu2
  · exact (blk_cell h 3).trans hu2
  · simp at hu2⟩⟩
section
variable {ops : Array Oper} {op : Oper} {a : Act} {Q : Exit → Act → World → Prop} {Kc : Act → World → Prop}
theorem arPs {w0 W : World} {v : Value} {xs ys : List S43} {A : Option Addr} {m c : Nat} (H : Ou k43 43 w0 v xs W) (HR : Kd.C k43 W A m ys) (hl : xs.length + m ≤ 100000) (hw : Region.wanted op (yielded ops a.tmps) = true) (s y : Operand) (ho : op.op = .call { callee := .builtin .append, args := #[s, y], argTypes := #[24, 24] }) (hs : a.eval s = v) (hy : a.eval y = .slice A m c)
    (h : ∀ v1 w1, Kept1 v W v1 w1 → Ou k43 43 w0 v1 (xs ++ ys) w1 → Kc (a.put op.dst v1) w1) : if Region.wanted op (yielded ops a.tmps) = true then Oper.wp Tryz.prog op a W Kc Q else Kc (a.put op.dst undef) W :=
  Kd.R_append_rows_step k43 (w0 := w0) w0.heap.size hw s y 24 43 (.agg #[(.string ⟨#[]⟩), (.string ⟨#[]⟩), (.int .i64 0), (.int .i64 0)]) 48 ho Tryz.underlying24 info43 rfl (by decide) (by omega) v xs ys A m c (fun _ => True) (fun _ => False) hs hy H.r HR (fun _ _ h => h) (fun _ hk => hk.elim) (fun _ _ => trivial) H.b H.b.size (by omega) (fun v1 w1 hr hb hg hat => h v1 w1 ⟨hg, hat⟩ ⟨hr, hb⟩)
end
theorem addQ {l : List Pr} {p : Pr} (ho : okL l) (hp : okPair p) (m : mayP l = true) (m1 : mayP [p] = true) : addP l p = insQ l p :=
  up_ext (addP_up l p) (insQ_up (may_upP m)) fun x => by rw [addP_mem ho hp m m1, insQ_mem]
set_option maxHeartbeats 8000000 in
set_option maxRecDepth 100000 in
theorem rpadd_calls (A : Option Addr) (c : Nat) (l : List S43) (p : S43) (w : World) (hr0 : Kd.C k43 w A l.length l) (hc0 : l.length ≤ c) (hl : l.length ≤ 900) (ho : okL l) (hp : okPair p) (hs : smL l) (hs1 : p.f0.size ≤ 100 ∧ p.f1.size ≤ 100) :
    Calls Tryz.prog 42 #[.slice A l.length c, .agg #[.string p.f0, .string p.f1, .int .i64 p.f2.f0, .int .i64 p.f2.f1]] w fun e w' => ∃ v, e = .returned v ∧ Kd.R k43 43 w' w.heap.size (fun _ => True) v (addP l p) ∧ Below w.heap.size w w' := by
  have hu := Tryz.underlying43
  have HR := Aside0.mk hr0
  have K0 := Aside0.mk (fun (W : World) (hb : Below w.heap.size w W) => ref08_May.calls 3000 A c l (mayP l) W (Kd.C_below hr0 hb) hc0 (rmay_f 3000 l (by omega) (by omega) hs))
  have K1 := Aside0.mk (fun (W : World) (g : Nat) (h : W.heap[g]? = some (.cells #[.string p.f0, .string p.f1, .int .i64 p.f2.f0, .int .i64 p.f2.f1] 43)) => ref08_May.calls 300 (some ⟨g, 0, none⟩) 1 [p] (mayP [p]) W (C_oneP p h) (Nat.le_refl _) (rmay_f 300 [p] (by simp) (by simp) (fun x hx => by rw [List.mem_singleton.1 hx]; exact hs1)))
  have HQ : Aside0 (mayP l = true → mayP [p] = true → addP l p = insQ l p) := ⟨fun m m1 => addQ ho hp m m1⟩
  have HM : Aside0 (¬(mayP l = true ∧ mayP [p] = true) → addP l p = []) := ⟨fun h => by unfold addP; rw [if_neg (by simpa using h)]⟩
  generalize mayP l = m at *
  generalize mayP [p] = m1 at *
  clear hr0 hc0 ho hp hs hs1
  have hBX := Bx.new (Below.refl w.heap.size w) (.cells #[.string p.f0, .string p.f1, .int .i64 p.f2.f0, .int .i64 p.f2.f1] 43)
  go_enter Tryz.func42, Tryz.ntmps42
  go_wp2_with fail
  revert hBX
  generalize w.alloc (.cells #[.string p.f0, .string p.f1, .int .i64 p.f2.f0, .int .i64 p.f2.f1] 43) = W1
  generalize w.heap.size = g0
  intro hBX
  refine (K0.out _ hBX.b).mono ?_
  rintro e w1 ⟨rfl, hb⟩
  replace hBX := hBX.go hb
  clear hb K0
  have s0 := (blk_cell hBX.x 0).trans rfl; have s1 := (blk_cell hBX.x 1).trans rfl; have s2 := (blk_cell hBX.x 2).trans rfl; have s3 := (blk_cell hBX.x 3).trans rfl
  go_wp2_with fail
  have hg2 := blk_new w1 (.cells #[.string p.f0, .string p.f1, .int .i64 p.f2.f0, .int .i64 p.f2.f1] 43)
  replace hBX := hBX.go (below_alloc (Below.refl _ w1) (.cells #[.string p.f0, .string p.f1, .int .i64 p.f2.f0, .int .i64 p.f2.f1] 43))
  refine (K1.out _ _ hg2).mono ?_
  rintro e w2 ⟨rfl, hb⟩
  replace hBX := hBX.go hb
  clear hb K1 hg2 s0 s1 s2 s3
  by_cases hm : m = true ∧ m1 = true
  rotate_left
  · have HF := Aside0.mk (HM.out hm)
    have HB := Aside0.mk hBX.b
    clear HM HQ hBX
    cases m <;> cases m1
    rotate_right
    · exact absurd ⟨rfl, rfl⟩ hm
    all_goals
      clear hm
      go_wp2
      go_ret
      exact ⟨_, rfl, by rw [HF.out]; exact Kd.R_nil _ _ _ _ _, HB.out⟩
  obtain ⟨rfl, rfl⟩ := hm
  have HF := Aside0.mk (HQ.out rfl rfl)
  have HBX := Aside0.mk hBX
  clear HM HQ hBX
  have s0 := (blk_cell HBX.out.x 0).trans rfl; have s1 := (blk_cell HBX.out.x 1).trans rfl; have s2 := (blk_cell HBX.out.x 2).trans rfl; have s3 := (blk_cell HBX.out.x 3).trans rfl
  go_wp2_with fail
  go_region_law (first
    | (refine arPs (Ou.nil HBX.out.drew.b) (Kd.C_below HR.out HBX.out.drew.b) (by simp; omega) (by rfl) _ _ rfl rfl rfl ?_; intro v1 w3 hk1 ho1; have HN := Aside0.mk ho1; have hz := (hk1.box HBX.out.drew.x (by simp [Value.ownBlock])).1; have z0 := (blk_cell hz 0).trans rfl; have z1 := (blk_cell hz 1).trans rfl; have z2 := (blk_cell hz 2).trans rfl; have z3 := (blk_cell hz 3).trans rfl; clear hk1 ho1 hz)
    | (go_simp; go_at_call 93; refine (rpput_calls w v1 ([] ++ l) p w3 HN.out (by simp; omega)).mono ?_; rintro e w4 ⟨v2, rfl, ho2⟩; have HZ := Aside0.mk ho2; clear ho2))
  all_goals
    go_wp2
    go_ret
    exact ⟨_, rfl, by rw [HF.out]; exact HZ.out.r, HZ.out.b⟩
def heldQ (key elem : ByteArray) (x : Pr) : Bool := !goneB key elem x
theorem keepQ (key elem : ByteArray) (l : List Pr) : keepP key elem l = l.filter (heldQ key elem) := rfl
theorem filter_at (q : Pr → Bool) (l : List Pr) (j : Nat) (h : j < l.length) : (l.take (j + 1)).filter q = if q l[j] = true then (l.take j).filter q ++ [l[j]] else (l.take j).filter q := by
  rw [List.take_succ_eq_append_getElem h, List.filter_append]
  cases hq : q l[j] <;> simp [hq]
theorem filter_len (q : Pr → Bool) (l : List Pr) (j : Nat) : ((l.take j).filter q).length ≤ l.length := by
  have h2 := List.length_filter_le q (l.take j)
  rw [List.length_take] at h2
  omega
set_option maxHeartbeats 8000000 in
set_option maxRecDepth 100000 in
theorem rpdel_calls (A : Option Addr) (c : Nat) (l : List S43) (key elem : ByteArray) (w : World) (hr0 : Kd.C k43 w A l.length l) (hc0 : l.length ≤ c) (hl : l.length ≤ 900) (hs : smL l) :
    Calls Tryz.prog 43 #[.slice A l.length c, .string key, .string elem] w fun e w' => ∃ v, e = .returned v ∧ Kd.R k43 43 w' w.heap.size (fun _ => True) v (delP l key elem) ∧ Below w.heap.size w w' := by
  have hu := Tryz.underlying43
  have HR := Aside0.mk hr0
  have K0 := Aside0.mk (fun (W : World) (hb : Below w.heap.size w W) => ref08_May.calls 3000 A c l (mayP l) W (Kd.C_below hr0 hb) hc0 (rmay_f 3000 l (by omega) (by omega) hs))
  have HE : Aside0 (delP l key elem = if mayP l = true then l.filter (heldQ key elem) else []) := ⟨by unfold delP; rw [keepQ]⟩
  generalize mayP l = m at *
  clear hr0 hc0 hs
  have hB := Below.refl w.heap.size w
  have HB := Aside0.mk hB
  clear hB
  go_enter Tryz.func43, Tryz.ntmps43
  go_wp2_with fail
  refine (K0.out _ HB.out).mono ?_
  rintro e w1 ⟨rfl, hb⟩
  replace HB := Aside0.mk (below_step HB.out hb)
  clear hb K0
  have HO : Aside0 (Ou k43 43 w (.slice none 0 0) ((l.take 0).filter (heldQ key elem)) w1) := ⟨by simpa using Ou.nil HB.out⟩
  cases m with
  | false =>
    have HF : Aside0 (delP l key elem = []) := ⟨by rw [HE.out, if_neg (by simp)]⟩
    clear HE HO
    go_wp2
    go_loopw [8, 9] (fun v1 v2 wr => v1 = .slice none 0 0 ∧ v2 = .int .i64 0 ∧ Aside0 (Below w.heap.size w wr)) (fun _ _ _ => 0)
    case atStart => exact ⟨rfl, rfl, HB⟩
    case round =>
      clear HB
      obtain ⟨rfl, rfl, HB⟩ := hrel
      by_cases h0 : 0 < l.length
      · have x0 : decide (0 < l.length) = true := decide_eq_true h0
        clear h0
        go_wp2
        go_ret
        exact ⟨_, rfl, by rw [HF.out]; exact Kd.R_nil _ _ _ _ _, HB.out⟩
      · have x0 : decide (0 < l.length) = false := decide_eq_false h0
        clear h0
        go_wp2
        go_ret
        exact ⟨_, rfl, by rw [HF.out]; exact Kd.R_nil _ _ _ _ _, HB.out⟩
  | true =>
    have HF : Aside0 (delP l key elem = l.filter (heldQ key elem)) := ⟨by rw [HE.out, if_pos rfl]⟩
    clear HE HB
    go_wp2
    go_loopw [8, 9] (fun v1 v2 wr => ∃ (v : Value) (j : Nat), v1 = v ∧ v2 = .int .i64 j ∧ j ≤ l.length ∧ Aside0 (Ou k43 43 w v ((l.take j).filter (heldQ key elem)) wr)) (fun _ v2 _ => l.length - (intOf v2).toNat)
    case atStart => exact ⟨_, 0, rfl, rfl, Nat.zero_le _, HO⟩
    case round =>
      clear HO
      obtain ⟨v, j, hv, rfl, hj, HO⟩ := hrel
      subst hv
      by_cases hlt : j < l.length
      · obtain ⟨ad, e, hx0, hx1, hx2, hx3⟩ := at_T43 HR.out (j : Int) (by omega) (by omega)
        cases e
        rw [rdPN l j hlt] at hx0 hx1 hx2 hx3
        simp only [Int.toNat_natCast] at hx0 hx1 hx2 hx3
        have HG := Aside0.mk (filter_at (heldQ key elem) l j hlt)
        have hxl : ((l.take j).filter (heldQ key elem)).length ≤ 90000 := by have := filter_len (heldQ key elem) l j; omega
        have hj0 : (0 : Int) ≤ (j : Int) := by omega
        have hj1 : (j : Int) < (l.length : Int) := by omega
        generalize l[j] = x at *
        generalize (l.take j).filter (heldQ key elem) = xs at *
        have z0 := (HO.out.b.cell (World.block_lt_of_cell? w _ hx0)).trans hx0; have z1 := (HO.out.b.cell (World.block_lt_of_cell? w _ hx1)).trans hx1; have z2 := (HO.out.b.cell (World.block_lt_of_cell? w _ hx2)).trans hx2; have z3 := (HO.out.b.cell (World.block_lt_of_cell? w _ hx3)).trans hx3
        have HQ : Aside0 (heldQ key elem x = !((x.f0.toList == key.toList) && (x.f1.toList == elem.toList))) := ⟨rfl⟩
        have hk : (x.f0.toList == key.toList) = false ∨ (x.f0.toList == key.toList) = true ∧ ((x.f1.toList == elem.toList) = false ∨ (x.f1.toList == elem.toList) = true) := by
          cases x.f0.toList == key.toList <;> cases x.f1.toList == elem.toList <;> simp
        have b0 : (x.f0.toList != key.toList) = !(x.f0.toList == key.toList) := rfl
        have b1 : (x.f1.toList != elem.toList) = !(x.f1.toList == elem.toList) := rfl
        rcases hk with q0 | ⟨q0, q1 | q1⟩
        all_goals (rw [q0] at b0; try rw [q1] at b1)
        · have HE := Aside0.mk (HG.out.trans (if_pos (by rw [HQ.out, q0]; rfl)))
          clear HG HQ
          go_wp2_with (first | (at_builtin; refine apP x HO.out (by omega) rfl _ _ rfl rfl rfl ?_; intro v1 w3 hk1 ho1; replace HO := Aside0.mk ho1; rw [← HE.out] at HO; clear hk1 ho1))
          go_roundw
          case rel => exact ⟨_, j + 1, rfl, by go_num, by omega, HO⟩
          case measure => simp [intOf]; omega
        · have HE := Aside0.mk (HG.out.trans (if_pos (by rw [HQ.out, q0, q1]; rfl)))
          clear HG HQ
          go_wp2_with (first | (at_builtin; refine apP x HO.out (by omega) rfl _ _ rfl rfl rfl ?_; intro v1 w3 hk1 ho1; replace HO := Aside0.mk ho1; rw [← HE.out] at HO; clear hk1 ho1))
          go_roundw
          case rel => exact ⟨_, j + 1, rfl, by go_num, by omega, HO⟩
          case measure => simp [intOf]; omega
        · have HE := Aside0.mk (HG.out.trans (if_neg (by rw [HQ.out, q0, q1]; decide)))
          clear HG HQ
          rw [← HE.out] at HO
          clear HE
          go_wp2
          go_roundw
          case rel => exact ⟨_, j + 1, rfl, by go_num, by omega, HO⟩
          case measure => simp [intOf]; omega
      · have hjl : j = l.length := by omega
        subst hjl
        rw [List.take_length] at HO
        go_wp2
        go_ret
        exact ⟨_, rfl, by rw [HF.out]; exact HO.out.r, HO.out.b⟩
end Go.Proofs.YtmcddoolniaehaaGreat.S
end
section
namespace Go.Proofs.YtmcddoolniaehaaGreat.S
open Go.RowKit Go.Proofs.YtmcddoolniaehaaGreatW.PrintWords Go.Proofs.YtmcddoolniaehaaGreatW.PrintLast Go.Proofs.YtmcddoolniaehaaGreatW.PrintMore Go.Proofs.YtmcddoolniaehaaGreatW
set_option linter.unusedVariables false
set_option linter.unusedSimpArgs false
def goP (r : Rg) : Bool → List Rg → List Rg
  | d, [] => if d then [] else [r]
  | d, x :: l => (if d = false ∧ Op.bytesLess r.f0.toList x.f0.toList = true then [r] else []) ++ (if x.f0 = r.f0 then (if newerB r x then r else x) :: goP r true l else x :: goP r (d || Op.bytesLess r.f0.toList x.f0.toList) l)
theorem goP_done (r : Rg) : ∀ l : List Rg, (∀ y ∈ l, y.f0 ≠ r.f0) → goP r true l = l
  | [], _ => rfl
  | x :: l, h => by
    unfold goP
    rw [if_neg (by simp), if_neg (h x List.mem_cons_self), Bool.true_or, goP_done r l fun y hy => h y (List.mem_cons_of_mem _ hy)]
    rfl
theorem goP_put (r : Rg) : ∀ l : List Rg, l.Pairwise kLt → goP r false l = putR l r
  | [], _ => rfl
  | x :: l, hp => by
    rw [List.pairwise_cons] at hp
    have ih := goP_put r l hp.2
    unfold goP putR
    cases hx : Op.bytesLess x.f0.toList r.f0.toList with
    | true =>
      have hrx : Op.bytesLess r.f0.toList x.f0.toList = false := less_asymm hx
      have hne : x.f0 ≠ r.f0 := fun e => by rw [e, less_irrefl] at hx; cases hx
      rw [hrx, if_neg hne, if_neg (by simp)]
      simp [ih]
    | false =>
      by_cases he : x.f0 = r.f0
      · have hrx : Op.bytesLess r.f0.toList x.f0.toList = false := by rw [he, less_irrefl]
        rw [hrx, if_pos he, if_neg (show ¬(false = false ∧ false = true) by simp), goP_done r l fun y hy e => lt_ne (hp.1 y hy) (he.trans e.symm), if_neg (show ¬false = true by simp), if_pos he]
        cases newerB r x <;> simp
      · have hrx : Op.bytesLess r.f0.toList x.f0.toList = true := by
          cases q : Op.bytesLess r.f0.toList x.f0.toList with
          | true => rfl
          | false => exact absurd (toList_inj (less_antisymm hx q)) he
        rw [hrx, if_neg he, Bool.or_true, if_pos ⟨rfl, rfl⟩, if_neg (by simp), if_neg he, goP_done r l fun y hy e => by
          have := less_trans hrx (hp.1 y hy)
          rw [e, less_irrefl] at this; cases this]
        rfl
open Classical in
noncomputable def ref07_Put.f (k : Nat) (l : List S47) (a b : ByteArray) (c d e : Int) : Option (List S47) := if l.length ≤ 1000 ∧ (∀ x ∈ l, smallR x) ∧ smallR ⟨a, b, c, ⟨d, e⟩⟩ then some (putO l ⟨a, b, c, ⟨d, e⟩⟩) else none
theorem ref07_Put.mono : ∀ a0 a1 a2 a3 a4 a5 k, LeO (ref07_Put.f k a0 a1 a2 a3 a4 a5) (ref07_Put.f (k + 1) a0 a1 a2 a3 a4 a5) := fun _ _ _ _ _ _ _ _ h => h
theorem putRef_f (k : Nat) (l : List Rg) (r : Rg) (hk : 3 * l.length + 110 < k) (hl : l.length < 1000) (ho : ∀ x ∈ l, smallR x) (hr : smallR r) : ref07_Put.f k l r.f0 r.f1 r.f2 r.f3.f0 r.f3.f1 = some (putO l r) := by
  unfold ref07_Put.f
  rw [if_pos ⟨by omega, ho, hr⟩]
theorem rdN (l : List Rg) (j : Nat) (h : j < l.length) : rd_T47 l (j : Int) = l[j] := by simp [rd_T47, List.getD_eq_getElem?_getD, h]
set_option maxHeartbeats 16000000 in
set_option maxRecDepth 100000 in
theorem rput_calls (A0 : Option Addr) (c0 : Nat) (l : List S47) (r : S47) (w : World) (hr0 : Kd.C k47 w A0 l.length l) (hc0 : l.length ≤ c0) (hl : l.length ≤ 1000) (hs : ∀ x ∈ l, smallR x) (hr : smallR r) :
    Calls Tryz.prog 41 #[.slice A0 l.length c0, .agg #[.string r.f0, .string r.f1, .int .i64 r.f2, .int .i64 r.f3.f0, .int .i64 r.f3.f1]] w fun e w' => ∃ v, e = .returned v ∧ Kd.R k47 47 w' w.heap.size (fun _ => True) v (putO l r) ∧ Below w.heap.size w w' := by
  have hu := Tryz.underlying47
  have HR := Aside0.mk hr0
  have K0 := Aside0.mk (fun (W : World) (hb : Below w.heap.size w W) => ref07_May.calls 1200 A0 c0 l (mayB l) W (Kd.C_below hr0 hb) hc0 (mayRef_f 1200 l (by omega) (by omega) hs))
  have K1 := Aside0.mk (fun (W : World) => ref07_one.calls 1200 r.f0 r.f1 r.f2 r.f3.f0 r.f3.f1 (oneB r) W (oneRef_f r 1200 hr (by omega)))
  have K2 := Aside0.mk (fun (x : Rg) (W : World) => ref07_Newer.calls _ _ _ _ _ _ _ _ _ _ _ W (newerRef_f r x))
  have HU := Aside0.mk (fun (h : mayB l = true) => goP_put r l ((mayB_iff l).1 h).2)
  clear hr0 hc0 hs hr
  obtain ⟨m, hm⟩ : ∃ m, m = mayB l := ⟨_, rfl⟩
  obtain ⟨o1, ho1⟩ : ∃ o, o = oneB r := ⟨_, rfl⟩
  have HE := Aside0.mk (show putO l r = if m && o1 then putR l r else [] by rw [hm, ho1, ← putL_eq]; rfl)
  rw [← hm] at K0 HU
  rw [← ho1] at K1
  clear hm ho1
  have hBX := Bx.new (Below.refl w.heap.size w) (.cells #[.string r.f0, .string r.f1, .int .i64 r.f2, .int .i64 r.f3.f0, .int .i64 r.f3.f1] 47)
  go_enter Tryz.func41, Tryz.ntmps41
  go_wp2_with fail
  revert hBX
  generalize w.alloc (.cells #[.string r.f0, .string r.f1, .int .i64 r.f2, .int .i64 r.f3.f0, .int .i64 r.f3.f1] 47) = W1
  generalize w.heap.size = g0
  intro hBX
  refine (K0.out _ hBX.b).mono ?_
  rintro e w1 ⟨rfl, hb⟩
  replace hBX := hBX.go hb
  clear hb K0
  have s0 := (blk_cell hBX.x 0).trans rfl; have s1 := (blk_cell hBX.x 1).trans rfl; have s2 := (blk_cell hBX.x 2).trans rfl; have s3 := (blk_cell hBX.x 3).trans rfl; have s4 := (blk_cell hBX.x 4).trans rfl
  go_wp2_with fail
  refine (K1.out _).mono ?_
  rintro e w2 ⟨rfl, hb⟩
  replace hBX := hBX.go hb
  clear hb K1 s0 s1 s2 s3 s4
  by_cases hmo : m = true ∧ o1 = true
  rotate_left
  · have HF : Aside0 (putO l r = []) := ⟨by rw [HE.out]; revert hmo; cases m <;> cases o1 <;> simp⟩
    clear HE HU K2
    cases m <;> cases o1
    rotate_right
    · exact absurd ⟨rfl, rfl⟩ hmo
    all_goals
      clear hmo
      go_wp2
      go_ret
      exact ⟨_, rfl, by rw [HF.out]; exact Kd.R_nil _ _ _ _ _, hBX.b⟩
  obtain ⟨rfl, rfl⟩ := hmo
  have HU2 : Aside0 (putO l r = goP r false l) := ⟨by rw [HE.out, HU.out rfl]; rfl⟩
  have HO := Aside0.mk (show Ob k47 47 w g0 _ (.slice none 0 0) [] w2 from ⟨Ou.nil hBX.b, hBX.x, by simp [Value.ownBlock]⟩)
  clear HE HU hBX
  go_wp2
  go_loopw [7, 8, 9] (fun v7 v8 v9 wr => ∃ (v : Value) (d : Bool) (j : Nat) (xs : List Rg), v7 = v ∧ v8 = .bool d ∧ v9 = .int .i64 j ∧ j ≤ l.length ∧ Aside0 (putO l r = xs ++ goP r d (l.drop j)) ∧ Aside0 (xs.length ≤ 2 * j) ∧ Aside0 (Ob k47 47 w g0 (.cells #[.string r.f0, .string r.f1, .int .i64 r.f2, .int .i64 r.f3.f0, .int .i64 r.f3.f1] 47) v xs wr)) (fun _ _ v9 _ => l.length - (intOf v9).toNat)
  case atStart => exact ⟨_, _, 0, [], rfl, rfl, rfl, Nat.zero_le _, HU2, ⟨by simp⟩, HO⟩
  case round =>
    clear HU2 HO
    obtain ⟨v, d, j, xs, rfl, rfl, rfl, hj, HG, HL, HO⟩ := hrel
    by_cases hlt : j < l.length
    · obtain ⟨ad, e, hx0, hx1, hx2, hx3, hx4⟩ := at_T47 HR.out (j : Int) (by omega) (by omega)
      cases e
      rw [rdN l j hlt] at hx0 hx1 hx2 hx3 hx4
      simp only [Int.toNat_natCast] at hx0 hx1 hx2 hx3 hx4
      have HG2 : Aside0 (putO l r = xs ++ goP r d (l[j] :: l.drop (j + 1))) := ⟨by rw [HG.out, List.drop_eq_getElem_cons hlt]⟩
      have hj0 : (0 : Int) ≤ (j : Int) := by omega
      have hj1 : (j : Int) < (l.length : Int) := by omega
      have hxl : xs.length ≤ 90000 := by have := HL.out; omega
      clear HG
      generalize l[j] = x at *
      obtain ⟨b1, hb1⟩ : ∃ b, Op.bytesLess r.f0.toList x.f0.toList = b := ⟨_, rfl⟩
      obtain ⟨nw, hnw⟩ : ∃ b, b = newerB r x := ⟨_, rfl⟩
      have K3 := Aside0.mk (K2.out x)
      rw [← hnw] at K3
      have HN := Aside0.mk hnw.symm
      clear hnw
      have hD : d = true ∨ d = false ∧ (b1 = false ∨ b1 = true) := by cases d <;> cases b1 <;> simp
      rcases hD with rfl | ⟨rfl, rfl | rfl⟩
      all_goals
        go_wp2_with fail
        refine in_ (n := 12) (S := Ob k47 47 w g0 _ _ _) (by kernel_rfl) rfl HO.out.drew (fun hHeld => ?_)
        repeat (first
          | (refine run_ (v := ?_) (a' := ?_) rfl rfl hHeld ?_ ?_ ?_; rotate_left; (focus (intro w2 hs; have s0 := (blk_cell hs.x 0).trans rfl; have u0 := (hs.b.cell (World.block_lt_of_cell? w _ hx0)).trans hx0; go_simp; with_reducible rfl)); rotate_left; (focus (simp only [Act.put, sqA, sqB, sqC] <;> rfl)))
          | (refine skip_ (a' := ?_) rfl rfl hHeld ?_ ?_; rotate_left; (focus (simp only [Act.put, sqA, sqB, sqC] <;> rfl))))
        refine wpAnyH_done (by kernel_rfl) ?_ _
        replace HO := Aside0.mk hHeld
        clear hHeld
        have s0 := (blk_cell HO.out.x 0).trans rfl; have s1 := (blk_cell HO.out.x 1).trans rfl; have s2 := (blk_cell HO.out.x 2).trans rfl; have s3 := (blk_cell HO.out.x 3).trans rfl; have s4 := (blk_cell HO.out.x 4).trans rfl
        go_wp2_with (first | (at_builtin; refine apR r HO.out.toOu (by first | omega | (simp; omega)) rfl _ _ rfl rfl rfl ?_; intro v1 w3 hk1 ho1; replace HO := Aside0.mk (HO.out.kept ho1 hk1); clear hk1 ho1))
        clear s0 s1 s2 s3 s4
        by_cases heq : x.f0 = r.f0
        · have q0 : (x.f0.toList == r.f0.toList) = true := by rw [heq]; simp
          have q1 : (x.f0.toList != r.f0.toList) = false := by rw [heq]; simp
          have HEQ := Aside0.mk heq
          clear heq
          refine in_ (n := 8) (S := Ob k47 47 w g0 _ _ _) (by kernel_rfl) rfl HO.out.drew (fun hHeld => ?_)
          repeat (first
            | (refine run_ (v := ?_) (a' := ?_) rfl rfl hHeld ?_ ?_ ?_; rotate_left; (focus (intro w2 hs; have s0 := (blk_cell hs.x 0).trans rfl; have u0 := (hs.b.cell (World.block_lt_of_cell? w _ hx0)).trans hx0; go_simp; with_reducible rfl)); rotate_left; (focus (simp only [Act.put, sqA, sqB, sqC] <;> rfl)))
            | (refine skip_ (a' := ?_) rfl rfl hHeld ?_ ?_; rotate_left; (focus (simp only [Act.put, sqA, sqB, sqC] <;> rfl))))
          refine wpAnyH_done (by kernel_rfl) ?_ _
          replace HO := Aside0.mk hHeld
          clear hHeld
          go_wp2_with fail
          refine in_ (n := 7) (S := Ob k47 47 w g0 _ _ _) (by kernel_rfl) rfl HO.out.drew (fun hHeld => ?_)
          repeat (first
            | (refine run_ (v := ?_) (a' := ?_) rfl rfl hHeld ?_ ?_ ?_; rotate_left; (focus (intro w2 hs; have s0 := (blk_cell hs.x 0).trans rfl; have s1 := (blk_cell hs.x 1).trans rfl; have s2 := (blk_cell hs.x 2).trans rfl; have s3 := (blk_cell hs.x 3).trans rfl; have s4 := (blk_cell hs.x 4).trans rfl; have u0 := (hs.b.cell (World.block_lt_of_cell? w _ hx0)).trans hx0; have u1 := (hs.b.cell (World.block_lt_of_cell? w _ hx1)).trans hx1; have u2 := (hs.b.cell (World.block_lt_of_cell? w _ hx2)).trans hx2; have u3 := (hs.b.cell (World.block_lt_of_cell? w _ hx3)).trans hx3; have u4 := (hs.b.cell (World.block_lt_of_cell? w _ hx4)).trans hx4; go_simp; with_reducible rfl)); rotate_left; (focus (simp only [Act.put, sqA, sqB, sqC] <;> rfl)))
            | (refine skip_ (a' := ?_) rfl rfl hHeld ?_ ?_; rotate_left; (focus (simp only [Act.put, sqA, sqB, sqC] <;> rfl)))
            | (refine ask_ rfl rfl (fun K hK => ?_); go_simp; (first | (go_at_call 92; with_reducible refine (K3.out _).mono ?_)); rintro e1 w1 ⟨rfl, hb⟩; replace hHeld := hHeld.go hb; go_wp2_with fail; refine hK.out _ _ hHeld (fun _ => ?_); clear hK K hb; try simp only [Act.put, sqA, sqB, sqC]))
          refine wpAnyH_done (by kernel_rfl) ?_ _
          replace HO := Aside0.mk hHeld
          clear hHeld K3
          have hz := HO.out.b
          replace hx0 := (hz.cell (World.block_lt_of_cell? w _ hx0)).trans hx0; replace hx1 := (hz.cell (World.block_lt_of_cell? w _ hx1)).trans hx1; replace hx2 := (hz.cell (World.block_lt_of_cell? w _ hx2)).trans hx2; replace hx3 := (hz.cell (World.block_lt_of_cell? w _ hx3)).trans hx3; replace hx4 := (hz.cell (World.block_lt_of_cell? w _ hx4)).trans hx4
          clear hz
          have s0 := (blk_cell HO.out.x 0).trans rfl; have s1 := (blk_cell HO.out.x 1).trans rfl; have s2 := (blk_cell HO.out.x 2).trans rfl; have s3 := (blk_cell HO.out.x 3).trans rfl; have s4 := (blk_cell HO.out.x 4).trans rfl
          cases nw
          all_goals
            go_wp2_with (first | (at_builtin; refine apR r HO.out.toOu (by first | omega | (simp; omega)) rfl _ _ rfl rfl rfl ?_; intro v1 w3 hk1 ho1; replace HO := Aside0.mk (HO.out.kept ho1 hk1); clear hk1 ho1) | (at_builtin; refine apR x HO.out.toOu (by first | omega | (simp; omega)) rfl _ _ rfl rfl rfl ?_; intro v1 w3 hk1 ho1; replace HO := Aside0.mk (HO.out.kept ho1 hk1); clear hk1 ho1))
            go_roundw
            case rel => exact ⟨_, _, j + 1, _, rfl, rfl, by go_num, by omega, ⟨by rw [HG2.out]; simp only [goP]; rw [if_pos HEQ.out]; simp [hb1, HN.out]⟩, ⟨by have := HL.out; simp; omega⟩, HO⟩
            case measure => simp [intOf]; omega
        · have q0 : (x.f0.toList == r.f0.toList) = false := beq_eq_false_iff_ne.mpr fun e => heq (toList_inj e)
          have q1 : (x.f0.toList != r.f0.toList) = true := bne_iff_ne.mpr fun e => heq (toList_inj e)
          refine in_ (n := 8) (S := Ob k47 47 w g0 _ _ _) (by kernel_rfl) rfl HO.out.drew (fun hHeld => ?_)
          repeat (first
            | (refine run_ (v := ?_) (a' := ?_) rfl rfl hHeld ?_ ?_ ?_; rotate_left; (focus (intro w2 hs; have s0 := (blk_cell hs.x 0).trans rfl; have u0 := (hs.b.cell (World.block_lt_of_cell? w _ hx0)).trans hx0; go_simp; with_reducible rfl)); rotate_left; (focus (simp only [Act.put, sqA, sqB, sqC] <;> rfl)))
            | (refine skip_ (a' := ?_) rfl rfl hHeld ?_ ?_; rotate_left; (focus (simp only [Act.put, sqA, sqB, sqC] <;> rfl))))
          refine wpAnyH_done (by kernel_rfl) ?_ _
          replace HO := Aside0.mk hHeld
          clear hHeld K3
          have hz := HO.out.b
          replace hx0 := (hz.cell (World.block_lt_of_cell? w _ hx0)).trans hx0; replace hx1 := (hz.cell (World.block_lt_of_cell? w _ hx1)).trans hx1; replace hx2 := (hz.cell (World.block_lt_of_cell? w _ hx2)).trans hx2; replace hx3 := (hz.cell (World.block_lt_of_cell? w _ hx3)).trans hx3; replace hx4 := (hz.cell (World.block_lt_of_cell? w _ hx4)).trans hx4
          clear hz
          go_wp2_with (first | (at_builtin; refine apR x HO.out.toOu (by first | omega | (simp; omega)) rfl _ _ rfl rfl rfl ?_; intro v1 w3 hk1 ho1; replace HO := Aside0.mk (HO.out.kept ho1 hk1); clear hk1 ho1))
          go_roundw
          case rel => exact ⟨_, _, j + 1, _, rfl, rfl, by go_num, by omega, ⟨by rw [HG2.out]; simp only [goP]; rw [if_neg heq]; simp [hb1]⟩, ⟨by have := HL.out; simp; omega⟩, HO⟩
          case measure => simp [intOf]; omega
    · have hjl : j = l.length := by omega
      subst hjl
      rw [List.drop_length] at HG
      have hxl : xs.length ≤ 90000 := by have := HL.out; omega
      have s0 := (blk_cell HO.out.x 0).trans rfl; have s1 := (blk_cell HO.out.x 1).trans rfl; have s2 := (blk_cell HO.out.x 2).trans rfl; have s3 := (blk_cell HO.out.x 3).trans rfl; have s4 := (blk_cell HO.out.x 4).trans rfl
      cases d
      all_goals
        go_wp2_with (first | (at_builtin; refine apR r HO.out.toOu (by first | omega | (simp; omega)) rfl _ _ rfl rfl rfl ?_; intro v1 w3 hk1 ho1; replace HO := Aside0.mk (HO.out.kept ho1 hk1); clear hk1 ho1))
        go_ret
        exact ⟨_, rfl, by rw [HG.out]; simpa [goP] using HO.out.r, HO.out.b⟩
theorem ref07_Put.calls (k : Nat) (A0 : Option Addr) (c0 : Nat) (l0 : List S47) (a1_0 : ByteArray) (a1_1 : ByteArray) (a1_2 : Int) (a1_3 : Int) (a1_4 : Int) (r : List S47) (w : World) (hr0 : Kd.C k47 w A0 l0.length l0) (hc0 : l0.length ≤ c0) (h : ref07_Put.f k l0 a1_0 a1_1 a1_2 a1_3 a1_4 = some r) :
    Calls Tryz.prog 41 #[.slice A0 l0.length c0, .agg #[.string a1_0, .string a1_1, .int .i64 a1_2, .int .i64 a1_3, .int .i64 a1_4]] w fun e w' => ∃ v0_ : Value, e = .returned (v0_) ∧ Kd.R k47 47 w' w.heap.size (fun _ => True) v0_ r ∧ Below w.heap.size w w' := by
  unfold ref07_Put.f at h
  split at h
  case isFalse => cases h
  case isTrue hh =>
  cases h
  exact rput_calls A0 c0 l0 ⟨a1_0, a1_1, a1_2, ⟨a1_3, a1_4⟩⟩ w hr0 hc0 hh.1 hh.2.1 hh.2.2
end Go.Proofs.YtmcddoolniaehaaGreat.S
end
section
namespace Go.Proofs.YtmcddoolniaehaaGreat.S
open Go.RowKit Go.Proofs.YtmcddoolniaehaaGreatW.PrintWords Go.Proofs.YtmcddoolniaehaaGreatW.PrintLast Go.Proofs.YtmcddoolniaehaaGreatW.PrintMore
attribute [local go_sem] max2_int min2_int max_two min_two max_three min_three max_four min_four   -- for this text's walks alone
set_option linter.unusedVariables false
set_option linter.unusedSimpArgs false

def ref09_Event.f (a0_0 : Int) (a0_1 : Int) : Option (Bool) := if a0_0 ≥ 0 then (if a0_0 < 8 then (if a0_1 ≥ 1 then (some (decide (a0_1 ≤ 1048576))) else (some false)) else (some false)) else (some false)
set_option maxHeartbeats 8000000 in
set_option maxRecDepth 100000 in
theorem ref09_Event.calls (a0_0 : Int) (a0_1 : Int) (r : Bool) (w : World) (h : ref09_Event.f a0_0 a0_1 = some r) :
  Calls Tryz.prog 39 #[.agg #[.int .i64 a0_0, .int .i64 a0_1]] w fun e w' => e = .returned (.bool r) ∧ Below w.heap.size w w' := by
 have hu30 := Tryz.underlying30
 have HB := Aside0.mk (Below.refl w.heap.size w)
 have H : (if a0_0 ≥ 0 then (if a0_0 < 8 then (if a0_1 ≥ 1 then (some (decide (a0_1 ≤ 1048576))) else (some false)) else (some false)) else (some false)) = some r := h
 clear h
 by_cases c2 : a0_0 ≥ 0
 ·rw [if_pos c2] at H
  have c2b0 : decide (0 ≤ a0_0) = true := decide_eq_true c2
  clear c2
  by_cases c3 : a0_0 < 8
  ·rw [if_pos c3] at H
   have c3b0 : decide (a0_0 < 8) = true := decide_eq_true c3
   clear c3
   by_cases c4 : a0_1 ≥ 1
   ·rw [if_pos c4] at H
    have c4b0 : decide (1 ≤ a0_1) = true := decide_eq_true c4
    clear c4
    obtain rfl := Option.some.inj H
    go_enter Tryz.func39, Tryz.ntmps39
    go_wp2_with (first | ((with_reducible refine gate_dst (N := 1) rfl ?_); refine box_event ?hg (N := 1) ?hd (cs := #[.int .i64 a0_0, .int .i64 a0_1]) (t := 30) ?hr ?_; (case hd => rfl); (case hg => rfl); (case hr => first | (go_simp; done) | (go_simp; rfl)); intro gb211 hg w5 hbox hb; have n0_ := Aside0.mk (below_step (by repeat (first | (with_reducible first | exact HB.out | apply below_alloc | apply pw_below_drewN | apply below_drew1) | exact HB.out)) hb); have n1_ := Aside0.mk (hbox); have n2_ := Aside0.mk ((by rw [hg]; exact (below_size (by repeat (first | (with_reducible first | exact HB.out | apply below_alloc | apply pw_below_drewN | apply below_drew1) | exact HB.out))) : w.heap.size ≤ gb211)); have n3_ := Aside0.mk ((by rw [hg]; exact (below_size (by repeat (first | (with_reducible first | exact HB.out | apply below_alloc | apply pw_below_drewN | apply below_drew1) | exact HB.out))) : w.heap.size ≤ gb211)); clear HB; have HB := n0_; have BK211 := n1_; have GW211 := n2_; have GE211 := n3_; clear n0_ n1_ n2_ n3_; clear hb hbox hg; have hcz6_0 : w5.cell? ⟨gb211, 0, none⟩ = some (.int .i64 a0_0) := (blk_cell BK211.out 0).trans rfl; have hcz6_1 : w5.cell? ⟨gb211, 1, none⟩ = some (.int .i64 a0_1) := (blk_cell BK211.out 1).trans rfl; have hfz6_0 := blk_frozen BK211.out 0; have hfz6_1 := blk_frozen BK211.out 1))
    go_ret
    exact ⟨by first | rfl | (simp [errW_none, errW_some] <;> rfl) | (simp [*, errW_none, errW_some] <;> rfl), by repeat (first | (with_reducible first | exact HB.out | apply below_alloc | apply pw_below_drewN | apply below_drew1 | refine below_set ?_ GE211.out) | exact HB.out)⟩
   ·rw [if_neg c4] at H
    have c4b0 : decide (1 ≤ a0_1) = false := decide_eq_false c4
    clear c4
    obtain rfl := Option.some.inj H
    go_enter Tryz.func39, Tryz.ntmps39
    go_wp2_with (first | ((with_reducible refine gate_dst (N := 1) rfl ?_); refine box_event ?hg (N := 1) ?hd (cs := #[.int .i64 a0_0, .int .i64 a0_1]) (t := 30) ?hr ?_; (case hd => rfl); (case hg => rfl); (case hr => first | (go_simp; done) | (go_simp; rfl)); intro gb211 hg w7 hbox hb; have n0_ := Aside0.mk (below_step (by repeat (first | (with_reducible first | exact HB.out | apply below_alloc | apply pw_below_drewN | apply below_drew1) | exact HB.out)) hb); have n1_ := Aside0.mk (hbox); have n2_ := Aside0.mk ((by rw [hg]; exact (below_size (by repeat (first | (with_reducible first | exact HB.out | apply below_alloc | apply pw_below_drewN | apply below_drew1) | exact HB.out))) : w.heap.size ≤ gb211)); have n3_ := Aside0.mk ((by rw [hg]; exact (below_size (by repeat (first | (with_reducible first | exact HB.out | apply below_alloc | apply pw_below_drewN | apply below_drew1) | exact HB.out))) : w.heap.size ≤ gb211)); clear HB; have HB := n0_; have BK211 := n1_; have GW211 := n2_; have GE211 := n3_; clear n0_ n1_ n2_ n3_; clear hb hbox hg; have hcz8_0 : w7.cell? ⟨gb211, 0, none⟩ = some (.int .i64 a0_0) := (blk_cell BK211.out 0).trans rfl; have hcz8_1 : w7.cell? ⟨gb211, 1, none⟩ = some (.int .i64 a0_1) := (blk_cell BK211.out 1).trans rfl; have hfz8_0 := blk_frozen BK211.out 0; have hfz8_1 := blk_frozen BK211.out 1))
    go_ret
    exact ⟨by first | rfl | (simp [errW_none, errW_some] <;> rfl) | (simp [*, errW_none, errW_some] <;> rfl), by repeat (first | (with_reducible first | exact HB.out | apply below_alloc | apply pw_below_drewN | apply below_drew1 | refine below_set ?_ GE211.out) | exact HB.out)⟩
  ·rw [if_neg c3] at H
   have c3b0 : decide (a0_0 < 8) = false := decide_eq_false c3
   clear c3
   obtain rfl := Option.some.inj H
   go_enter Tryz.func39, Tryz.ntmps39
   go_wp2_with (first | ((with_reducible refine gate_dst (N := 1) rfl ?_); refine box_event ?hg (N := 1) ?hd (cs := #[.int .i64 a0_0, .int .i64 a0_1]) (t := 30) ?hr ?_; (case hd => rfl); (case hg => rfl); (case hr => first | (go_simp; done) | (go_simp; rfl)); intro gb211 hg w9 hbox hb; have n0_ := Aside0.mk (below_step (by repeat (first | (with_reducible first | exact HB.out | apply below_alloc | apply pw_below_drewN | apply below_drew1) | exact HB.out)) hb); have n1_ := Aside0.mk (hbox); have n2_ := Aside0.mk ((by rw [hg]; exact (below_size (by repeat (first | (with_reducible first | exact HB.out | apply below_alloc | apply pw_below_drewN | apply below_drew1) | exact HB.out))) : w.heap.size ≤ gb211)); have n3_ := Aside0.mk ((by rw [hg]; exact (below_size (by repeat (first | (with_reducible first | exact HB.out | apply below_alloc | apply pw_below_drewN | apply below_drew1) | exact HB.out))) : w.heap.size ≤ gb211)); clear HB; have HB := n0_; have BK211 := n1_; have GW211 := n2_; have GE211 := n3_; clear n0_ n1_ n2_ n3_; clear hb hbox hg; have hcz10_0 : w9.cell? ⟨gb211, 0, none⟩ = some (.int .i64 a0_0) := (blk_cell BK211.out 0).trans rfl; have hcz10_1 : w9.cell? ⟨gb211, 1, none⟩ = some (.int .i64 a0_1) := (blk_cell BK211.out 1).trans rfl; have hfz10_0 := blk_frozen BK211.out 0; have hfz10_1 := blk_frozen BK211.out 1))
   go_ret
   exact ⟨by first | rfl | (simp [errW_none, errW_some] <;> rfl) | (simp [*, errW_none, errW_some] <;> rfl), by repeat (first | (with_reducible first | exact HB.out | apply below_alloc | apply pw_below_drewN | apply below_drew1 | refine below_set ?_ GE211.out) | exact HB.out)⟩
 ·rw [if_neg c2] at H
  have c2b0 : decide (0 ≤ a0_0) = false := decide_eq_false c2
  clear c2
  obtain rfl := Option.some.inj H
  go_enter Tryz.func39, Tryz.ntmps39
  go_wp2_with (first | ((with_reducible refine gate_dst (N := 1) rfl ?_); refine box_event ?hg (N := 1) ?hd (cs := #[.int .i64 a0_0, .int .i64 a0_1]) (t := 30) ?hr ?_; (case hd => rfl); (case hg => rfl); (case hr => first | (go_simp; done) | (go_simp; rfl)); intro gb211 hg w11 hbox hb; have n0_ := Aside0.mk (below_step (by repeat (first | (with_reducible first | exact HB.out | apply below_alloc | apply pw_below_drewN | apply below_drew1) | exact HB.out)) hb); have n1_ := Aside0.mk (hbox); have n2_ := Aside0.mk ((by rw [hg]; exact (below_size (by repeat (first | (with_reducible first | exact HB.out | apply below_alloc | apply pw_below_drewN | apply below_drew1) | exact HB.out))) : w.heap.size ≤ gb211)); have n3_ := Aside0.mk ((by rw [hg]; exact (below_size (by repeat (first | (with_reducible first | exact HB.out | apply below_alloc | apply pw_below_drewN | apply below_drew1) | exact HB.out))) : w.heap.size ≤ gb211)); clear HB; have HB := n0_; have BK211 := n1_; have GW211 := n2_; have GE211 := n3_; clear n0_ n1_ n2_ n3_; clear hb hbox hg; have hcz12_0 : w11.cell? ⟨gb211, 0, none⟩ = some (.int .i64 a0_0) := (blk_cell BK211.out 0).trans rfl; have hcz12_1 : w11.cell? ⟨gb211, 1, none⟩ = some (.int .i64 a0_1) := (blk_cell BK211.out 1).trans rfl; have hfz12_0 := blk_frozen BK211.out 0; have hfz12_1 := blk_frozen BK211.out 1))
  go_ret
  exact ⟨by first | rfl | (simp [errW_none, errW_some] <;> rfl) | (simp [*, errW_none, errW_some] <;> rfl), by repeat (first | (with_reducible first | exact HB.out | apply below_alloc | apply pw_below_drewN | apply below_drew1 | refine below_set ?_ GE211.out) | exact HB.out)⟩

end Go.Proofs.YtmcddoolniaehaaGreat.S
end
section
namespace Go.Proofs.YtmcddoolniaehaaGreat.S
open Go.RowKit Go.Proofs.YtmcddoolniaehaaGreatW.PrintWords Go.Proofs.YtmcddoolniaehaaGreatW.PrintLast Go.Proofs.YtmcddoolniaehaaGreatW.PrintMore Go.Proofs.YtmcddoolniaehaaGreatW
set_option linter.unusedVariables false
set_option linter.unusedSimpArgs false
theorem rev_f (node seq : Int) : ref09_Event.f node seq = some (eventB node seq) := by
  unfold ref09_Event.f eventB
  by_cases h0 : node ≥ 0
  · rw [if_pos h0]
    by_cases h1 : node < 8
    · rw [if_pos h1]
      by_cases h2 : seq ≥ 1
      · rw [if_pos h2]
        have : 0 < seq := by omega
        simp [h0, h1, this]
      · rw [if_neg h2]
        have : ¬ 0 < seq := by omega
        simp [this]
    · rw [if_neg h1]; simp [h1]
  · rw [if_neg h0]
    have : ¬ 0 ≤ node := by omega
    simp [this]
set_option maxHeartbeats 16000000 in
set_option maxRecDepth 100000 in
theorem r9do_calls {w : World} {cs : List Value} {s : St} {key elem : ByteArray} (k n node seq gen : Int) (hv : StV w cs s) (h : FitR s) (hi : inL s.c) (hk1 : key.size ≤ 100) (hk2 : elem.size ≤ 100) :
    Calls Tryz.prog 12 #[.agg cs.toArray, .agg #[.int .i64 k, .string key, .string elem, .int .i64 n], .agg #[.int .i64 node, .int .i64 seq], .int .i64 gen] w fun e w' => ∃ rs : List Value, e = .returned (.tuple #[.agg rs.toArray, .int .i64 (doS s k key elem n node seq gen).2]) ∧ StV w' rs (doS s k key elem n node seq gen).1 ∧ Below w.heap.size w w' := by
  have HM := Aside0.mk (fun (W : World) (hb : Below w.heap.size w W) => rmay_calls (hv.below hb) h)
  obtain ⟨A0, a0, A1, a1, A2, a2, rfl, h1, h2, h3, h4, h5, h6⟩ := hv
  obtain ⟨⟨⟨l0, l1, l2⟩, q0, q1, qo⟩, qp⟩ := h
  have KO := Aside0.mk (fun W : World => r05_calls k key elem n W hk1 hk2)
  have KE := Aside0.mk (fun W : World => ref09_Event.calls node seq _ W (rev_f node seq))
  have KC := Aside0.mk (fun (W : World) (hb : Below w.heap.size w W) => ref06_Inc.calls 400 A0 a0 s.c key n _ W (Kd.C_below h1 hb) h2 (incD_f 400 s.c key n (by omega) l0 q0 hk1 hi))
  have KR := Aside0.mk (fun (W : World) (hb : Below w.heap.size w W) => rput_calls A1 a1 s.r ⟨key, elem, gen, ⟨node, seq⟩⟩ W (Kd.C_below h3 hb) h4 (by omega) q1 ⟨hk1, hk2⟩)
  have KA := Aside0.mk (fun (hev : eventB node seq = true) (W : World) (hb : Below w.heap.size w W) => rpadd_calls A2 a2 s.p ⟨key, elem, ⟨node, seq⟩⟩ W (Kd.C_below h5 hb) h6 (by omega) qo (by
    have := event_in hev
    exact ⟨ok_small (by show key.size ≤ 1000; omega), ok_small (by show elem.size ≤ 1000; omega), ⟨by show -9223372036854775808 ≤ node; omega, by show node ≤ 9223372036854775807; omega⟩, ⟨by show -9223372036854775808 ≤ seq; omega, by show seq ≤ 9223372036854775807; omega⟩⟩) qp ⟨hk1, hk2⟩)
  have KD := Aside0.mk (fun (W : World) (hb : Below w.heap.size w W) => rpdel_calls A2 a2 s.p key elem W (Kd.C_below h5 hb) h6 (by omega) qp)
  have HC := Aside0.mk (fun (W : World) (hb : Below w.heap.size w W) => And.intro (And.intro (Kd.C_below h1 hb) h2) (And.intro (And.intro (Kd.C_below h3 hb) h4) (And.intro (Kd.C_below h5 hb) h6)))
  have HE : Aside0 (doS s k key elem n node seq gen = if (mayS s && (opB k key elem n && (eventB node seq && decide (1 ≤ gen)))) = true then (opS s k key elem n node seq gen, 0) else (noS, 1)) := ⟨rfl⟩
  have HK : Aside0 (opB k key elem n = true → k = 0 ∨ k = 1 ∨ k = 2 ∨ k = 3) := ⟨op_known⟩
  generalize mayS s = m at *
  generalize opB k key elem n = o at *
  generalize eventB node seq = ev at *
  clear h1 h2 h3 h4 h5 h6 l0 l1 l2 q0 q1 qo qp hi hk1 hk2
  obtain ⟨hB, p, q, s0, t⟩ := boxes4 w (.cells #[.slice A0 s.c.length a0, .slice A1 s.r.length a1, .slice A2 s.p.length a2] 26) (.cells #[.int .i64 k, .string key, .string elem, .int .i64 n] 28) (.cells #[.int .i64 node, .int .i64 seq] 30) (.cells #[.slice none 0 0, .slice none 0 0, .slice none 0 0] 26)
  have HB := Aside0.mk hB
  have P := Aside0.mk p
  have Q := Aside0.mk q
  have S := Aside0.mk s0
  have T := Aside0.mk t
  clear hB p q s0 t
  go_enter Tryz.func12, Tryz.ntmps12
  go_wp2_with fail
  revert HB P Q S T
  generalize ((((w.alloc (.cells #[.slice A0 s.c.length a0, .slice A1 s.r.length a1, .slice A2 s.p.length a2] 26)).alloc (.cells #[.int .i64 k, .string key, .string elem, .int .i64 n] 28)).alloc (.cells #[.int .i64 node, .int .i64 seq] 30)).alloc (.cells #[.slice none 0 0, .slice none 0 0, .slice none 0 0] 26)) = W0
  intro HB P Q S T
  obtain ⟨p0, p1, p2⟩ := cells3 P.out
  have q0 := (blk_cell Q.out 0).trans rfl; have q1 := (blk_cell Q.out 1).trans rfl; have q2 := (blk_cell Q.out 2).trans rfl; have q3 := (blk_cell Q.out 3).trans rfl
  have e0 := (blk_cell S.out 0).trans rfl; have e1 := (blk_cell S.out 1).trans rfl
  go_wp2_with fail
  refine (HM.out _ HB.out).mono ?_
  rintro e w1 ⟨rfl, hb⟩
  replace P := Aside0.mk (blk_below P.out hb)
  replace Q := Aside0.mk (blk_below Q.out hb)
  replace S := Aside0.mk (blk_below S.out hb)
  replace T := Aside0.mk (blk_below T.out hb)
  replace HB := Aside0.mk (below_step HB.out hb)
  clear hb
  clear p0 p1 p2 q0 q1 q2 q3 e0 e1
  obtain ⟨p0, p1, p2⟩ := cells3 P.out
  have q0 := (blk_cell Q.out 0).trans rfl; have q1 := (blk_cell Q.out 1).trans rfl; have q2 := (blk_cell Q.out 2).trans rfl; have q3 := (blk_cell Q.out 3).trans rfl
  have e0 := (blk_cell S.out 0).trans rfl; have e1 := (blk_cell S.out 1).trans rfl
  go_wp2_with fail
  refine (KO.out _).mono ?_
  rintro e w1 ⟨rfl, hb⟩
  replace P := Aside0.mk (blk_below P.out hb)
  replace Q := Aside0.mk (blk_below Q.out hb)
  replace S := Aside0.mk (blk_below S.out hb)
  replace T := Aside0.mk (blk_below T.out hb)
  replace HB := Aside0.mk (below_step HB.out hb)
  clear hb
  clear p0 p1 p2 q0 q1 q2 q3 e0 e1
  obtain ⟨p0, p1, p2⟩ := cells3 P.out
  have q0 := (blk_cell Q.out 0).trans rfl; have q1 := (blk_cell Q.out 1).trans rfl; have q2 := (blk_cell Q.out 2).trans rfl; have q3 := (blk_cell Q.out 3).trans rfl
  have e0 := (blk_cell S.out 0).trans rfl; have e1 := (blk_cell S.out 1).trans rfl
  go_wp2_with fail
  refine (KE.out _).mono ?_
  rintro e w1 ⟨rfl, hb⟩
  replace P := Aside0.mk (blk_below P.out hb)
  replace Q := Aside0.mk (blk_below Q.out hb)
  replace S := Aside0.mk (blk_below S.out hb)
  replace T := Aside0.mk (blk_below T.out hb)
  replace HB := Aside0.mk (below_step HB.out hb)
  clear hb
  clear p0 p1 p2 q0 q1 q2 q3 e0 e1
  clear HM KO KE
  by_cases hc : (m && (o && (ev && decide (1 ≤ gen)))) = true
  rotate_left
  · have HF : Aside0 (doS s k key elem n node seq gen = (noS, 1)) := ⟨by rw [HE.out, if_neg hc]⟩
    have hgen : decide (gen < 1) = !decide (1 ≤ gen) := by rw [← decide_not, decide_eq_decide]; omega
    generalize decide (1 ≤ gen) = gb at *
    have hx : m = false ∨ m = true ∧ (o = false ∨ o = true ∧ (ev = false ∨ ev = true ∧ gb = false)) := by revert hc; cases m <;> cases o <;> cases ev <;> cases gb <;> simp
    clear HE HK KC KR KA KD hc HC
    obtain ⟨x0, x1, x2⟩ := cells3 T.out
    obtain ⟨y0, y1, y2⟩ := frozen3 T.out
    have hz := set3 (.slice none 0 0) (.slice none 0 0) (.slice none 0 0) T.out
    have HB9 := Aside0.mk (below3 (b := w.heap.size + 3) (.slice none 0 0) (.slice none 0 0) (.slice none 0 0) HB.out (by omega))
    obtain ⟨z0, z1, z2⟩ := cells3 hz
    clear hz HB P Q S T
    rcases hx with rfl | ⟨rfl, rfl | ⟨rfl, rfl | ⟨rfl, rfl⟩⟩⟩
    all_goals
      try simp only [Bool.not_false] at hgen
      go_wp2
      clear x0 x1 x2 y0 y1 y2
      revert z0 z1 z2 HB9
      generalize (((w1.setCell ⟨w.heap.size + 3, 0, none⟩ (.slice none 0 0)).setCell ⟨w.heap.size + 3, 1, none⟩ (.slice none 0 0)).setCell ⟨w.heap.size + 3, 2, none⟩ (.slice none 0 0)) = U
      intro HB9 z0 z1 z2
      exact bodyPost_ret (v := .tuple #[.agg #[.slice none 0 0, .slice none 0 0, .slice none 0 0], .int .i64 1]) (by simp [results, Tryz.results12, go_sem, z0, z1, z2]) rfl ⟨zeroV, by rw [HF.out]; rfl, by rw [HF.out]; exact zero_is _, HB9.out⟩
  have hc2 := hc
  simp only [Bool.and_eq_true] at hc2
  obtain ⟨rfl, rfl, rfl, hg⟩ := hc2
  have HF : Aside0 (doS s k key elem n node seq gen = (opS s k key elem n node seq gen, 0)) := ⟨by rw [HE.out, if_pos hc]⟩
  have hgen : decide (gen < 1) = false := decide_eq_false (by have := of_decide_eq_true hg; omega)
  replace KA := Aside0.mk (KA.out rfl)
  have hkk := HK.out rfl
  clear HE HK hc hg
  obtain ⟨p0, p1, p2⟩ := cells3 P.out
  have q0 := (blk_cell Q.out 0).trans rfl; have q1 := (blk_cell Q.out 1).trans rfl; have q2 := (blk_cell Q.out 2).trans rfl; have q3 := (blk_cell Q.out 3).trans rfl
  have e0 := (blk_cell S.out 0).trans rfl; have e1 := (blk_cell S.out 1).trans rfl
  rcases hkk with rfl | rfl | rfl | rfl
  · have HF2 : Aside0 (doS s 0 key elem n node seq gen = (⟨incO s.c key n, s.r, s.p⟩, 0)) := ⟨by rw [HF.out]; rfl⟩
    clear HF
    go_wp2_with fail
    refine (KC.out _ HB.out).mono ?_
    rintro e w2 ⟨v, rfl, hr, hb⟩
    have R := Aside0.mk (Kd.R_lower hr (below_size HB.out))
    clear hr
    replace P := Aside0.mk (blk_below P.out hb)
    replace Q := Aside0.mk (blk_below Q.out hb)
    replace S := Aside0.mk (blk_below S.out hb)
    replace T := Aside0.mk (blk_below T.out hb)
    replace HB := Aside0.mk (below_step HB.out hb)
    clear hb
    clear p0 p1 p2 q0 q1 q2 q3 e0 e1
    obtain ⟨F, f, rfl, _, _⟩ := Kd.R_reads R.out
    obtain ⟨p0, p1, p2⟩ := cells3 P.out
    obtain ⟨f0, f1, f2⟩ := frozen3 P.out
    have hp5 : (w2.setCell ⟨w.heap.size, 0, none⟩ (.slice F (incO s.c key n).length f)).heap[w.heap.size]? = some (.cells #[(.slice F (incO s.c key n).length f), (.slice A1 s.r.length a1), (.slice A2 s.p.length a2)] 26 (0, 0)) := blk_set P.out 0 (.slice F (incO s.c key n).length f)
    have ht5 : (w2.setCell ⟨w.heap.size, 0, none⟩ (.slice F (incO s.c key n).length f)).heap[w.heap.size + 3]? = some (.cells #[.slice none 0 0, .slice none 0 0, .slice none 0 0] 26 (0, 0)) := blk_far T.out (p := ⟨w.heap.size, 0, none⟩) (by show w.heap.size + 3 ≠ w.heap.size; omega) (.slice F (incO s.c key n).length f)
    have HB5 := below_set (j := 0) (v := (.slice F (incO s.c key n).length f)) HB.out (Nat.le_refl _)
    have R5 := R_set1 R.out P.out neC 0 (.slice F (incO s.c key n).length f)
    obtain ⟨g0, g1, g2⟩ := cells3 hp5
    obtain ⟨x0, x1, x2⟩ := cells3 ht5
    obtain ⟨y0, y1, y2⟩ := frozen3 ht5
    have hz := set3 (.slice F (incO s.c key n).length f) (.slice A1 s.r.length a1) (.slice A2 s.p.length a2) ht5
    have HB9 := Aside0.mk (below3 (b := w.heap.size + 3) (.slice F (incO s.c key n).length f) (.slice A1 s.r.length a1) (.slice A2 s.p.length a2) HB5 (by omega))
    have R9 := Aside0.mk (R_set3 R5 ht5 neC (.slice F (incO s.c key n).length f) (.slice A1 s.r.length a1) (.slice A2 s.p.length a2))
    obtain ⟨z0, z1, z2⟩ := cells3 hz
    clear hz hp5 ht5 HB5 R5 R HB P Q S T KC KR KA KD
    go_wp2
    clear x0 x1 x2 y0 y1 y2 p0 p1 p2 f0 f1 f2 g0 g1 g2
    revert z0 z1 z2 HB9 R9
    generalize ((((w2.setCell ⟨w.heap.size, 0, none⟩ (.slice F (incO s.c key n).length f)).setCell ⟨w.heap.size + 3, 0, none⟩ (.slice F (incO s.c key n).length f)).setCell ⟨w.heap.size + 3, 1, none⟩ (.slice A1 s.r.length a1)).setCell ⟨w.heap.size + 3, 2, none⟩ (.slice A2 s.p.length a2)) = U
    intro HB9 R9 z0 z1 z2
    obtain ⟨⟨d1, d2⟩, ⟨d3, d4⟩, ⟨d5, d6⟩⟩ := HC.out U HB9.out
    obtain ⟨_, m2, m3⟩ := Kd.R_reads' R9.out
    exact bodyPost_ret (v := .tuple #[.agg #[(.slice F (incO s.c key n).length f), (.slice A1 s.r.length a1), (.slice A2 s.p.length a2)], .int .i64 0]) (by simp [results, Tryz.results12, go_sem, z0, z1, z2]) rfl ⟨[(.slice F (incO s.c key n).length f), (.slice A1 s.r.length a1), (.slice A2 s.p.length a2)], by rw [HF2.out], by rw [HF2.out]; exact ⟨F, f, A1, a1, A2, a2, rfl, m3, m2, d3, d4, d5, d6⟩, HB9.out⟩
  · have HF2 : Aside0 (doS s 1 key elem n node seq gen = (⟨s.c, putO s.r ⟨key, elem, gen, ⟨node, seq⟩⟩, s.p⟩, 0)) := ⟨by rw [HF.out]; rfl⟩
    clear HF
    go_wp2_with fail
    refine (KR.out _ HB.out).mono ?_
    rintro e w2 ⟨v, rfl, hr, hb⟩
    have R := Aside0.mk (Kd.R_lower hr (below_size HB.out))
    clear hr
    replace P := Aside0.mk (blk_below P.out hb)
    replace Q := Aside0.mk (blk_below Q.out hb)
    replace S := Aside0.mk (blk_below S.out hb)
    replace T := Aside0.mk (blk_below T.out hb)
    replace HB := Aside0.mk (below_step HB.out hb)
    clear hb
    clear p0 p1 p2 q0 q1 q2 q3 e0 e1
    obtain ⟨F, f, rfl, _, _⟩ := Kd.R_reads R.out
    obtain ⟨p0, p1, p2⟩ := cells3 P.out
    obtain ⟨f0, f1, f2⟩ := frozen3 P.out
    have hp5 : (w2.setCell ⟨w.heap.size, 1, none⟩ (.slice F (putO s.r ⟨key, elem, gen, ⟨node, seq⟩⟩).length f)).heap[w.heap.size]? = some (.cells #[(.slice A0 s.c.length a0), (.slice F (putO s.r ⟨key, elem, gen, ⟨node, seq⟩⟩).length f), (.slice A2 s.p.length a2)] 26 (0, 0)) := blk_set P.out 1 (.slice F (putO s.r ⟨key, elem, gen, ⟨node, seq⟩⟩).length f)
    have ht5 : (w2.setCell ⟨w.heap.size, 1, none⟩ (.slice F (putO s.r ⟨key, elem, gen, ⟨node, seq⟩⟩).length f)).heap[w.heap.size + 3]? = some (.cells #[.slice none 0 0, .slice none 0 0, .slice none 0 0] 26 (0, 0)) := blk_far T.out (p := ⟨w.heap.size, 1, none⟩) (by show w.heap.size + 3 ≠ w.heap.size; omega) (.slice F (putO s.r ⟨key, elem, gen, ⟨node, seq⟩⟩).length f)
    have HB5 := below_set (j := 1) (v := (.slice F (putO s.r ⟨key, elem, gen, ⟨node, seq⟩⟩).length f)) HB.out (Nat.le_refl _)
    have R5 := R_set1 R.out P.out neR 1 (.slice F (putO s.r ⟨key, elem, gen, ⟨node, seq⟩⟩).length f)
    obtain ⟨g0, g1, g2⟩ := cells3 hp5
    obtain ⟨x0, x1, x2⟩ := cells3 ht5
    obtain ⟨y0, y1, y2⟩ := frozen3 ht5
    have hz := set3 (.slice A0 s.c.length a0) (.slice F (putO s.r ⟨key, elem, gen, ⟨node, seq⟩⟩).length f) (.slice A2 s.p.length a2) ht5
    have HB9 := Aside0.mk (below3 (b := w.heap.size + 3) (.slice A0 s.c.length a0) (.slice F (putO s.r ⟨key, elem, gen, ⟨node, seq⟩⟩).length f) (.slice A2 s.p.length a2) HB5 (by omega))
    have R9 := Aside0.mk (R_set3 R5 ht5 neR (.slice A0 s.c.length a0) (.slice F (putO s.r ⟨key, elem, gen, ⟨node, seq⟩⟩).length f) (.slice A2 s.p.length a2))
    obtain ⟨z0, z1, z2⟩ := cells3 hz
    clear hz hp5 ht5 HB5 R5 R HB P Q S T KC KR KA KD
    go_wp2
    clear x0 x1 x2 y0 y1 y2 p0 p1 p2 f0 f1 f2 g0 g1 g2
    revert z0 z1 z2 HB9 R9
    generalize ((((w2.setCell ⟨w.heap.size, 1, none⟩ (.slice F (putO s.r ⟨key, elem, gen, ⟨node, seq⟩⟩).length f)).setCell ⟨w.heap.size + 3, 0, none⟩ (.slice A0 s.c.length a0)).setCell ⟨w.heap.size + 3, 1, none⟩ (.slice F (putO s.r ⟨key, elem, gen, ⟨node, seq⟩⟩).length f)).setCell ⟨w.heap.size + 3, 2, none⟩ (.slice A2 s.p.length a2)) = U
    intro HB9 R9 z0 z1 z2
    obtain ⟨⟨d1, d2⟩, ⟨d3, d4⟩, ⟨d5, d6⟩⟩ := HC.out U HB9.out
    obtain ⟨_, m2, m3⟩ := Kd.R_reads' R9.out
    exact bodyPost_ret (v := .tuple #[.agg #[(.slice A0 s.c.length a0), (.slice F (putO s.r ⟨key, elem, gen, ⟨node, seq⟩⟩).length f), (.slice A2 s.p.length a2)], .int .i64 0]) (by simp [results, Tryz.results12, go_sem, z0, z1, z2]) rfl ⟨[(.slice A0 s.c.length a0), (.slice F (putO s.r ⟨key, elem, gen, ⟨node, seq⟩⟩).length f), (.slice A2 s.p.length a2)], by rw [HF2.out], by rw [HF2.out]; exact ⟨A0, a0, F, f, A2, a2, rfl, d1, d2, m3, m2, d5, d6⟩, HB9.out⟩
  · have HF2 : Aside0 (doS s 2 key elem n node seq gen = (⟨s.c, s.r, addP s.p ⟨key, elem, ⟨node, seq⟩⟩⟩, 0)) := ⟨by rw [HF.out]; rfl⟩
    clear HF
    go_wp2_with fail
    refine (KA.out _ HB.out).mono ?_
    rintro e w2 ⟨v, rfl, hr, hb⟩
    have R := Aside0.mk (Kd.R_lower hr (below_size HB.out))
    clear hr
    replace P := Aside0.mk (blk_below P.out hb)
    replace Q := Aside0.mk (blk_below Q.out hb)
    replace S := Aside0.mk (blk_below S.out hb)
    replace T := Aside0.mk (blk_below T.out hb)
    replace HB := Aside0.mk (below_step HB.out hb)
    clear hb
    clear p0 p1 p2 q0 q1 q2 q3 e0 e1
    obtain ⟨F, f, rfl, _, _⟩ := Kd.R_reads R.out
    obtain ⟨p0, p1, p2⟩ := cells3 P.out
    obtain ⟨f0, f1, f2⟩ := frozen3 P.out
    have hp5 : (w2.setCell ⟨w.heap.size, 2, none⟩ (.slice F (addP s.p ⟨key, elem, ⟨node, seq⟩⟩).length f)).heap[w.heap.size]? = some (.cells #[(.slice A0 s.c.length a0), (.slice A1 s.r.length a1), (.slice F (addP s.p ⟨key, elem, ⟨node, seq⟩⟩).length f)] 26 (0, 0)) := blk_set P.out 2 (.slice F (addP s.p ⟨key, elem, ⟨node, seq⟩⟩).length f)
    have ht5 : (w2.setCell ⟨w.heap.size, 2, none⟩ (.slice F (addP s.p ⟨key, elem, ⟨node, seq⟩⟩).length f)).heap[w.heap.size + 3]? = some (.cells #[.slice none 0 0, .slice none 0 0, .slice none 0 0] 26 (0, 0)) := blk_far T.out (p := ⟨w.heap.size, 2, none⟩) (by show w.heap.size + 3 ≠ w.heap.size; omega) (.slice F (addP s.p ⟨key, elem, ⟨node, seq⟩⟩).length f)
    have HB5 := below_set (j := 2) (v := (.slice F (addP s.p ⟨key, elem, ⟨node, seq⟩⟩).length f)) HB.out (Nat.le_refl _)
    have R5 := R_set1 R.out P.out neP 2 (.slice F (addP s.p ⟨key, elem, ⟨node, seq⟩⟩).length f)
    obtain ⟨g0, g1, g2⟩ := cells3 hp5
    obtain ⟨x0, x1, x2⟩ := cells3 ht5
    obtain ⟨y0, y1, y2⟩ := frozen3 ht5
    have hz := set3 (.slice A0 s.c.length a0) (.slice A1 s.r.length a1) (.slice F (addP s.p ⟨key, elem, ⟨node, seq⟩⟩).length f) ht5
    have HB9 := Aside0.mk (below3 (b := w.heap.size + 3) (.slice A0 s.c.length a0) (.slice A1 s.r.length a1) (.slice F (addP s.p ⟨key, elem, ⟨node, seq⟩⟩).length f) HB5 (by omega))
    have R9 := Aside0.mk (R_set3 R5 ht5 neP (.slice A0 s.c.length a0) (.slice A1 s.r.length a1) (.slice F (addP s.p ⟨key, elem, ⟨node, seq⟩⟩).length f))
    obtain ⟨z0, z1, z2⟩ := cells3 hz
    clear hz hp5 ht5 HB5 R5 R HB P Q S T KC KR KA KD
    go_wp2
    clear x0 x1 x2 y0 y1 y2 p0 p1 p2 f0 f1 f2 g0 g1 g2
    revert z0 z1 z2 HB9 R9
    generalize ((((w2.setCell ⟨w.heap.size, 2, none⟩ (.slice F (addP s.p ⟨key, elem, ⟨node, seq⟩⟩).length f)).setCell ⟨w.heap.size + 3, 0, none⟩ (.slice A0 s.c.length a0)).setCell ⟨w.heap.size + 3, 1, none⟩ (.slice A1 s.r.length a1)).setCell ⟨w.heap.size + 3, 2, none⟩ (.slice F (addP s.p ⟨key, elem, ⟨node, seq⟩⟩).length f)) = U
    intro HB9 R9 z0 z1 z2
    obtain ⟨⟨d1, d2⟩, ⟨d3, d4⟩, ⟨d5, d6⟩⟩ := HC.out U HB9.out
    obtain ⟨_, m2, m3⟩ := Kd.R_reads' R9.out
    exact bodyPost_ret (v := .tuple #[.agg #[(.slice A0 s.c.length a0), (.slice A1 s.r.length a1), (.slice F (addP s.p ⟨key, elem, ⟨node, seq⟩⟩).length f)], .int .i64 0]) (by simp [results, Tryz.results12, go_sem, z0, z1, z2]) rfl ⟨[(.slice A0 s.c.length a0), (.slice A1 s.r.length a1), (.slice F (addP s.p ⟨key, elem, ⟨node, seq⟩⟩).length f)], by rw [HF2.out], by rw [HF2.out]; exact ⟨A0, a0, A1, a1, F, f, rfl, d1, d2, d3, d4, m3, m2⟩, HB9.out⟩
  · have HF2 : Aside0 (doS s 3 key elem n node seq gen = (⟨s.c, s.r, delP s.p key elem⟩, 0)) := ⟨by rw [HF.out]; rfl⟩
    clear HF
    go_wp2_with fail
    refine (KD.out _ HB.out).mono ?_
    rintro e w2 ⟨v, rfl, hr, hb⟩
    have R := Aside0.mk (Kd.R_lower hr (below_size HB.out))
    clear hr
    replace P := Aside0.mk (blk_below P.out hb)
    replace Q := Aside0.mk (blk_below Q.out hb)
    replace S := Aside0.mk (blk_below S.out hb)
    replace T := Aside0.mk (blk_below T.out hb)
    replace HB := Aside0.mk (below_step HB.out hb)
    clear hb
    clear p0 p1 p2 q0 q1 q2 q3 e0 e1
    obtain ⟨F, f, rfl, _, _⟩ := Kd.R_reads R.out
    obtain ⟨p0, p1, p2⟩ := cells3 P.out
    obtain ⟨f0, f1, f2⟩ := frozen3 P.out
    have hp5 : (w2.setCell ⟨w.heap.size, 2, none⟩ (.slice F (delP s.p key elem).length f)).heap[w.heap.size]? = some (.cells #[(.slice A0 s.c.length a0), (.slice A1 s.r.length a1), (.slice F (delP s.p key elem).length f)] 26 (0, 0)) := blk_set P.out 2 (.slice F (delP s.p key elem).length f)
    have ht5 : (w2.setCell ⟨w.heap.size, 2, none⟩ (.slice F (delP s.p key elem).length f)).heap[w.heap.size + 3]? = some (.cells #[.slice none 0 0, .slice none 0 0, .slice none 0 0] 26 (0, 0)) := blk_far T.out (p := ⟨w.heap.size, 2, none⟩) (by show w.heap.size + 3 ≠ w.heap.size; omega) (.slice F (delP s.p key elem).length f)
    have HB5 := below_set (j := 2) (v := (.slice F (delP s.p key elem).length f)) HB.out (Nat.le_refl _)
    have R5 := R_set1 R.out P.out neP 2 (.slice F (delP s.p key elem).length f)
    obtain ⟨g0, g1, g2⟩ := cells3 hp5
    obtain ⟨x0, x1, x2⟩ := cells3 ht5
    obtain ⟨y0, y1, y2⟩ := frozen3 ht5
    have hz := set3 (.slice A0 s.c.length a0) (.slice A1 s.r.length a1) (.slice F (delP s.p key elem).length f) ht5
    have HB9 := Aside0.mk (below3 (b := w.heap.size + 3) (.slice A0 s.c.length a0) (.slice A1 s.r.length a1) (.slice F (delP s.p key elem).length f) HB5 (by omega))
    have R9 := Aside0.mk (R_set3 R5 ht5 neP (.slice A0 s.c.length a0) (.slice A1 s.r.length a1) (.slice F (delP s.p key elem).length f))
    obtain ⟨z0, z1, z2⟩ := cells3 hz
    clear hz hp5 ht5 HB5 R5 R HB P Q S T KC KR KA KD
    go_wp2
    clear x0 x1 x2 y0 y1 y2 p0 p1 p2 f0 f1 f2 g0 g1 g2
    revert z0 z1 z2 HB9 R9
    generalize ((((w2.setCell ⟨w.heap.size, 2, none⟩ (.slice F (delP s.p key elem).length f)).setCell ⟨w.heap.size + 3, 0, none⟩ (.slice A0 s.c.length a0)).setCell ⟨w.heap.size + 3, 1, none⟩ (.slice A1 s.r.length a1)).setCell ⟨w.heap.size + 3, 2, none⟩ (.slice F (delP s.p key elem).length f)) = U
    intro HB9 R9 z0 z1 z2
    obtain ⟨⟨d1, d2⟩, ⟨d3, d4⟩, ⟨d5, d6⟩⟩ := HC.out U HB9.out
    obtain ⟨_, m2, m3⟩ := Kd.R_reads' R9.out
    exact bodyPost_ret (v := .tuple #[.agg #[(.slice A0 s.c.length a0), (.slice A1 s.r.length a1), (.slice F (delP s.p key elem).length f)], .int .i64 0]) (by simp [results, Tryz.results12, go_sem, z0, z1, z2]) rfl ⟨[(.slice A0 s.c.length a0), (.slice A1 s.r.length a1), (.slice F (delP s.p key elem).length f)], by rw [HF2.out], by rw [HF2.out]; exact ⟨A0, a0, A1, a1, F, f, rfl, d1, d2, d3, d4, m3, m2⟩, HB9.out⟩
end Go.Proofs.YtmcddoolniaehaaGreat.S
end
