/- Several of the walk's texts in one: SHRPPut, SHRPMerge, Sx21, Sx22, Sx23. -/
import Derived.BigQuiet
import Derived.Test.YtmcddoolniaehaaGreatMM04
import Derived.Test.YtmcddoolniaehaaGreatMM14
import Derived.Test.YtmcddoolniaehaaGreatMM24
import Derived.Test.YtmcddoolniaehaaGreatMM26
section
namespace Go.Proofs.YtmcddoolniaehaaGreat.S
open Go.RowKit Go.Proofs.YtmcddoolniaehaaGreatW.PrintWords Go.Proofs.YtmcddoolniaehaaGreatW.PrintLast Go.Proofs.YtmcddoolniaehaaGreatW.PrintMore Go.Proofs.YtmcddoolniaehaaGreatW
set_option linter.unusedVariables false
set_option linter.unusedSimpArgs false
def eqR (x : Pr) (p0 p1 : ByteArray) (p2 p3 : Int) : Bool := (x.f0.toList == p0.toList) && ((x.f1.toList == p1.toList) && ((x.f2.f0 == p2) && (x.f2.f1 == p3)))
theorem eqR_iff {x p : Pr} : eqR x p.f0 p.f1 p.f2.f0 p.f2.f1 = true ↔ x = p := by
  unfold eqR
  simp only [Bool.and_eq_true, beq_iff_eq]
  constructor
  · rintro ⟨h1, h2, h3, h4⟩
    obtain ⟨a, b, c, d⟩ := x
    obtain ⟨a', b', c', d'⟩ := p
    simp only at h1 h2 h3 h4
    obtain rfl := toList_inj h1
    obtain rfl := toList_inj h2
    subst h3 h4
    rfl
  · rintro rfl; exact ⟨rfl, rfl, rfl, rfl⟩
theorem rhas_loop (p : Pr) : ∀ (suf pre : List Pr) (k : Nat), suf.length < k → (pre ++ suf).length < 4611686018427387904 →
    ref08_has.l0 k (pre ++ suf) ((pre.length : Nat) : Int) p.f0 p.f1 p.f2.f0 p.f2.f1 = some (suf.any fun x => eqR x p.f0 p.f1 p.f2.f0 p.f2.f1)
  | suf, pre, 0, hk, _ => by omega
  | [], pre, k + 1, _, _ => by
    simp only [ref08_has.l0]
    rw [if_neg (by simp)]
    rfl
  | x :: suf, pre, k + 1, hk, hl => by
    have hlt : ((pre.length : Nat) : Int) < (((pre ++ x :: suf).length : Nat) : Int) := by simp; omega
    have hpl : pre.length < 4611686018427387904 := by simp at hl; omega
    have ih := rhas_loop p suf (pre ++ [x]) k (by simp at hk; omega) (by simpa using hl)
    rw [app_one, len_one] at ih
    simp only [ref08_has.l0]
    rw [if_pos hlt, if_pos (by omega), rdP_mid, wrapUp hpl, ih, List.any_cons]
    show (if eqR x p.f0 p.f1 p.f2.f0 p.f2.f1 = true then some true else _) = _
    cases h : eqR x p.f0 p.f1 p.f2.f0 p.f2.f1 <;> simp
theorem rhas_f (k : Nat) (l : List Pr) (p : Pr) (hk : l.length < k) (hl : l.length ≤ 1000) : ref08_has.f k l p.f0 p.f1 p.f2.f0 p.f2.f1 = some (decide (p ∈ l)) := by
  have h := rhas_loop p l [] k hk (by simp; omega)
  have e : (l.any fun x => eqR x p.f0 p.f1 p.f2.f0 p.f2.f1) = decide (p ∈ l) := by
    rw [Bool.eq_iff_iff, decide_eq_true_eq, List.any_eq_true]
    constructor
    · rintro ⟨x, hx, hq⟩; rw [← eqR_iff.1 hq]; exact hx
    · intro hx; exact ⟨p, hx, eqR_iff.2 rfl⟩
  rw [← e]
  simpa [ref08_has.f] using h
theorem rdPN (l : List Pr) (j : Nat) (h : j < l.length) : rd_T43 l (j : Int) = l[j] := by simp [rd_T43, List.getD_eq_getElem?_getD, h]
def atP (l : List Pr) (p : Pr) : Nat → Nat
  | 0 => 0
  | n + 1 => if ltP p (rd_T43 l (n : Int)) then atP l p n else n + 1
def insQ (l : List Pr) (p : Pr) : List Pr := if p ∈ l then l else l.take (atP l p l.length) ++ p :: l.drop (atP l p l.length)
theorem atP_spec (l : List Pr) (p : Pr) : ∀ n, n ≤ l.length → (∀ x ∈ l.drop n, ltP p x = true) → atP l p n ≤ n ∧ (∀ x ∈ l.drop (atP l p n), ltP p x = true) ∧ (∀ m, atP l p n = m + 1 → ∃ h : m < l.length, ltP p l[m] = false)
  | 0, _, hd => ⟨Nat.le_refl _, hd, fun m h => by cases h⟩
  | n + 1, hn, hd => by
    have hlt : n < l.length := by omega
    unfold atP
    rw [rdPN l n hlt]
    cases hq : ltP p l[n] with
    | true =>
      rw [if_pos rfl]
      obtain ⟨h1, h2, h3⟩ := atP_spec l p n (by omega) (fun x hx => by
        rw [List.drop_eq_getElem_cons hlt] at hx
        rcases List.mem_cons.1 hx with rfl | hx
        · exact hq
        · exact hd x hx)
      exact ⟨by omega, h2, h3⟩
    | false =>
      rw [if_neg (by simp)]
      exact ⟨Nat.le_refl _, hd, fun m h => by cases h; exact ⟨hlt, hq⟩⟩
theorem insQ_len (l : List Pr) (p : Pr) : (insQ l p).length ≤ l.length + 1 := by
  unfold insQ
  split
  · omega
  · have := (atP_spec l p l.length (Nat.le_refl _) (by simp)).1
    simp; omega
theorem insQ_mem {l : List Pr} {p x : Pr} : x ∈ insQ l p ↔ x ∈ l ∨ x = p := by
  unfold insQ
  split
  · exact ⟨.inl, fun h => h.elim id fun e => e ▸ ‹_›⟩
  · have : x ∈ l ↔ x ∈ l.take (atP l p l.length) ∨ x ∈ l.drop (atP l p l.length) := by rw [← List.mem_append, List.take_append_drop]
    rw [this]
    simp only [List.mem_append, List.mem_cons]
    constructor
    · rintro (h | h | h)
      · exact .inl (.inl h)
      · exact .inr h
      · exact .inl (.inr h)
    · rintro ((h | h) | h)
      · exact .inl h
      · exact .inr (.inr h)
      · exact .inr (.inl h)
theorem insQ_up {l : List Pr} {p : Pr} (hu : l.Pairwise pLt) : (insQ l p).Pairwise pLt := by
  unfold insQ
  split
  · exact hu
  · rename_i hp
    obtain ⟨h1, h2, h3⟩ := atP_spec l p l.length (Nat.le_refl _) (by simp)
    have ht : ∀ x ∈ l.take (atP l p l.length), ltP x p = true := fun x hx => by
      obtain ⟨i, hi, rfl⟩ := List.mem_iff_getElem.1 hx
      rw [List.getElem_take]
      rw [List.length_take] at hi
      obtain ⟨m, hm⟩ : ∃ m, atP l p l.length = m + 1 := ⟨atP l p l.length - 1, by omega⟩
      obtain ⟨hml, hq⟩ := h3 m hm
      have hlt : ltP l[m] p = true := by
        rcases ltP_tri l[m] p with h | h | h
        · exact h
        · exact absurd (h ▸ List.getElem_mem hml) hp
        · rw [hq] at h; cases h
      rcases Nat.lt_or_ge i m with h | h
      · exact ltP_trans (List.pairwise_iff_getElem.1 hu i m (by omega) hml h) hlt
      · have : i = m := by omega
        subst this; exact hlt
    refine List.pairwise_append.2 ⟨hu.sublist (List.take_sublist _ _), List.pairwise_cons.2 ⟨h2, hu.sublist (List.drop_sublist _ _)⟩, fun x hx y hy => ?_⟩
    rcases List.mem_cons.1 hy with rfl | hy
    · exact ht x hx
    · exact ltP_trans (ht x hx) (h2 y hy)
set_option maxHeartbeats 8000000 in
set_option maxRecDepth 100000 in
theorem rpput_calls (w0 : World) (v : Value) (l : List S43) (p : S43) (W : World) (H : Ou k43 43 w0 v l W) (hl : l.length ≤ 1000) :
    Calls Tryz.prog 93 #[v, .agg #[.string p.f0, .string p.f1, .int .i64 p.f2.f0, .int .i64 p.f2.f1]] W fun e w' => ∃ v', e = .returned v' ∧ Ou k43 43 w0 v' (insQ l p) w' := by
  have hu := Tryz.underlying43
  obtain ⟨A, c, rfl, hlc, hC⟩ := Kd.R_reads H.r
  have HLC := Aside0.mk hlc
  have K0 := Aside0.mk (fun (W1 : World) (h : Ou k43 43 w0 (.slice A l.length c) l W1) => ref08_has.calls 1100 A c l p.f0 p.f1 p.f2.f0 p.f2.f1 (decide (p ∈ l)) W1 (Kd.R_reads' h.r).2.2 hlc (rhas_f 1100 l p (by omega) hl))
  have K1 := Aside0.mk (fun (y : Pr) (W1 : World) => ref08_Less.calls _ _ _ _ _ _ _ _ _ W1 (rless_f p y))
  have HE := Aside0.mk (show insQ l p = if decide (p ∈ l) = true then l else l.take (atP l p l.length) ++ p :: l.drop (atP l p l.length) by unfold insQ; simp)
  generalize decide (p ∈ l) = t at *
  have HO := Aside0.mk (show Ob k43 43 w0 W.heap.size (.cells #[.string p.f0, .string p.f1, .int .i64 p.f2.f0, .int .i64 p.f2.f1] 43) (.slice A l.length c) l (W.alloc (.cells #[.string p.f0, .string p.f1, .int .i64 p.f2.f0, .int .i64 p.f2.f1] 43)) from ⟨H.alloc _, blk_new _ _, fun e => absurd (Kd.R_lt H.r _ e) (by omega)⟩)
  clear H hlc hC
  go_enter Tryz.func93, Tryz.ntmps93
  go_wp2_with fail
  revert HO
  generalize W.alloc (.cells #[.string p.f0, .string p.f1, .int .i64 p.f2.f0, .int .i64 p.f2.f1] 43) = W1
  generalize W.heap.size = g0
  intro HO
  have s0 := (blk_cell HO.out.x 0).trans rfl; have s1 := (blk_cell HO.out.x 1).trans rfl; have s2 := (blk_cell HO.out.x 2).trans rfl; have s3 := (blk_cell HO.out.x 3).trans rfl
  go_wp2_with fail
  refine (K0.out _ HO.out.toOu).mono ?_
  rintro e w1 ⟨rfl, hb⟩
  replace HO := Aside0.mk (HO.out.go hb)
  clear hb K0 s0 s1 s2 s3
  cases t with
  | true =>
    have HF : Aside0 (insQ l p = l) := ⟨by rw [HE.out, if_pos rfl]⟩
    clear HE
    go_wp2
    go_ret
    exact ⟨_, rfl, by rw [HF.out]; exact HO.out.toOu⟩
  | false =>
    have HF : Aside0 (insQ l p = l.take (atP l p l.length) ++ p :: l.drop (atP l p l.length)) := ⟨by rw [HE.out, if_neg (by simp)]⟩
    clear HE
    go_wp2
    go_loopw [6] (fun i wr => ∃ n : Nat, i = .int .i64 n ∧ n ≤ l.length ∧ Aside0 (atP l p l.length = atP l p n) ∧ Aside0 (Ob k43 43 w0 g0 (.cells #[.string p.f0, .string p.f1, .int .i64 p.f2.f0, .int .i64 p.f2.f1] 43) (.slice A l.length c) l wr)) (fun i _ => (intOf i).toNat)
    case atStart => exact ⟨l.length, rfl, Nat.le_refl _, ⟨rfl⟩, HO⟩
    case round =>
      clear HO
      obtain ⟨n, rfl, hn, HP, HO⟩ := hrel
      by_cases hz : n = 0
      · replace HF : Aside0 (insQ l p = l.take n ++ p :: l.drop n) := ⟨by rw [HF.out, HP.out, hz]; rfl⟩
        have hz2 : decide (0 < n) = false := decide_eq_false (by omega)
        clear HP K1 hz
        obtain ⟨i0, hi0, _, hsz, _⟩ := info_parts info43
        have hC := (Kd.R_reads' HO.out.r).2.2
        have HC1 := Aside0.mk (Kd.C_take (m := n) hC hn)
        have HC2 := Aside0.mk (fun (W' : World) (h : Ou k43 43 w0 (.slice A l.length c) l W') => Kd.C_drop (m := n) (Kd.R_reads' h.r).2.2 hn HLC.out)
        have hc1 := cut_to (P := Tryz.prog) 24 43 .i64 Tryz.underlying24 hi0 A l.length c ((n : Int)) (by omega) (by omega) HLC.out
        have hc2 := cut_from (P := Tryz.prog) 24 43 .i64 Tryz.underlying24 hi0 4 hsz A l.length c ((n : Int)) (by omega) (by omega)
        rw [show ((n : Int) : Int).toNat = n by omega] at hc1 hc2
        have hs1 : (l.take (n)).length = n := by rw [List.length_take]; omega
        have hs2 : (l.drop (n)).length = l.length - (n) := List.length_drop
        rw [hs1] at HC1
        rw [hs2] at HC2
        change Aside0 (∀ W', Ou k43 43 w0 (.slice A l.length c) l W' → Kd.C k43 W' (if c = n then A else (A).map (·.add ((n) * 4))) (l.length - (n)) (l.drop (n))) at HC2
        generalize (if c = n then A else (A).map (·.add ((n) * 4))) = A2 at HC2 hc2
        clear hC hi0 hsz hs1 hs2
        have s0 := (blk_cell HO.out.x 0).trans rfl; have s1 := (blk_cell HO.out.x 1).trans rfl; have s2 := (blk_cell HO.out.x 2).trans rfl; have s3 := (blk_cell HO.out.x 3).trans rfl
        go_wp2_with (first
          | (at_builtin; refine arP (Ou.nil HO.out.b) HC1.out (by simp; omega) rfl _ _ rfl rfl rfl ?_; intro v1 w3 hk1 ho1; have HN := Aside0.mk (show Ob k43 43 w0 g0 (.cells #[.string p.f0, .string p.f1, .int .i64 p.f2.f0, .int .i64 p.f2.f1] 43) v1 _ w3 from ⟨ho1, (hk1.box HO.out.x (by simp [Value.ownBlock])).1, (hk1.box HO.out.x (by simp [Value.ownBlock])).2⟩); have ha0 : Apart1 (.slice none 0 0) (.slice A l.length c) := fun k hk => (by simp [Value.ownBlock] at hk); have HA := Aside0.mk (hk1.ap HO.out.r ha0); have HQ := Aside0.mk (HO.out.toOu.other rfl hk1 ho1 ha0); clear hk1 ho1 ha0 HO s0 s1 s2 s3; have s0 := (blk_cell HN.out.x 0).trans rfl; have s1 := (blk_cell HN.out.x 1).trans rfl; have s2 := (blk_cell HN.out.x 2).trans rfl; have s3 := (blk_cell HN.out.x 3).trans rfl)
          | (at_builtin; refine apP p HN.out.toOu (by simp; omega) rfl _ _ rfl rfl rfl ?_; intro v2 w4 hk1 ho1; replace HN := Aside0.mk (HN.out.kept ho1 hk1); replace HQ := Aside0.mk (HQ.out.other rfl hk1 ho1 HA.out); clear hk1 ho1 s0 s1 s2 s3)
          | (at_builtin; refine arP HN.out.toOu (HC2.out _ HQ.out) (by simp; omega) rfl _ _ rfl rfl rfl ?_; intro v3 w5 hk1 ho1; have HZ := Aside0.mk ho1; clear hk1 ho1 HN HQ))
        go_ret
        exact ⟨_, rfl, by rw [HF.out]; simpa using HZ.out⟩
      · obtain ⟨m, rfl⟩ : ∃ m, n = m + 1 := ⟨n - 1, by omega⟩
        have hm : m < l.length := by omega
        obtain ⟨ad, e, hx0, hx1, hx2, hx3⟩ := at_T43 (Kd.R_reads' HO.out.r).2.2 (m : Int) (by omega) (by omega)
        cases e
        have HP2 : Aside0 (atP l p l.length = if ltP p (rd_T43 l (m : Int)) then atP l p m else m + 1) := ⟨by rw [HP.out]; rfl⟩
        have K2 := Aside0.mk (K1.out (rd_T43 l (m : Int)))
        clear HP
        generalize rd_T43 l (m : Int) = y at *
        simp only [Int.toNat_natCast] at hx0 hx1 hx2 hx3
        obtain ⟨b, hb⟩ : ∃ b, b = ltP p y := ⟨_, rfl⟩
        rw [← hb] at HP2 K2
        clear hb
        have hw1 : IntKind.i64.wrap (m : Int) = (m : Int) := by rw [i64_w]; unfold wrap64; omega
        have hm0 : (0 : Int) ≤ (m : Int) := by omega
        have hm1 : (m : Int) < (l.length : Int) := by omega
        have hm2 : (0 : Int) < (m : Int) + 1 := by omega
        go_wp2_with fail
        refine in_ (n := 8) (S := Bx wr g0 _) (by kernel_rfl) rfl ⟨below_drew (Below.refl _ _), blk_drew HO.out.x⟩ (fun hHeld => ?_)
        repeat (first
          | (refine run_ (v := ?_) (a' := ?_) rfl rfl hHeld ?_ ?_ ?_; rotate_left; (focus (intro w2 hs; have s0 := (blk_cell hs.x 0).trans rfl; have s1 := (blk_cell hs.x 1).trans rfl; have s2 := (blk_cell hs.x 2).trans rfl; have s3 := (blk_cell hs.x 3).trans rfl; have u0 := (hs.b.cell (World.block_lt_of_cell? wr _ hx0)).trans hx0; have u1 := (hs.b.cell (World.block_lt_of_cell? wr _ hx1)).trans hx1; have u2 := (hs.b.cell (World.block_lt_of_cell? wr _ hx2)).trans hx2; have u3 := (hs.b.cell (World.block_lt_of_cell? wr _ hx3)).trans hx3; go_simp; with_reducible rfl)); rotate_left; (focus (simp only [Act.put, sqA, sqB, sqC] <;> rfl)))
          | (refine skip_ (a' := ?_) rfl rfl hHeld ?_ ?_; rotate_left; (focus (simp only [Act.put, sqA, sqB, sqC] <;> rfl)))
          | (refine ask_ rfl rfl (fun K hK => ?_); go_simp; (first | (go_at_call 94; with_reducible refine (K2.out _).mono ?_)); rintro e1 w1 ⟨rfl, hb⟩; replace hHeld := hHeld.go hb; go_wp2_with fail; refine hK.out _ _ hHeld (fun _ => ?_); clear hK K hb; try simp only [Act.put, sqA, sqB, sqC]))
        refine wpAnyH_done (by kernel_rfl) ?_ _
        replace HO := Aside0.mk (HO.out.go hHeld.b)
        clear hHeld hx0 hx1 hx2 hx3 K2
        cases b with
        | true =>
          have HP3 : Aside0 (atP l p l.length = atP l p m) := ⟨by rw [HP2.out, if_pos rfl]⟩
          clear HP2
          go_wp2
          go_roundw
          case rel => exact ⟨m, by go_num, by omega, HP3, HO⟩
          case measure => simp [intOf]
        | false =>
          replace HF : Aside0 (insQ l p = l.take (m + 1) ++ p :: l.drop (m + 1)) := ⟨by rw [HF.out, HP2.out, if_neg (by simp)]⟩
          clear HP2 K1 hw1 hm0 hm1 hm2
          obtain ⟨i0, hi0, _, hsz, _⟩ := info_parts info43
          have hC := (Kd.R_reads' HO.out.r).2.2
          have HC1 := Aside0.mk (Kd.C_take (m := m + 1) hC hn)
          have HC2 := Aside0.mk (fun (W' : World) (h : Ou k43 43 w0 (.slice (some ad) l.length c) l W') => Kd.C_drop (m := m + 1) (Kd.R_reads' h.r).2.2 hn HLC.out)
          have hc1 := cut_to (P := Tryz.prog) 24 43 .i64 Tryz.underlying24 hi0 (some ad) l.length c ((m : Int) + 1) (by omega) (by omega) HLC.out
          have hc2 := cut_from (P := Tryz.prog) 24 43 .i64 Tryz.underlying24 hi0 4 hsz (some ad) l.length c ((m : Int) + 1) (by omega) (by omega)
          rw [show ((m : Int) + 1 : Int).toNat = m + 1 by omega] at hc1 hc2
          have hs1 : (l.take (m + 1)).length = m + 1 := by rw [List.length_take]; omega
          have hs2 : (l.drop (m + 1)).length = l.length - (m + 1) := List.length_drop
          rw [hs1] at HC1
          rw [hs2] at HC2
          change Aside0 (∀ W', Ou k43 43 w0 (.slice (some ad) l.length c) l W' → Kd.C k43 W' (if c = m + 1 then (some ad) else ((some ad)).map (·.add ((m + 1) * 4))) (l.length - (m + 1)) (l.drop (m + 1))) at HC2
          generalize (if c = m + 1 then (some ad) else ((some ad)).map (·.add ((m + 1) * 4))) = A2 at HC2 hc2
          clear hC hi0 hsz hs1 hs2
          have s0 := (blk_cell HO.out.x 0).trans rfl; have s1 := (blk_cell HO.out.x 1).trans rfl; have s2 := (blk_cell HO.out.x 2).trans rfl; have s3 := (blk_cell HO.out.x 3).trans rfl
          go_wp2_with (first
            | (at_builtin; refine arP (Ou.nil HO.out.b) HC1.out (by simp; omega) rfl _ _ rfl rfl rfl ?_; intro v1 w3 hk1 ho1; have HN := Aside0.mk (show Ob k43 43 w0 g0 (.cells #[.string p.f0, .string p.f1, .int .i64 p.f2.f0, .int .i64 p.f2.f1] 43) v1 _ w3 from ⟨ho1, (hk1.box HO.out.x (by simp [Value.ownBlock])).1, (hk1.box HO.out.x (by simp [Value.ownBlock])).2⟩); have ha0 : Apart1 (.slice none 0 0) (.slice (some ad) l.length c) := fun k hk => (by simp [Value.ownBlock] at hk); have HA := Aside0.mk (hk1.ap HO.out.r ha0); have HQ := Aside0.mk (HO.out.toOu.other rfl hk1 ho1 ha0); clear hk1 ho1 ha0 HO s0 s1 s2 s3; have s0 := (blk_cell HN.out.x 0).trans rfl; have s1 := (blk_cell HN.out.x 1).trans rfl; have s2 := (blk_cell HN.out.x 2).trans rfl; have s3 := (blk_cell HN.out.x 3).trans rfl)
            | (at_builtin; refine apP p HN.out.toOu (by simp; omega) rfl _ _ rfl rfl rfl ?_; intro v2 w4 hk1 ho1; replace HN := Aside0.mk (HN.out.kept ho1 hk1); replace HQ := Aside0.mk (HQ.out.other rfl hk1 ho1 HA.out); clear hk1 ho1 s0 s1 s2 s3)
            | (at_builtin; refine arP HN.out.toOu (HC2.out _ HQ.out) (by simp; omega) rfl _ _ rfl rfl rfl ?_; intro v3 w5 hk1 ho1; have HZ := Aside0.mk ho1; clear hk1 ho1 HN HQ))
          go_ret
          exact ⟨_, rfl, by rw [HF.out]; simpa using HZ.out⟩
end Go.Proofs.YtmcddoolniaehaaGreat.S
end
section
namespace Go.Proofs.YtmcddoolniaehaaGreat.S
open Go.RowKit Go.Proofs.YtmcddoolniaehaaGreatW.PrintWords Go.Proofs.YtmcddoolniaehaaGreatW.PrintLast Go.Proofs.YtmcddoolniaehaaGreatW.PrintMore Go.Proofs.YtmcddoolniaehaaGreatW
set_option linter.unusedVariables false
set_option linter.unusedSimpArgs false
theorem foldQ_up : ∀ (l acc : List Pr), acc.Pairwise pLt → (l.foldl insQ acc).Pairwise pLt
  | [], _, h => h
  | x :: l, acc, h => foldQ_up l _ (insQ_up h)
theorem foldQ_mem {x : Pr} : ∀ (l acc : List Pr), x ∈ l.foldl insQ acc ↔ x ∈ acc ∨ x ∈ l
  | [], acc => by simp
  | y :: l, acc => by
    rw [List.foldl_cons, foldQ_mem l, insQ_mem, List.mem_cons, or_assoc]
theorem foldQ_len : ∀ (l acc : List Pr), (l.foldl insQ acc).length ≤ acc.length + l.length
  | [], acc => by simp
  | y :: l, acc => by
    have h1 := foldQ_len l (insQ acc y)
    have h2 := insQ_len acc y
    rw [List.foldl_cons, List.length_cons]
    omega
theorem foldQ_at (q : Pr → Bool) (acc l : List Pr) (j : Nat) (h : j < l.length) : ((l.take (j + 1)).filter q).foldl insQ acc = if q l[j] = true then insQ (((l.take j).filter q).foldl insQ acc) l[j] else ((l.take j).filter q).foldl insQ acc := by
  rw [List.take_succ_eq_append_getElem h, List.filter_append, List.foldl_append]
  cases hq : q l[j] <;> simp [hq]
theorem foldQ_take (q : Pr → Bool) (acc l : List Pr) (j : Nat) : (((l.take j).filter q).foldl insQ acc).length ≤ acc.length + l.length := by
  have h1 := foldQ_len ((l.take j).filter q) acc
  have h2 := List.length_filter_le q (l.take j)
  rw [List.length_take] at h2
  omega
def condA (base b : List Pr) (x : Pr) : Bool := decide (x ∈ b) || !decide (x ∈ base)
def condB (base a : List Pr) (x : Pr) : Bool := !decide (x ∈ a) && !decide (x ∈ base)
def mergeQ (base a b : List Pr) : List Pr := (b.filter (condB base a)).foldl insQ ((a.filter (condA base b)).foldl insQ [])
theorem mergeQ_eq {base a b : List Pr} (lb : base.length ≤ 30) (la : a.length ≤ 30) (lc : b.length ≤ 30) (ob : okL base) (oa : okL a) (oc : okL b) (m0 : mayP base = true) (m1 : mayP a = true) (m2 : mayP b = true) : mergeP base a b = mergeQ base a b := by
  refine up_ext (mergeP_up _ _ _) (foldQ_up _ _ (foldQ_up _ _ List.Pairwise.nil)) fun x => ?_
  rw [mergeP_mem ob oa oc (by omega) (by omega) (by omega) m0 m1 m2, mergeQ, foldQ_mem, foldQ_mem, List.mem_filter, List.mem_filter]
  unfold condA condB
  by_cases h1 : x ∈ base <;> by_cases h2 : x ∈ a <;> by_cases h3 : x ∈ b <;> simp [h1, h2, h3]
open Classical in
noncomputable def ref08_Merge.f (k : Nat) (base a b : List S43) : Option (List S43) := if (base.length ≤ 30 ∧ a.length ≤ 30 ∧ b.length ≤ 30) ∧ (okL base ∧ okL a ∧ okL b) ∧ (smL base ∧ smL a ∧ smL b) then some (mergeP base a b) else none
theorem ref08_Merge.mono : ∀ a0 a1 a2 k, LeO (ref08_Merge.f k a0 a1 a2) (ref08_Merge.f (k + 1) a0 a1 a2) := fun _ _ _ _ _ h => h
theorem rmerge_f (k : Nat) (base a b : List Pr) (hk : 500 < k) (lb : base.length ≤ 30) (la : a.length ≤ 30) (lc : b.length ≤ 30) (ob : okL base) (oa : okL a) (oc : okL b) (sb : smL base) (sa : smL a) (sc : smL b) : ref08_Merge.f k base a b = some (mergeP base a b) := by
  unfold ref08_Merge.f
  rw [if_pos ⟨⟨lb, la, lc⟩, ⟨ob, oa, oc⟩, ⟨sb, sa, sc⟩⟩]
set_option maxHeartbeats 8000000 in
set_option maxRecDepth 100000 in
theorem ref08_Merge.calls (k : Nat) (A0 : Option Addr) (c0 : Nat) (base : List S43) (A1 : Option Addr) (c1 : Nat) (a : List S43) (A2 : Option Addr) (c2 : Nat) (b : List S43) (r : List S43) (w : World) (hr0 : Kd.C k43 w A0 base.length base) (hc0 : base.length ≤ c0) (hr1 : Kd.C k43 w A1 a.length a) (hc1 : a.length ≤ c1) (hr2 : Kd.C k43 w A2 b.length b) (hc2 : b.length ≤ c2) (h : ref08_Merge.f k base a b = some r) :
    Calls Tryz.prog 66 #[.slice A0 base.length c0, .slice A1 a.length c1, .slice A2 b.length c2] w fun e w' => ∃ v0_ : Value, e = .returned (v0_) ∧ Kd.R k43 43 w' w.heap.size (fun _ => True) v0_ r ∧ Below w.heap.size w w' := by
  unfold ref08_Merge.f at h
  split at h
  case isFalse => cases h
  case isTrue hh =>
  cases h
  obtain ⟨⟨l0, l1, l2⟩, ⟨o0, o1, o2⟩, ⟨q0, q1, q2⟩⟩ := hh
  have hu := Tryz.underlying43
  have HRa := Aside0.mk hr1
  have HRb := Aside0.mk hr2
  have KMl := Aside0.mk (fun (W : World) (hb : Below w.heap.size w W) => ref08_May.calls 400 A0 c0 base (mayP base) W (Kd.C_below hr0 hb) hc0 (rmay_f 400 base (by omega) (by omega) q0))
  have KHl := Aside0.mk (fun (x : Pr) (W : World) (hb : Below w.heap.size w W) => ref08_has.calls 100 A0 c0 base x.f0 x.f1 x.f2.f0 x.f2.f1 (decide (x ∈ base)) W (Kd.C_below hr0 hb) hc0 (rhas_f 100 base x (by omega) (by omega)))
  have KMa := Aside0.mk (fun (W : World) (hb : Below w.heap.size w W) => ref08_May.calls 400 A1 c1 a (mayP a) W (Kd.C_below hr1 hb) hc1 (rmay_f 400 a (by omega) (by omega) q1))
  have KHa := Aside0.mk (fun (x : Pr) (W : World) (hb : Below w.heap.size w W) => ref08_has.calls 100 A1 c1 a x.f0 x.f1 x.f2.f0 x.f2.f1 (decide (x ∈ a)) W (Kd.C_below hr1 hb) hc1 (rhas_f 100 a x (by omega) (by omega)))
  have KMb := Aside0.mk (fun (W : World) (hb : Below w.heap.size w W) => ref08_May.calls 400 A2 c2 b (mayP b) W (Kd.C_below hr2 hb) hc2 (rmay_f 400 b (by omega) (by omega) q2))
  have KHb := Aside0.mk (fun (x : Pr) (W : World) (hb : Below w.heap.size w W) => ref08_has.calls 100 A2 c2 b x.f0 x.f1 x.f2.f0 x.f2.f1 (decide (x ∈ b)) W (Kd.C_below hr2 hb) hc2 (rhas_f 100 b x (by omega) (by omega)))
  have HME := Aside0.mk (mergeQ_eq l0 l1 l2 o0 o1 o2)
  have HMN : Aside0 (¬(mayP base = true ∧ mayP a = true ∧ mayP b = true) → mergeP base a b = []) := ⟨fun hn => by
    unfold mergeP
    rw [if_neg (by simpa using hn)]⟩
  generalize mayP base = ml at *
  generalize mayP a = ma at *
  generalize mayP b = mb at *
  clear hr0 hr1 hr2 hc0 hc1 hc2 q0 q1 q2 o0 o1 o2
  have hB := Below.refl w.heap.size w
  have HB := Aside0.mk hB
  clear hB
  go_enter Tryz.func66, Tryz.ntmps66
  go_wp2_with fail
  refine (KMl.out _ HB.out).mono ?_
  rintro e Wl ⟨rfl, hb⟩
  replace HB := Aside0.mk (below_step HB.out hb)
  clear hb KMl
  go_wp2_with fail
  refine (KMa.out _ HB.out).mono ?_
  rintro e Wa ⟨rfl, hb⟩
  replace HB := Aside0.mk (below_step HB.out hb)
  clear hb KMa
  go_wp2_with fail
  refine (KMb.out _ HB.out).mono ?_
  rintro e Wb ⟨rfl, hb⟩
  replace HB := Aside0.mk (below_step HB.out hb)
  clear hb KMb
  by_cases hm : ml = true ∧ ma = true ∧ mb = true
  rotate_left
  · have HF := Aside0.mk (HMN.out hm)
    clear HMN HME KHl KHa KHb
    cases ml <;> cases ma <;> cases mb
    rotate_right
    · exact absurd ⟨rfl, rfl, rfl⟩ hm
    all_goals
      clear hm
      go_wp2
      go_ret
      exact ⟨_, rfl, by rw [HF.out]; exact Kd.R_nil _ _ _ _ _, HB.out⟩
  obtain ⟨rfl, rfl, rfl⟩ := hm
  have HM := Aside0.mk (HME.out rfl rfl rfl)
  clear HMN HME
  have HXl : Aside0 (((a.filter (condA base b)).foldl insQ []).length ≤ 30) := ⟨by have := foldQ_take (condA base b) [] a a.length; rw [List.take_length] at this; simp at this; omega⟩
  unfold mergeQ at HM
  obtain ⟨XA, hXA⟩ : ∃ XA, (a.filter (condA base b)).foldl insQ [] = XA := ⟨_, rfl⟩
  rw [hXA] at HM HXl
  have HXA := Aside0.mk hXA
  have hxal := HXl.out
  clear hXA HXl
  have HO : Aside0 (Ou k43 43 w (.slice none 0 0) (((a.take 0).filter (condA base b)).foldl insQ []) Wb) := ⟨by simpa using Ou.nil HB.out⟩
  clear HB
  go_wp2
  go_loopw [10, 11] (fun v1 v2 wr => ∃ (v : Value) (j : Nat), v1 = v ∧ v2 = .int .i64 j ∧ j ≤ a.length ∧ Aside0 (Ou k43 43 w v (((a.take j).filter (condA base b)).foldl insQ []) wr)) (fun _ v2 _ => a.length - (intOf v2).toNat)
  case atStart => exact ⟨_, 0, rfl, rfl, Nat.zero_le _, HO⟩
  case round =>
    clear HO
    obtain ⟨v, j, hv, rfl, hj, HO⟩ := hrel
    subst hv
    by_cases hlt : j < a.length
    · obtain ⟨ad, e, hx0, hx1, hx2, hx3⟩ := at_T43 HRa.out (j : Int) (by omega) (by omega)
      cases e
      rw [rdPN a j hlt] at hx0 hx1 hx2 hx3
      simp only [Int.toNat_natCast] at hx0 hx1 hx2 hx3
      have HG := Aside0.mk (foldQ_at (condA base b) [] a j hlt)
      have HXL := Aside0.mk (foldQ_take (condA base b) [] a j)
      have hj0 : (0 : Int) ≤ (j : Int) := by omega
      have hj1 : (j : Int) < (a.length : Int) := by omega
      generalize a[j] = x at *
      generalize ((a.take j).filter (condA base b)).foldl insQ [] = xs at *
      have KP := Aside0.mk (KHb.out x)
      have KQ := Aside0.mk (KHl.out x)
      have z0 := (HO.out.b.cell (World.block_lt_of_cell? w _ hx0)).trans hx0; have z1 := (HO.out.b.cell (World.block_lt_of_cell? w _ hx1)).trans hx1; have z2 := (HO.out.b.cell (World.block_lt_of_cell? w _ hx2)).trans hx2; have z3 := (HO.out.b.cell (World.block_lt_of_cell? w _ hx3)).trans hx3
      have HQ : Aside0 (condA base b x = (decide (x ∈ b) || !decide (x ∈ base))) := ⟨rfl⟩
      generalize decide (x ∈ b) = o at *
      generalize decide (x ∈ base) = d at *
      go_wp2_with fail
      refine (KP.out _ HO.out.b).mono ?_
      rintro e1 w1 ⟨rfl, hb⟩
      replace HO := Aside0.mk (HO.out.go hb)
      clear hb KP z0 z1 z2 z3
      have z0 := (HO.out.b.cell (World.block_lt_of_cell? w _ hx0)).trans hx0; have z1 := (HO.out.b.cell (World.block_lt_of_cell? w _ hx1)).trans hx1; have z2 := (HO.out.b.cell (World.block_lt_of_cell? w _ hx2)).trans hx2; have z3 := (HO.out.b.cell (World.block_lt_of_cell? w _ hx3)).trans hx3
      go_wp2_with fail
      refine (KQ.out _ HO.out.b).mono ?_
      rintro e1 w2 ⟨rfl, hb⟩
      replace HO := Aside0.mk (HO.out.go hb)
      clear hb KQ z0 z1 z2 z3
      have z0 := (HO.out.b.cell (World.block_lt_of_cell? w _ hx0)).trans hx0; have z1 := (HO.out.b.cell (World.block_lt_of_cell? w _ hx1)).trans hx1; have z2 := (HO.out.b.cell (World.block_lt_of_cell? w _ hx2)).trans hx2; have z3 := (HO.out.b.cell (World.block_lt_of_cell? w _ hx3)).trans hx3
      cases o <;> cases d
      all_goals
        first
        | (have HE := Aside0.mk (HG.out.trans (if_pos (HQ.out.trans rfl)))
           clear HG HQ
           go_wp2_with fail
           refine (rpput_calls w _ _ x _ HO.out (by have := HXL.out; (try simp only [List.length_nil] at this); omega)).mono ?_
           rintro e1 w3 ⟨v3, rfl, ho3⟩
           replace HO := Aside0.mk ho3
           rw [← HE.out] at HO
           clear ho3 z0 z1 z2 z3 HE
           go_wp2
           go_roundw
           case rel => exact ⟨v3, j + 1, rfl, by go_num, by omega, HO⟩
           case measure => simp [intOf]; omega)
        | (have HE := Aside0.mk (HG.out.trans (if_neg (by rw [HQ.out]; decide)))
           clear HG HQ
           rw [← HE.out] at HO
           clear z0 z1 z2 z3 HE
           go_wp2
           go_roundw
           case rel => exact ⟨_, j + 1, rfl, by go_num, by omega, HO⟩
           case measure => simp [intOf]; omega)
    · have hjl : j = a.length := by omega
      subst hjl
      rw [List.take_length] at HO
      rw [show (a.filter (condA base b)).foldl insQ [] = XA from HXA.out] at HO
      have HB2 := HO.out.b
      replace HO : Aside0 (Ou k43 43 w _ (((b.take 0).filter (condB base a)).foldl insQ XA) wr) := ⟨by simpa using HO.out⟩
      clear HB2
      go_wp2
      go_loopw [10, 14] (fun v1 v2 wr => ∃ (v : Value) (j : Nat), v1 = v ∧ v2 = .int .i64 j ∧ j ≤ b.length ∧ Aside0 (Ou k43 43 w v (((b.take j).filter (condB base a)).foldl insQ XA) wr)) (fun _ v2 _ => b.length - (intOf v2).toNat)
      case atStart => exact ⟨_, 0, rfl, rfl, Nat.zero_le _, HO⟩
      case round =>
        clear HO
        obtain ⟨v, j, hv, rfl, hj, HO⟩ := hrel
        subst hv
        by_cases hlt : j < b.length
        · obtain ⟨ad, e, hx0, hx1, hx2, hx3⟩ := at_T43 HRb.out (j : Int) (by omega) (by omega)
          cases e
          rw [rdPN b j hlt] at hx0 hx1 hx2 hx3
          simp only [Int.toNat_natCast] at hx0 hx1 hx2 hx3
          have HG := Aside0.mk (foldQ_at (condB base a) XA b j hlt)
          have HXL := Aside0.mk (foldQ_take (condB base a) XA b j)
          have hj0 : (0 : Int) ≤ (j : Int) := by omega
          have hj1 : (j : Int) < (b.length : Int) := by omega
          generalize b[j] = x at *
          generalize ((b.take j).filter (condB base a)).foldl insQ XA = xs at *
          have KP := Aside0.mk (KHa.out x)
          have KQ := Aside0.mk (KHl.out x)
          have z0 := (HO.out.b.cell (World.block_lt_of_cell? w _ hx0)).trans hx0; have z1 := (HO.out.b.cell (World.block_lt_of_cell? w _ hx1)).trans hx1; have z2 := (HO.out.b.cell (World.block_lt_of_cell? w _ hx2)).trans hx2; have z3 := (HO.out.b.cell (World.block_lt_of_cell? w _ hx3)).trans hx3
          have HQ : Aside0 (condB base a x = (!decide (x ∈ a) && !decide (x ∈ base))) := ⟨rfl⟩
          generalize decide (x ∈ a) = o at *
          generalize decide (x ∈ base) = d at *
          go_wp2_with fail
          refine (KP.out _ HO.out.b).mono ?_
          rintro e1 w1 ⟨rfl, hb⟩
          replace HO := Aside0.mk (HO.out.go hb)
          clear hb KP z0 z1 z2 z3
          have z0 := (HO.out.b.cell (World.block_lt_of_cell? w _ hx0)).trans hx0; have z1 := (HO.out.b.cell (World.block_lt_of_cell? w _ hx1)).trans hx1; have z2 := (HO.out.b.cell (World.block_lt_of_cell? w _ hx2)).trans hx2; have z3 := (HO.out.b.cell (World.block_lt_of_cell? w _ hx3)).trans hx3
          go_wp2_with fail
          refine (KQ.out _ HO.out.b).mono ?_
          rintro e1 w2 ⟨rfl, hb⟩
          replace HO := Aside0.mk (HO.out.go hb)
          clear hb KQ z0 z1 z2 z3
          have z0 := (HO.out.b.cell (World.block_lt_of_cell? w _ hx0)).trans hx0; have z1 := (HO.out.b.cell (World.block_lt_of_cell? w _ hx1)).trans hx1; have z2 := (HO.out.b.cell (World.block_lt_of_cell? w _ hx2)).trans hx2; have z3 := (HO.out.b.cell (World.block_lt_of_cell? w _ hx3)).trans hx3
          cases o <;> cases d
          all_goals
            first
            | (have HE := Aside0.mk (HG.out.trans (if_pos (HQ.out.trans rfl)))
               clear HG HQ
               go_wp2_with fail
               refine (rpput_calls w _ _ x _ HO.out (by have := HXL.out; (try simp only [List.length_nil] at this); omega)).mono ?_
               rintro e1 w3 ⟨v3, rfl, ho3⟩
               replace HO := Aside0.mk ho3
               rw [← HE.out] at HO
               clear ho3 z0 z1 z2 z3 HE
               go_wp2
               go_roundw
               case rel => exact ⟨v3, j + 1, rfl, by go_num, by omega, HO⟩
               case measure => simp [intOf]; omega)
            | (have HE := Aside0.mk (HG.out.trans (if_neg (by rw [HQ.out]; decide)))
               clear HG HQ
               rw [← HE.out] at HO
               clear z0 z1 z2 z3 HE
               go_wp2
               go_roundw
               case rel => exact ⟨_, j + 1, rfl, by go_num, by omega, HO⟩
               case measure => simp [intOf]; omega)
        · have hjl : j = b.length := by omega
          subst hjl
          rw [List.take_length] at HO
          go_wp2
          go_ret
          exact ⟨_, rfl, by rw [HM.out]; exact HO.out.r, HO.out.b⟩
end Go.Proofs.YtmcddoolniaehaaGreat.S
end
section
namespace Go.Proofs.YtmcddoolniaehaaGreat.S
open Go.RowKit Go.Proofs.YtmcddoolniaehaaGreatW.PrintWords Go.Proofs.YtmcddoolniaehaaGreatW.PrintLast Go.Proofs.YtmcddoolniaehaaGreatW.PrintMore
attribute [local go_sem] max2_int min2_int max_two min_two max_three min_three max_four min_four   -- for this text's walks alone
set_option linter.unusedVariables false
set_option linter.unusedSimpArgs false

attribute [local go_sem high] eqA73
def ref06_Same.l0 : Nat → List (S73) → List (S73) → Int → Option (Bool)
 | 0, _, _, _ => none
 | k + 1, x0, x1, x5 => if x5 < (x0.length : Int) then (if 0 ≤ x5 then (if x5 < (x1.length : Int) then (if (!((((rd_T73 x0 x5).f0).toList) == (((rd_T73 x1 x5).f0).toList)) || (!(((rd_T73 x0 x5).f1) == ((rd_T73 x1 x5).f1)))) = true then (some false) else (ref06_Same.l0 k x0 x1 (wrap64 (x5 + 1)))) else (none)) else (none)) else (some true)
def ref06_Same.f (k : Nat) (l0 : List (S73)) (l1 : List (S73)) : Option (Bool) := if (l0.length : Int) = (l1.length : Int) then (ref06_Same.l0 k l0 l1 0) else (some false)
theorem ref06_Same.mono_l : ∀ k, (∀ y0 y1 y2, LeO (ref06_Same.l0 k y0 y1 y2) (ref06_Same.l0 (k + 1) y0 y1 y2))
 | 0 => fun _ _ _ r h => by simp [ref06_Same.l0] at h
 | k + 1 => by
  have ih0 := ref06_Same.mono_l k
  ·intro y0 y1 y2
   unfold ref06_Same.l0
   repeat' first
   | (with_reducible exact ih0 _ _ _)
   | (with_reducible exact LeO.refl _)
   | (with_reducible exact LeO.none _)
   | (with_reducible refine LeO.ite ?_ ?_)
   | (with_reducible refine LeO.bind ?_ (fun _ => ?_))
   | exact ih0 _ _ _
   | exact LeO.none _
   | refine LeO.ite ?_ ?_
   | refine LeO.bind ?_ (fun _ => ?_)
theorem ref06_Same.mono : ∀ a0 a1 k, LeO (ref06_Same.f k a0 a1) (ref06_Same.f (k + 1) a0 a1) := by
 intro a0 a1 k
 have ih0 := ref06_Same.mono_l k
 unfold ref06_Same.f
 repeat' first
   | (with_reducible exact ih0 _ _ _)
   | (with_reducible exact LeO.refl _)
   | (with_reducible exact LeO.none _)
   | (with_reducible refine LeO.ite ?_ ?_)
   | (with_reducible refine LeO.bind ?_ (fun _ => ?_))
   | exact ih0 _ _ _
   | exact LeO.none _
   | refine LeO.ite ?_ ?_
   | refine LeO.bind ?_ (fun _ => ?_)
set_option maxHeartbeats 8000000 in
set_option maxRecDepth 100000 in
theorem ref06_Same.calls (k : Nat) (A0 : Option Addr) (c0 : Nat) (l0 : List (S73)) (A1 : Option Addr) (c1 : Nat) (l1 : List (S73)) (r : Bool) (w : World) (hr0 : Kd.C k73 w A0 l0.length l0) (hc0 : l0.length ≤ c0) (hr1 : Kd.C k73 w A1 l1.length l1) (hc1 : l1.length ≤ c1) (h : ref06_Same.f k l0 l1 = some r) :
  Calls Tryz.prog 44 #[.slice A0 l0.length c0, .slice A1 l1.length c1] w fun e w' => e = .returned (.bool r) ∧ Drawn0 w w' := by
 have hu73 := Tryz.underlying73
 have HR0 := Aside0.mk hr0
 have HC0 := Aside0.mk hc0
 clear hr0 hc0
 have HR1 := Aside0.mk hr1
 have HC1 := Aside0.mk hc1
 clear hr1 hc1
 have H : (if (l0.length : Int) = (l1.length : Int) then (ref06_Same.l0 k l0 l1 0) else (some false)) = some r := h
 clear h
 by_cases c3 : (l0.length : Int) = (l1.length : Int)
 ·rw [if_pos c3] at H
  have c3b0 : ((l0.length : Int) == (l1.length : Int)) = true := beq_iff_eq.mpr c3
  have c3b1 : ((l0.length : Int) != (l1.length : Int)) = false := bne_eq_false_iff_eq.mpr c3
  have c3b2 : (l0.length == l1.length) = true := by first | simpa using c3 | (simp at c3 ⊢; omega)
  clear c3
  have H' := Aside0.mk H
  clear H
  go_enter Tryz.func44, Tryz.ntmps44
  go_wp2
  repeat (go_quiet (fail); try go_wp2)
  go_loopg [5] k (fun kq v5 w' => ∃ (x5_1 : Int), v5 = .int .i64 x5_1 ∧ Aside0 (ref06_Same.l0 kq l0 l1 x5_1 = some r) ∧ Aside0 (kq ≤ k) ∧ Drawn0 w w')
  case atStart => exact ⟨(0), (by first | rfl | (simp; done) | (simp [*]; done)), H', ⟨Nat.le_refl _⟩, by repeat (first | exact Drawn0.refl _ | apply Drawn0.step)⟩
  case round =>
   clear H'
   try clear c1
   try clear p2
   try clear c3
   try clear c3b0
   try clear c3b1
   try clear c3b2
   obtain ⟨x5_1, rfl, HA, HK1, ⟨m1, rfl⟩⟩ := hrel
   cases gk with
   | zero => exact absurd HA.out (by simp [ref06_Same.l0])
   | succ k1 =>
    have H := HA.out
    clear HA
    simp only [ref06_Same.l0] at H
    by_cases c4 : x5_1 < (l0.length : Int)
    ·rw [if_pos c4] at H
     have c4b0 : decide (x5_1 < (l0.length : Int)) = true := decide_eq_true c4
     clear c4
     by_cases c5 : 0 ≤ x5_1
     ·rw [if_pos c5] at H
      have c5b0 : decide (0 ≤ x5_1) = true := decide_eq_true c5
      clear c5
      by_cases c6 : x5_1 < (l1.length : Int)
      ·rw [if_pos c6] at H
       have c6b0 : decide (x5_1 < (l1.length : Int)) = true := decide_eq_true c6
       clear c6
       by_cases c7 : (!((((rd_T73 l0 x5_1).f0).toList) == (((rd_T73 l1 x5_1).f0).toList)) || (!(((rd_T73 l0 x5_1).f1) == ((rd_T73 l1 x5_1).f1)))) = true
       ·rw [if_pos c7] at H
        have c7b0 : (!((((rd_T73 l0 x5_1).f0).toList) == (((rd_T73 l1 x5_1).f0).toList)) || (!(((rd_T73 l0 x5_1).f1) == ((rd_T73 l1 x5_1).f1)))) = true := c7
        clear c7
        obtain rfl := Option.some.inj H
        have p215 : 0 ≤ (x5_1 : Int) := of_decide_eq_true (by first | (with_reducible assumption) | assumption)
        have q215 : x5_1 < (l0.length : Int) := of_decide_eq_true (by first | (with_reducible assumption) | assumption)
        obtain ⟨ad215, e215, hx215_0, hx215_1⟩ := at_T73 HR0.out x5_1 p215 q215
        cases e215
        replace p215 := eq_true p215
        replace q215 := eq_true q215
        have p216 : 0 ≤ (x5_1 : Int) := of_decide_eq_true (by first | (with_reducible assumption) | assumption)
        have q216 : x5_1 < (l1.length : Int) := of_decide_eq_true (by first | (with_reducible assumption) | assumption)
        obtain ⟨ad216, e216, hx216_0, hx216_1⟩ := at_T73 HR1.out x5_1 p216 q216
        cases e216
        replace p216 := eq_true p216
        replace q216 := eq_true q216
        go_wp2
        repeat (go_quiet (fail); try go_wp2)
        go_ret
        exact ⟨by first | rfl | (simp; done) | (simp [*]; done), by repeat (first | exact Drawn0.refl _ | apply Drawn0.step)⟩
       ·rw [if_neg c7] at H
        have c7b0 : (!((((rd_T73 l0 x5_1).f0).toList) == (((rd_T73 l1 x5_1).f0).toList)) || (!(((rd_T73 l0 x5_1).f1) == ((rd_T73 l1 x5_1).f1)))) = false := by simpa using c7
        clear c7
        have H' := Aside0.mk H
        clear H
        have p215 : 0 ≤ (x5_1 : Int) := of_decide_eq_true (by first | (with_reducible assumption) | assumption)
        have q215 : x5_1 < (l0.length : Int) := of_decide_eq_true (by first | (with_reducible assumption) | assumption)
        obtain ⟨ad215, e215, hx215_0, hx215_1⟩ := at_T73 HR0.out x5_1 p215 q215
        cases e215
        replace p215 := eq_true p215
        replace q215 := eq_true q215
        have p216 : 0 ≤ (x5_1 : Int) := of_decide_eq_true (by first | (with_reducible assumption) | assumption)
        have q216 : x5_1 < (l1.length : Int) := of_decide_eq_true (by first | (with_reducible assumption) | assumption)
        obtain ⟨ad216, e216, hx216_0, hx216_1⟩ := at_T73 HR1.out x5_1 p216 q216
        cases e216
        replace p216 := eq_true p216
        replace q216 := eq_true q216
        go_wp2
        repeat (go_quiet (fail); try go_wp2)
        go_roundg k1
        case measure => have := HK1.out; omega
        case rel => exact ⟨(wrap64 (x5_1 + 1)), (by first | rfl | (simp; done) | (simp [*]; done)), H', ⟨by have := HK1.out; omega⟩, by repeat (first | exact Drawn0.refl _ | apply Drawn0.step)⟩
      ·rw [if_neg c6] at H
       exact absurd H (by simp)
     ·rw [if_neg c5] at H
      exact absurd H (by simp)
    ·rw [if_neg c4] at H
     have c4b0 : decide (x5_1 < (l0.length : Int)) = false := decide_eq_false c4
     clear c4
     obtain rfl := Option.some.inj H
     go_wp2
     repeat (go_quiet (fail); try go_wp2)
     go_ret
     exact ⟨by first | rfl | (simp; done) | (simp [*]; done), by repeat (first | exact Drawn0.refl _ | apply Drawn0.step)⟩
 ·rw [if_neg c3] at H
  have c3b0 : ((l0.length : Int) == (l1.length : Int)) = false := beq_eq_false_iff_ne.mpr c3
  have c3b1 : ((l0.length : Int) != (l1.length : Int)) = true := bne_iff_ne.mpr c3
  have c3b2 : (l0.length == l1.length) = false := by first | simpa using c3 | (simp at c3 ⊢; omega)
  obtain rfl := Option.some.inj H
  go_enter Tryz.func44, Tryz.ntmps44
  go_wp2
  repeat (go_quiet (fail); try go_wp2)
  go_ret
  exact ⟨by first | rfl | (simp; done) | (simp [*]; done), by repeat (first | exact Drawn0.refl _ | apply Drawn0.step)⟩

end Go.Proofs.YtmcddoolniaehaaGreat.S
end
section
namespace Go.Proofs.YtmcddoolniaehaaGreat.S
open Go.RowKit Go.Proofs.YtmcddoolniaehaaGreatW.PrintWords Go.Proofs.YtmcddoolniaehaaGreatW.PrintLast Go.Proofs.YtmcddoolniaehaaGreatW.PrintMore
attribute [local go_sem] max2_int min2_int max_two min_two max_three min_three max_four min_four   -- for this text's walks alone
set_option linter.unusedVariables false
set_option linter.unusedSimpArgs false

attribute [local go_sem high] eqA47
def ref07_Same.l0 : Nat → List (S47) → List (S47) → Int → Option (Bool)
 | 0, _, _, _ => none
 | k + 1, x0, x1, x5 => if x5 < (x0.length : Int) then (if 0 ≤ x5 then (if x5 < (x1.length : Int) then (if (!((((rd_T47 x0 x5).f0).toList) == (((rd_T47 x1 x5).f0).toList)) || (!((((rd_T47 x0 x5).f1).toList) == (((rd_T47 x1 x5).f1).toList)) || (!(((rd_T47 x0 x5).f2) == ((rd_T47 x1 x5).f2)) || ((!(((rd_T47 x0 x5).f3.f0) == ((rd_T47 x1 x5).f3.f0)) || (!(((rd_T47 x0 x5).f3.f1) == ((rd_T47 x1 x5).f3.f1)))))))) = true then (some false) else (ref07_Same.l0 k x0 x1 (wrap64 (x5 + 1)))) else (none)) else (none)) else (some true)
def ref07_Same.f (k : Nat) (l0 : List (S47)) (l1 : List (S47)) : Option (Bool) := if (l0.length : Int) = (l1.length : Int) then (ref07_Same.l0 k l0 l1 0) else (some false)
theorem ref07_Same.mono_l : ∀ k, (∀ y0 y1 y2, LeO (ref07_Same.l0 k y0 y1 y2) (ref07_Same.l0 (k + 1) y0 y1 y2))
 | 0 => fun _ _ _ r h => by simp [ref07_Same.l0] at h
 | k + 1 => by
  have ih0 := ref07_Same.mono_l k
  ·intro y0 y1 y2
   unfold ref07_Same.l0
   repeat' first
   | (with_reducible exact ih0 _ _ _)
   | (with_reducible exact LeO.refl _)
   | (with_reducible exact LeO.none _)
   | (with_reducible refine LeO.ite ?_ ?_)
   | (with_reducible refine LeO.bind ?_ (fun _ => ?_))
   | exact ih0 _ _ _
   | exact LeO.none _
   | refine LeO.ite ?_ ?_
   | refine LeO.bind ?_ (fun _ => ?_)
theorem ref07_Same.mono : ∀ a0 a1 k, LeO (ref07_Same.f k a0 a1) (ref07_Same.f (k + 1) a0 a1) := by
 intro a0 a1 k
 have ih0 := ref07_Same.mono_l k
 unfold ref07_Same.f
 repeat' first
   | (with_reducible exact ih0 _ _ _)
   | (with_reducible exact LeO.refl _)
   | (with_reducible exact LeO.none _)
   | (with_reducible refine LeO.ite ?_ ?_)
   | (with_reducible refine LeO.bind ?_ (fun _ => ?_))
   | exact ih0 _ _ _
   | exact LeO.none _
   | refine LeO.ite ?_ ?_
   | refine LeO.bind ?_ (fun _ => ?_)
set_option maxHeartbeats 8000000 in
set_option maxRecDepth 100000 in
theorem ref07_Same.calls (k : Nat) (A0 : Option Addr) (c0 : Nat) (l0 : List (S47)) (A1 : Option Addr) (c1 : Nat) (l1 : List (S47)) (r : Bool) (w : World) (hr0 : Kd.C k47 w A0 l0.length l0) (hc0 : l0.length ≤ c0) (hr1 : Kd.C k47 w A1 l1.length l1) (hc1 : l1.length ≤ c1) (h : ref07_Same.f k l0 l1 = some r) :
  Calls Tryz.prog 45 #[.slice A0 l0.length c0, .slice A1 l1.length c1] w fun e w' => e = .returned (.bool r) ∧ Drawn0 w w' := by
 have hu47 := Tryz.underlying47
 have HR0 := Aside0.mk hr0
 have HC0 := Aside0.mk hc0
 clear hr0 hc0
 have HR1 := Aside0.mk hr1
 have HC1 := Aside0.mk hc1
 clear hr1 hc1
 have H : (if (l0.length : Int) = (l1.length : Int) then (ref07_Same.l0 k l0 l1 0) else (some false)) = some r := h
 clear h
 by_cases c3 : (l0.length : Int) = (l1.length : Int)
 ·rw [if_pos c3] at H
  have c3b0 : ((l0.length : Int) == (l1.length : Int)) = true := beq_iff_eq.mpr c3
  have c3b1 : ((l0.length : Int) != (l1.length : Int)) = false := bne_eq_false_iff_eq.mpr c3
  have c3b2 : (l0.length == l1.length) = true := by first | simpa using c3 | (simp at c3 ⊢; omega)
  clear c3
  have H' := Aside0.mk H
  clear H
  go_enter Tryz.func45, Tryz.ntmps45
  go_wp2
  repeat (go_quiet (fail); try go_wp2)
  go_loopg [5] k (fun kq v5 w' => ∃ (x5_1 : Int), v5 = .int .i64 x5_1 ∧ Aside0 (ref07_Same.l0 kq l0 l1 x5_1 = some r) ∧ Aside0 (kq ≤ k) ∧ Drawn0 w w')
  case atStart => exact ⟨(0), (by first | rfl | (simp; done) | (simp [*]; done)), H', ⟨Nat.le_refl _⟩, by repeat (first | exact Drawn0.refl _ | apply Drawn0.step)⟩
  case round =>
   clear H'
   try clear c1
   try clear p2
   try clear c3
   try clear c3b0
   try clear c3b1
   try clear c3b2
   obtain ⟨x5_1, rfl, HA, HK1, ⟨m1, rfl⟩⟩ := hrel
   cases gk with
   | zero => exact absurd HA.out (by simp [ref07_Same.l0])
   | succ k1 =>
    have H := HA.out
    clear HA
    simp only [ref07_Same.l0] at H
    by_cases c4 : x5_1 < (l0.length : Int)
    ·rw [if_pos c4] at H
     have c4b0 : decide (x5_1 < (l0.length : Int)) = true := decide_eq_true c4
     clear c4
     by_cases c5 : 0 ≤ x5_1
     ·rw [if_pos c5] at H
      have c5b0 : decide (0 ≤ x5_1) = true := decide_eq_true c5
      clear c5
      by_cases c6 : x5_1 < (l1.length : Int)
      ·rw [if_pos c6] at H
       have c6b0 : decide (x5_1 < (l1.length : Int)) = true := decide_eq_true c6
       clear c6
       by_cases c7 : (!((((rd_T47 l0 x5_1).f0).toList) == (((rd_T47 l1 x5_1).f0).toList)) || (!((((rd_T47 l0 x5_1).f1).toList) == (((rd_T47 l1 x5_1).f1).toList)) || (!(((rd_T47 l0 x5_1).f2) == ((rd_T47 l1 x5_1).f2)) || ((!(((rd_T47 l0 x5_1).f3.f0) == ((rd_T47 l1 x5_1).f3.f0)) || (!(((rd_T47 l0 x5_1).f3.f1) == ((rd_T47 l1 x5_1).f3.f1)))))))) = true
       ·rw [if_pos c7] at H
        have c7b0 : (!((((rd_T47 l0 x5_1).f0).toList) == (((rd_T47 l1 x5_1).f0).toList)) || (!((((rd_T47 l0 x5_1).f1).toList) == (((rd_T47 l1 x5_1).f1).toList)) || (!(((rd_T47 l0 x5_1).f2) == ((rd_T47 l1 x5_1).f2)) || ((!(((rd_T47 l0 x5_1).f3.f0) == ((rd_T47 l1 x5_1).f3.f0)) || (!(((rd_T47 l0 x5_1).f3.f1) == ((rd_T47 l1 x5_1).f3.f1)))))))) = true := c7
        clear c7
        obtain rfl := Option.some.inj H
        have p217 : 0 ≤ (x5_1 : Int) := of_decide_eq_true (by first | (with_reducible assumption) | assumption)
        have q217 : x5_1 < (l0.length : Int) := of_decide_eq_true (by first | (with_reducible assumption) | assumption)
        obtain ⟨ad217, e217, hx217_0, hx217_1, hx217_2, hx217_3, hx217_4⟩ := at_T47 HR0.out x5_1 p217 q217
        cases e217
        replace p217 := eq_true p217
        replace q217 := eq_true q217
        have p218 : 0 ≤ (x5_1 : Int) := of_decide_eq_true (by first | (with_reducible assumption) | assumption)
        have q218 : x5_1 < (l1.length : Int) := of_decide_eq_true (by first | (with_reducible assumption) | assumption)
        obtain ⟨ad218, e218, hx218_0, hx218_1, hx218_2, hx218_3, hx218_4⟩ := at_T47 HR1.out x5_1 p218 q218
        cases e218
        replace p218 := eq_true p218
        replace q218 := eq_true q218
        go_wp2
        repeat (go_quiet (fail); try go_wp2)
        go_ret
        exact ⟨by first | rfl | (simp; done) | (simp [*]; done), by repeat (first | exact Drawn0.refl _ | apply Drawn0.step)⟩
       ·rw [if_neg c7] at H
        have c7b0 : (!((((rd_T47 l0 x5_1).f0).toList) == (((rd_T47 l1 x5_1).f0).toList)) || (!((((rd_T47 l0 x5_1).f1).toList) == (((rd_T47 l1 x5_1).f1).toList)) || (!(((rd_T47 l0 x5_1).f2) == ((rd_T47 l1 x5_1).f2)) || ((!(((rd_T47 l0 x5_1).f3.f0) == ((rd_T47 l1 x5_1).f3.f0)) || (!(((rd_T47 l0 x5_1).f3.f1) == ((rd_T47 l1 x5_1).f3.f1)))))))) = false := by simpa using c7
        clear c7
        have H' := Aside0.mk H
        clear H
        have p217 : 0 ≤ (x5_1 : Int) := of_decide_eq_true (by first | (with_reducible assumption) | assumption)
        have q217 : x5_1 < (l0.length : Int) := of_decide_eq_true (by first | (with_reducible assumption) | assumption)
        obtain ⟨ad217, e217, hx217_0, hx217_1, hx217_2, hx217_3, hx217_4⟩ := at_T47 HR0.out x5_1 p217 q217
        cases e217
        replace p217 := eq_true p217
        replace q217 := eq_true q217
        have p218 : 0 ≤ (x5_1 : Int) := of_decide_eq_true (by first | (with_reducible assumption) | assumption)
        have q218 : x5_1 < (l1.length : Int) := of_decide_eq_true (by first | (with_reducible assumption) | assumption)
        obtain ⟨ad218, e218, hx218_0, hx218_1, hx218_2, hx218_3, hx218_4⟩ := at_T47 HR1.out x5_1 p218 q218
        cases e218
        replace p218 := eq_true p218
        replace q218 := eq_true q218
        go_wp2
        repeat (go_quiet (fail); try go_wp2)
        go_roundg k1
        case measure => have := HK1.out; omega
        case rel => exact ⟨(wrap64 (x5_1 + 1)), (by first | rfl | (simp; done) | (simp [*]; done)), H', ⟨by have := HK1.out; omega⟩, by repeat (first | exact Drawn0.refl _ | apply Drawn0.step)⟩
      ·rw [if_neg c6] at H
       exact absurd H (by simp)
     ·rw [if_neg c5] at H
      exact absurd H (by simp)
    ·rw [if_neg c4] at H
     have c4b0 : decide (x5_1 < (l0.length : Int)) = false := decide_eq_false c4
     clear c4
     obtain rfl := Option.some.inj H
     go_wp2
     repeat (go_quiet (fail); try go_wp2)
     go_ret
     exact ⟨by first | rfl | (simp; done) | (simp [*]; done), by repeat (first | exact Drawn0.refl _ | apply Drawn0.step)⟩
 ·rw [if_neg c3] at H
  have c3b0 : ((l0.length : Int) == (l1.length : Int)) = false := beq_eq_false_iff_ne.mpr c3
  have c3b1 : ((l0.length : Int) != (l1.length : Int)) = true := bne_iff_ne.mpr c3
  have c3b2 : (l0.length == l1.length) = false := by first | simpa using c3 | (simp at c3 ⊢; omega)
  obtain rfl := Option.some.inj H
  go_enter Tryz.func45, Tryz.ntmps45
  go_wp2
  repeat (go_quiet (fail); try go_wp2)
  go_ret
  exact ⟨by first | rfl | (simp; done) | (simp [*]; done), by repeat (first | exact Drawn0.refl _ | apply Drawn0.step)⟩

end Go.Proofs.YtmcddoolniaehaaGreat.S
end
section
namespace Go.Proofs.YtmcddoolniaehaaGreat.S
open Go.RowKit Go.Proofs.YtmcddoolniaehaaGreatW.PrintWords Go.Proofs.YtmcddoolniaehaaGreatW.PrintLast Go.Proofs.YtmcddoolniaehaaGreatW.PrintMore
attribute [local go_sem] max2_int min2_int max_two min_two max_three min_three max_four min_four   -- for this text's walks alone
set_option linter.unusedVariables false
set_option linter.unusedSimpArgs false

attribute [local go_sem high] eqA43
def ref08_Same.l0 : Nat → List (S43) → List (S43) → Int → Option (Bool)
 | 0, _, _, _ => none
 | k + 1, x0, x1, x5 => if x5 < (x0.length : Int) then (if 0 ≤ x5 then (if x5 < (x1.length : Int) then (if (!((((rd_T43 x0 x5).f0).toList) == (((rd_T43 x1 x5).f0).toList)) || (!((((rd_T43 x0 x5).f1).toList) == (((rd_T43 x1 x5).f1).toList)) || ((!(((rd_T43 x0 x5).f2.f0) == ((rd_T43 x1 x5).f2.f0)) || (!(((rd_T43 x0 x5).f2.f1) == ((rd_T43 x1 x5).f2.f1))))))) = true then (some false) else (ref08_Same.l0 k x0 x1 (wrap64 (x5 + 1)))) else (none)) else (none)) else (some true)
def ref08_Same.f (k : Nat) (l0 : List (S43)) (l1 : List (S43)) : Option (Bool) := if (l0.length : Int) = (l1.length : Int) then (ref08_Same.l0 k l0 l1 0) else (some false)
theorem ref08_Same.mono_l : ∀ k, (∀ y0 y1 y2, LeO (ref08_Same.l0 k y0 y1 y2) (ref08_Same.l0 (k + 1) y0 y1 y2))
 | 0 => fun _ _ _ r h => by simp [ref08_Same.l0] at h
 | k + 1 => by
  have ih0 := ref08_Same.mono_l k
  ·intro y0 y1 y2
   unfold ref08_Same.l0
   repeat' first
   | (with_reducible exact ih0 _ _ _)
   | (with_reducible exact LeO.refl _)
   | (with_reducible exact LeO.none _)
   | (with_reducible refine LeO.ite ?_ ?_)
   | (with_reducible refine LeO.bind ?_ (fun _ => ?_))
   | exact ih0 _ _ _
   | exact LeO.none _
   | refine LeO.ite ?_ ?_
   | refine LeO.bind ?_ (fun _ => ?_)
theorem ref08_Same.mono : ∀ a0 a1 k, LeO (ref08_Same.f k a0 a1) (ref08_Same.f (k + 1) a0 a1) := by
 intro a0 a1 k
 have ih0 := ref08_Same.mono_l k
 unfold ref08_Same.f
 repeat' first
   | (with_reducible exact ih0 _ _ _)
   | (with_reducible exact LeO.refl _)
   | (with_reducible exact LeO.none _)
   | (with_reducible refine LeO.ite ?_ ?_)
   | (with_reducible refine LeO.bind ?_ (fun _ => ?_))
   | exact ih0 _ _ _
   | exact LeO.none _
   | refine LeO.ite ?_ ?_
   | refine LeO.bind ?_ (fun _ => ?_)
set_option maxHeartbeats 8000000 in
set_option maxRecDepth 100000 in
theorem ref08_Same.calls (k : Nat) (A0 : Option Addr) (c0 : Nat) (l0 : List (S43)) (A1 : Option Addr) (c1 : Nat) (l1 : List (S43)) (r : Bool) (w : World) (hr0 : Kd.C k43 w A0 l0.length l0) (hc0 : l0.length ≤ c0) (hr1 : Kd.C k43 w A1 l1.length l1) (hc1 : l1.length ≤ c1) (h : ref08_Same.f k l0 l1 = some r) :
  Calls Tryz.prog 46 #[.slice A0 l0.length c0, .slice A1 l1.length c1] w fun e w' => e = .returned (.bool r) ∧ Drawn0 w w' := by
 have hu43 := Tryz.underlying43
 have HR0 := Aside0.mk hr0
 have HC0 := Aside0.mk hc0
 clear hr0 hc0
 have HR1 := Aside0.mk hr1
 have HC1 := Aside0.mk hc1
 clear hr1 hc1
 have H : (if (l0.length : Int) = (l1.length : Int) then (ref08_Same.l0 k l0 l1 0) else (some false)) = some r := h
 clear h
 by_cases c3 : (l0.length : Int) = (l1.length : Int)
 ·rw [if_pos c3] at H
  have c3b0 : ((l0.length : Int) == (l1.length : Int)) = true := beq_iff_eq.mpr c3
  have c3b1 : ((l0.length : Int) != (l1.length : Int)) = false := bne_eq_false_iff_eq.mpr c3
  have c3b2 : (l0.length == l1.length) = true := by first | simpa using c3 | (simp at c3 ⊢; omega)
  clear c3
  have H' := Aside0.mk H
  clear H
  go_enter Tryz.func46, Tryz.ntmps46
  go_wp2
  repeat (go_quiet (fail); try go_wp2)
  go_loopg [5] k (fun kq v5 w' => ∃ (x5_1 : Int), v5 = .int .i64 x5_1 ∧ Aside0 (ref08_Same.l0 kq l0 l1 x5_1 = some r) ∧ Aside0 (kq ≤ k) ∧ Drawn0 w w')
  case atStart => exact ⟨(0), (by first | rfl | (simp; done) | (simp [*]; done)), H', ⟨Nat.le_refl _⟩, by repeat (first | exact Drawn0.refl _ | apply Drawn0.step)⟩
  case round =>
   clear H'
   try clear c1
   try clear p2
   try clear c3
   try clear c3b0
   try clear c3b1
   try clear c3b2
   obtain ⟨x5_1, rfl, HA, HK1, ⟨m1, rfl⟩⟩ := hrel
   cases gk with
   | zero => exact absurd HA.out (by simp [ref08_Same.l0])
   | succ k1 =>
    have H := HA.out
    clear HA
    simp only [ref08_Same.l0] at H
    by_cases c4 : x5_1 < (l0.length : Int)
    ·rw [if_pos c4] at H
     have c4b0 : decide (x5_1 < (l0.length : Int)) = true := decide_eq_true c4
     clear c4
     by_cases c5 : 0 ≤ x5_1
     ·rw [if_pos c5] at H
      have c5b0 : decide (0 ≤ x5_1) = true := decide_eq_true c5
      clear c5
      by_cases c6 : x5_1 < (l1.length : Int)
      ·rw [if_pos c6] at H
       have c6b0 : decide (x5_1 < (l1.length : Int)) = true := decide_eq_true c6
       clear c6
       by_cases c7 : (!((((rd_T43 l0 x5_1).f0).toList) == (((rd_T43 l1 x5_1).f0).toList)) || (!((((rd_T43 l0 x5_1).f1).toList) == (((rd_T43 l1 x5_1).f1).toList)) || ((!(((rd_T43 l0 x5_1).f2.f0) == ((rd_T43 l1 x5_1).f2.f0)) || (!(((rd_T43 l0 x5_1).f2.f1) == ((rd_T43 l1 x5_1).f2.f1))))))) = true
       ·rw [if_pos c7] at H
        have c7b0 : (!((((rd_T43 l0 x5_1).f0).toList) == (((rd_T43 l1 x5_1).f0).toList)) || (!((((rd_T43 l0 x5_1).f1).toList) == (((rd_T43 l1 x5_1).f1).toList)) || ((!(((rd_T43 l0 x5_1).f2.f0) == ((rd_T43 l1 x5_1).f2.f0)) || (!(((rd_T43 l0 x5_1).f2.f1) == ((rd_T43 l1 x5_1).f2.f1))))))) = true := c7
        clear c7
        obtain rfl := Option.some.inj H
        have p219 : 0 ≤ (x5_1 : Int) := of_decide_eq_true (by first | (with_reducible assumption) | assumption)
        have q219 : x5_1 < (l0.length : Int) := of_decide_eq_true (by first | (with_reducible assumption) | assumption)
        obtain ⟨ad219, e219, hx219_0, hx219_1, hx219_2, hx219_3⟩ := at_T43 HR0.out x5_1 p219 q219
        cases e219
        replace p219 := eq_true p219
        replace q219 := eq_true q219
        have p220 : 0 ≤ (x5_1 : Int) := of_decide_eq_true (by first | (with_reducible assumption) | assumption)
        have q220 : x5_1 < (l1.length : Int) := of_decide_eq_true (by first | (with_reducible assumption) | assumption)
        obtain ⟨ad220, e220, hx220_0, hx220_1, hx220_2, hx220_3⟩ := at_T43 HR1.out x5_1 p220 q220
        cases e220
        replace p220 := eq_true p220
        replace q220 := eq_true q220
        go_wp2
        repeat (go_quiet (fail); try go_wp2)
        go_ret
        exact ⟨by first | rfl | (simp; done) | (simp [*]; done), by repeat (first | exact Drawn0.refl _ | apply Drawn0.step)⟩
       ·rw [if_neg c7] at H
        have c7b0 : (!((((rd_T43 l0 x5_1).f0).toList) == (((rd_T43 l1 x5_1).f0).toList)) || (!((((rd_T43 l0 x5_1).f1).toList) == (((rd_T43 l1 x5_1).f1).toList)) || ((!(((rd_T43 l0 x5_1).f2.f0) == ((rd_T43 l1 x5_1).f2.f0)) || (!(((rd_T43 l0 x5_1).f2.f1) == ((rd_T43 l1 x5_1).f2.f1))))))) = false := by simpa using c7
        clear c7
        have H' := Aside0.mk H
        clear H
        have p219 : 0 ≤ (x5_1 : Int) := of_decide_eq_true (by first | (with_reducible assumption) | assumption)
        have q219 : x5_1 < (l0.length : Int) := of_decide_eq_true (by first | (with_reducible assumption) | assumption)
        obtain ⟨ad219, e219, hx219_0, hx219_1, hx219_2, hx219_3⟩ := at_T43 HR0.out x5_1 p219 q219
        cases e219
        replace p219 := eq_true p219
        replace q219 := eq_true q219
        have p220 : 0 ≤ (x5_1 : Int) := of_decide_eq_true (by first | (with_reducible assumption) | assumption)
        have q220 : x5_1 < (l1.length : Int) := of_decide_eq_true (by first | (with_reducible assumption) | assumption)
        obtain ⟨ad220, e220, hx220_0, hx220_1, hx220_2, hx220_3⟩ := at_T43 HR1.out x5_1 p220 q220
        cases e220
        replace p220 := eq_true p220
        replace q220 := eq_true q220
        go_wp2
        repeat (go_quiet (fail); try go_wp2)
        go_roundg k1
        case measure => have := HK1.out; omega
        case rel => exact ⟨(wrap64 (x5_1 + 1)), (by first | rfl | (simp; done) | (simp [*]; done)), H', ⟨by have := HK1.out; omega⟩, by repeat (first | exact Drawn0.refl _ | apply Drawn0.step)⟩
      ·rw [if_neg c6] at H
       exact absurd H (by simp)
     ·rw [if_neg c5] at H
      exact absurd H (by simp)
    ·rw [if_neg c4] at H
     have c4b0 : decide (x5_1 < (l0.length : Int)) = false := decide_eq_false c4
     clear c4
     obtain rfl := Option.some.inj H
     go_wp2
     repeat (go_quiet (fail); try go_wp2)
     go_ret
     exact ⟨by first | rfl | (simp; done) | (simp [*]; done), by repeat (first | exact Drawn0.refl _ | apply Drawn0.step)⟩
 ·rw [if_neg c3] at H
  have c3b0 : ((l0.length : Int) == (l1.length : Int)) = false := beq_eq_false_iff_ne.mpr c3
  have c3b1 : ((l0.length : Int) != (l1.length : Int)) = true := bne_iff_ne.mpr c3
  have c3b2 : (l0.length == l1.length) = false := by first | simpa using c3 | (simp at c3 ⊢; omega)
  obtain rfl := Option.some.inj H
  go_enter Tryz.func46, Tryz.ntmps46
  go_wp2
  repeat (go_quiet (fail); try go_wp2)
  go_ret
  exact ⟨by first | rfl | (simp; done) | (simp [*]; done), by repeat (first | exact Drawn0.refl _ | apply Drawn0.step)⟩

end Go.Proofs.YtmcddoolniaehaaGreat.S
end
