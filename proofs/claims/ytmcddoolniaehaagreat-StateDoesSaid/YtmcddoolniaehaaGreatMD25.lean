/- Several of the walk's texts in one: SR9Put. -/
import Derived.Test.YtmcddoolniaehaaGreatMD21
import Derived.Test.YtmcddoolniaehaaGreatMD24
section
namespace Go.Proofs.YtmcddoolniaehaaGreat.S
open Go.RowKit Go.Proofs.YtmcddoolniaehaaGreatW.PrintWords Go.Proofs.YtmcddoolniaehaaGreatW.PrintLast Go.Proofs.YtmcddoolniaehaaGreatW.PrintMore Go.Proofs.YtmcddoolniaehaaGreatW
set_option linter.unusedVariables false
set_option linter.unusedSimpArgs false
set_option maxHeartbeats 16000000 in
set_option maxRecDepth 100000 in
theorem r9put_calls {W : World} {cs : List Value} {s : St} (hv : StV W cs s) (h : FitR s) (hi : inL s.c) : Calls Tryz.prog 17 #[.agg cs.toArray] W (RetB W (putS s.c s.r s.p)) := by
  obtain ⟨A0, a0, A1, a1, A2, a2, rfl, h1, h2, h3, h4, h5, h6⟩ := hv
  obtain ⟨⟨⟨l0, l1, l2⟩, q0, q1, _⟩, q2⟩ := h
  have HRc := Aside0.mk h1
  have HRr := Aside0.mk h3
  have HRp := Aside0.mk h5
  have HSc : Aside0 (∀ x ∈ s.c, x.f0.size ≤ 100 ∧ inR x.f1) := ⟨fun x hx => ⟨q0 x hx, hi x hx⟩⟩
  have HSr : Aside0 (∀ x ∈ s.r, x.f0.size ≤ 100 ∧ x.f1.size ≤ 100) := ⟨q1⟩
  have HSp : Aside0 (∀ x ∈ s.p, x.f0.size ≤ 100 ∧ x.f1.size ≤ 100) := ⟨q2⟩
  have HBc : Aside0 (∀ j, j ≤ s.c.length → ((s.c.take j).flatMap ctrB).length ≤ 4000 * j) := ⟨fun j hj => flat_takeS ctrB s.c j (fun x hx => ctrB_len (by have := q0 x hx; omega)) hj⟩
  have HBr : Aside0 (∀ j, j ≤ s.r.length → ((s.r.take j).flatMap regB).length ≤ 4000 * j) := ⟨fun j hj => flat_takeS regB s.r j (fun x hx => regB_len (by have := q1 x hx; unfold smallR at this; omega)) hj⟩
  have HBp : Aside0 (∀ j, j ≤ s.p.length → ((s.p.take j).flatMap pairB).length ≤ 4000 * j) := ⟨fun j hj => flat_takeS pairB s.p j (fun x hx => pairB_len (by have := q2 x hx; omega)) hj⟩
  have HN : Aside0 (s.c.length ≤ 30 ∧ s.r.length ≤ 30 ∧ s.p.length ≤ 30) := ⟨⟨l0, l1, l2⟩⟩
  have HBcl := Aside0.mk (flat_lenS ctrB s.c (fun x hx => ctrB_len (by have := q0 x hx; omega)))
  have HBrl := Aside0.mk (flat_lenS regB s.r (fun x hx => regB_len (by have := q1 x hx; unfold smallR at this; omega)))
  clear h1 h2 h3 h4 h5 h6 l0 l1 l2 q0 q1 q2 hi
  have hBX := Bx.new (Below.refl W.heap.size W) (.cells #[.slice A0 s.c.length a0, .slice A1 s.r.length a1, .slice A2 s.p.length a2] 26)
  go_enter Tryz.func17, Tryz.ntmps17
  go_wp2_with fail
  revert hBX
  generalize W.alloc (.cells #[.slice A0 s.c.length a0, .slice A1 s.r.length a1, .slice A2 s.p.length a2] 26) = W0
  generalize W.heap.size = g0
  intro hBX
  obtain ⟨c0, c1, c2⟩ := cells3 hBX.x
  go_wp2_with fail
  refine (rnumI_calls (s.c.length : Int) _).mono ?_
  rintro e w1 ⟨vn, rfl, hr, hb⟩
  have HO := Aside0.mk (show Ob (Kd.int .u8) 5 W g0 (.cells #[.slice A0 s.c.length a0, .slice A1 s.r.length a1, .slice A2 s.p.length a2] 26) vn (numI (s.c.length : Int)) w1 from ⟨Ou.of hr hBX.b hb, blk_below hBX.x hb, fun e => (by
    obtain ⟨h0, inner, hown, _⟩ := hr
    have := own_base hown _ e
    exact absurd (blk_lt hBX.x) (by omega))⟩)
  clear hr hb hBX c0 c1 c2
  have HPL : Aside0 ((numI (s.c.length : Int)).length ≤ 10) := ⟨numI_ten _⟩
  obtain ⟨P0, hP0⟩ : ∃ P, P = numI (s.c.length : Int) := ⟨_, rfl⟩
  rw [← hP0] at HO HPL
  have HP0 := Aside0.mk hP0
  clear hP0
  obtain ⟨c0, c1, c2⟩ := cells3 HO.out.x
  go_wp2_with fail
  go_loopw [3, 4] (fun v1 v2 wr => ∃ (v : Value) (j : Nat), v1 = v ∧ v2 = .int .i64 j ∧ j ≤ s.c.length ∧ Aside0 (Ob (Kd.int .u8) 5 W g0 (.cells #[.slice A0 s.c.length a0, .slice A1 s.r.length a1, .slice A2 s.p.length a2] 26) v (P0 ++ (s.c.take j).flatMap ctrB) wr)) (fun _ v2 _ => s.c.length - (intOf v2).toNat)
  case atStart => exact ⟨_, 0, rfl, rfl, Nat.zero_le _, ⟨by simpa using HO.out⟩⟩
  case round =>
    clear HO c0 c1 c2
    obtain ⟨v, j, hv, rfl, hj, HO⟩ := hrel
    subst hv
    have h30 := HN.out
    obtain ⟨c0, c1, c2⟩ := cells3 HO.out.x
    by_cases hlt : j < s.c.length
    · obtain ⟨ad, e, hx0, hx1⟩ := at_T73 HRc.out (j : Int) (by omega) (by omega)
      cases e
      have hrd : rd_T73 s.c (j : Int) = s.c[j] := by simp [rd_T73, List.getD_eq_getElem?_getD, hlt]
      rw [hrd] at hx0 hx1
      simp only [Int.toNat_natCast] at hx0 hx1
      have HG := Aside0.mk (flat_snocS ctrB s.c j hlt)
      have HS := Aside0.mk (HSc.out _ (List.getElem_mem hlt))
      have HL : Aside0 ((P0 ++ (s.c.take j).flatMap ctrB).length ≤ 1000000) := ⟨by have h1 := HBc.out j hj; have h2 := HPL.out; rw [List.length_append]; omega⟩
      have hj0 : (0 : Int) ≤ (j : Int) := by omega
      have hj1 : (j : Int) < (s.c.length : Int) := by omega
      clear hrd
      generalize s.c[j] = x at *
      generalize (s.c.take j).flatMap ctrB = ys at *
      have z0 := (HO.out.b.cell (World.block_lt_of_cell? W _ hx0)).trans hx0; have z1 := (HO.out.b.cell (World.block_lt_of_cell? W _ hx1)).trans hx1
      go_wp2_with fail
      have HT := Aside0.mk (textL_short (s := x.f0) (by have := HS.out.1; omega))
      have HN0 : Aside0 ((numL (foldI x.f1).toNat).length ≤ 10) := ⟨numL_ten (by have := foldI_range x.f1; omega)⟩
      refine (rtext_calls x.f0 (by have := HS.out.1; omega) _).mono ?_
      rintro e w1 ⟨vn, rfl, hr, hb⟩
      obtain ⟨An, cn, rfl, _, hCn⟩ := Kd.R_reads hr
      have HC := Aside0.mk hCn
      clear hr hCn
      replace HO := Aside0.mk (HO.out.go hb)
      clear hb c0 c1 c2 z0 z1
      obtain ⟨c0, c1, c2⟩ := cells3 HO.out.x; have z0 := (HO.out.b.cell (World.block_lt_of_cell? W _ hx0)).trans hx0; have z1 := (HO.out.b.cell (World.block_lt_of_cell? W _ hx1)).trans hx1
      go_wp2_with (first | (at_builtin; refine arB HO.out.toOu HC.out (by have h0 := HL.out; simp only [List.length_append, List.length_nil] at *; have h1 := HT.out; have h2 := HN0.out; omega) rfl _ _ rfl rfl rfl ?_; intro v1 w2 hk1 ho1; replace HO := Aside0.mk (HO.out.kept ho1 hk1); clear hk1 ho1 HC c0 c1 c2 z0 z1; obtain ⟨c0, c1, c2⟩ := cells3 HO.out.x; have z0 := (HO.out.b.cell (World.block_lt_of_cell? W _ hx0)).trans hx0; have z1 := (HO.out.b.cell (World.block_lt_of_cell? W _ hx1)).trans hx1))
      refine ((ref03_Fold.calls x.f1 _ _ (rfold_f x.f1 HS.out.2)).mono fun _ _ h => And.intro h.1 (drawn_b h.2)).mono ?_
      rintro e w1 ⟨rfl, hb⟩
      replace HO := Aside0.mk (HO.out.go hb)
      clear hb c0 c1 c2 z0 z1
      obtain ⟨c0, c1, c2⟩ := cells3 HO.out.x; have z0 := (HO.out.b.cell (World.block_lt_of_cell? W _ hx0)).trans hx0; have z1 := (HO.out.b.cell (World.block_lt_of_cell? W _ hx1)).trans hx1
      go_wp2_with fail
      refine (rnumF_calls x.f1 _).mono ?_
      rintro e w1 ⟨vn, rfl, hr, hb⟩
      obtain ⟨An, cn, rfl, _, hCn⟩ := Kd.R_reads hr
      have HC := Aside0.mk hCn
      clear hr hCn
      replace HO := Aside0.mk (HO.out.go hb)
      clear hb c0 c1 c2 z0 z1
      obtain ⟨c0, c1, c2⟩ := cells3 HO.out.x; have z0 := (HO.out.b.cell (World.block_lt_of_cell? W _ hx0)).trans hx0; have z1 := (HO.out.b.cell (World.block_lt_of_cell? W _ hx1)).trans hx1
      go_wp2_with (first | (at_builtin; refine arB HO.out.toOu HC.out (by have h0 := HL.out; simp only [List.length_append, List.length_nil] at *; have h1 := HT.out; have h2 := HN0.out; omega) rfl _ _ rfl rfl rfl ?_; intro v1 w2 hk1 ho1; replace HO := Aside0.mk (HO.out.kept ho1 hk1); clear hk1 ho1 HC c0 c1 c2 z0 z1; obtain ⟨c0, c1, c2⟩ := cells3 HO.out.x; have z0 := (HO.out.b.cell (World.block_lt_of_cell? W _ hx0)).trans hx0; have z1 := (HO.out.b.cell (World.block_lt_of_cell? W _ hx1)).trans hx1))
      go_roundw
      case rel => exact ⟨_, j + 1, rfl, by go_num, by omega, ⟨by rw [HG.out]; simpa [ctrB, numI, List.append_assoc] using HO.out⟩⟩
      case measure => simp [intOf]; omega
    · have hjl : j = s.c.length := by omega
      subst hjl
      rw [List.take_length] at HO
      have HQL : Aside0 ((P0 ++ s.c.flatMap ctrB).length ≤ 130000) := ⟨by have h1 := HBcl.out; have h2 := HPL.out; rw [List.length_append]; omega⟩
      have HL := HQL
      skip
      go_wp2_with fail
      refine (rnumI_calls (s.r.length : Int) _).mono ?_
      rintro e w1 ⟨vn, rfl, hr, hb⟩
      obtain ⟨An, cn, rfl, _, hCn⟩ := Kd.R_reads hr
      have HC := Aside0.mk hCn
      clear hr hCn
      replace HO := Aside0.mk (HO.out.go hb)
      clear hb c0 c1 c2
      obtain ⟨c0, c1, c2⟩ := cells3 HO.out.x
      go_wp2_with (first | (at_builtin; refine arB HO.out.toOu HC.out (by have h0 := HL.out; simp only [List.length_append, List.length_nil] at *; have k0 := numI_ten (s.r.length : Int); omega) rfl _ _ rfl rfl rfl ?_; intro v1 w2 hk1 ho1; replace HO := Aside0.mk (HO.out.kept ho1 hk1); clear hk1 ho1 HC c0 c1 c2; obtain ⟨c0, c1, c2⟩ := cells3 HO.out.x))
      have HPL1 : Aside0 ((P0 ++ s.c.flatMap ctrB ++ numI (s.r.length : Int)).length ≤ 130010) := ⟨by have h1 := HQL.out; have h2 := numI_ten (s.r.length : Int); simp only [List.length_append] at *; omega⟩
      obtain ⟨P1, hP1⟩ : ∃ P, P = (P0 ++ s.c.flatMap ctrB ++ numI (s.r.length : Int)) := ⟨_, rfl⟩
      rw [← hP1] at HO HPL1
      have HP1 := Aside0.mk hP1
      replace HPL := HPL1
      clear hP1 HPL1 HQL HL
      go_loopw [3, 5] (fun v1 v2 wr => ∃ (v : Value) (j : Nat), v1 = v ∧ v2 = .int .i64 j ∧ j ≤ s.r.length ∧ Aside0 (Ob (Kd.int .u8) 5 W g0 (.cells #[.slice A0 s.c.length a0, .slice A1 s.r.length a1, .slice A2 s.p.length a2] 26) v (P1 ++ (s.r.take j).flatMap regB) wr)) (fun _ v2 _ => s.r.length - (intOf v2).toNat)
      case atStart => exact ⟨_, 0, rfl, rfl, Nat.zero_le _, ⟨by simpa using HO.out⟩⟩
      case round =>
        clear HO c0 c1 c2
        obtain ⟨v, j, hv, rfl, hj, HO⟩ := hrel
        subst hv
        have h30 := HN.out
        obtain ⟨c0, c1, c2⟩ := cells3 HO.out.x
        by_cases hlt : j < s.r.length
        · obtain ⟨ad, e, hx0, hx1, hx2, hx3, hx4⟩ := at_T47 HRr.out (j : Int) (by omega) (by omega)
          cases e
          have hrd : rd_T47 s.r (j : Int) = s.r[j] := by simp [rd_T47, List.getD_eq_getElem?_getD, hlt]
          rw [hrd] at hx0 hx1 hx2 hx3 hx4
          simp only [Int.toNat_natCast] at hx0 hx1 hx2 hx3 hx4
          have HG := Aside0.mk (flat_snocS regB s.r j hlt)
          have HS := Aside0.mk (HSr.out _ (List.getElem_mem hlt))
          have HL : Aside0 ((P1 ++ (s.r.take j).flatMap regB).length ≤ 1000000) := ⟨by have h1 := HBr.out j hj; have h2 := HPL.out; rw [List.length_append]; omega⟩
          have hj0 : (0 : Int) ≤ (j : Int) := by omega
          have hj1 : (j : Int) < (s.r.length : Int) := by omega
          clear hrd
          generalize s.r[j] = x at *
          generalize (s.r.take j).flatMap regB = ys at *
          have z0 := (HO.out.b.cell (World.block_lt_of_cell? W _ hx0)).trans hx0; have z1 := (HO.out.b.cell (World.block_lt_of_cell? W _ hx1)).trans hx1; have z2 := (HO.out.b.cell (World.block_lt_of_cell? W _ hx2)).trans hx2; have z3 := (HO.out.b.cell (World.block_lt_of_cell? W _ hx3)).trans hx3; have z4 := (HO.out.b.cell (World.block_lt_of_cell? W _ hx4)).trans hx4
          go_wp2_with fail
          have HP := Aside0.mk (show Ob (Kd.int .u8) 5 W wr.heap.size (.cells #[.string x.f0, .string x.f1, .int .i64 x.f2, .int .i64 x.f3.f0, .int .i64 x.f3.f1] 47) _ _ (wr.alloc (.cells #[.string x.f0, .string x.f1, .int .i64 x.f2, .int .i64 x.f3.f0, .int .i64 x.f3.f1] 47)) from ⟨HO.out.toOu.alloc _, blk_new _ _, fun e => absurd (Kd.R_lt HO.out.r _ e) (by omega)⟩)
          replace HO := Aside0.mk (HO.out.go (below_alloc (Below.refl _ wr) (.cells #[.string x.f0, .string x.f1, .int .i64 x.f2, .int .i64 x.f3.f0, .int .i64 x.f3.f1] 47)))
          clear c0 c1 c2 z0 z1 z2 z3 z4
          revert HP HO
          generalize wr.alloc (.cells #[.string x.f0, .string x.f1, .int .i64 x.f2, .int .i64 x.f3.f0, .int .i64 x.f3.f1] 47) = W1
          generalize wr.heap.size = g1
          intro HP HO
          obtain ⟨c0, c1, c2⟩ := cells3 HO.out.x; have s0 := (blk_cell HP.out.x 0).trans rfl; have s1 := (blk_cell HP.out.x 1).trans rfl; have s2 := (blk_cell HP.out.x 2).trans rfl; have s3 := (blk_cell HP.out.x 3).trans rfl; have s4 := (blk_cell HP.out.x 4).trans rfl
          go_wp2_with fail
          have HT0 := Aside0.mk (textL_short (s := x.f0) (by have := HS.out.1; omega))
          have HT1 := Aside0.mk (textL_short (s := x.f1) (by have := HS.out.2; omega))
          refine (rtext_calls x.f0 (by have := HS.out.1; omega) _).mono ?_
          rintro e w1 ⟨vn, rfl, hr, hb⟩
          obtain ⟨An, cn, rfl, _, hCn⟩ := Kd.R_reads hr
          have HC := Aside0.mk hCn
          clear hr hCn
          replace HO := Aside0.mk (HO.out.go hb)
          replace HP := Aside0.mk (HP.out.go hb)
          clear hb c0 c1 c2 s0 s1 s2 s3 s4
          obtain ⟨c0, c1, c2⟩ := cells3 HO.out.x; have s0 := (blk_cell HP.out.x 0).trans rfl; have s1 := (blk_cell HP.out.x 1).trans rfl; have s2 := (blk_cell HP.out.x 2).trans rfl; have s3 := (blk_cell HP.out.x 3).trans rfl; have s4 := (blk_cell HP.out.x 4).trans rfl
          go_wp2_with (first | (at_builtin; refine arB HO.out.toOu HC.out (by have h0 := HL.out; simp only [List.length_append, List.length_nil] at *; have h1 := HT0.out; have h2 := HT1.out; have k0 := numI_ten x.f2; have k1 := numI_ten x.f3.f0; have k2 := numI_ten x.f3.f1; omega) rfl _ _ rfl rfl rfl ?_; intro v1 w2 hk1 ho1; replace HP := Aside0.mk (HP.out.kept ho1 hk1); replace HO := Aside0.mk (HO.out.kept ho1 hk1); clear hk1 ho1 HC c0 c1 c2 s0 s1 s2 s3 s4; obtain ⟨c0, c1, c2⟩ := cells3 HO.out.x; have s0 := (blk_cell HP.out.x 0).trans rfl; have s1 := (blk_cell HP.out.x 1).trans rfl; have s2 := (blk_cell HP.out.x 2).trans rfl; have s3 := (blk_cell HP.out.x 3).trans rfl; have s4 := (blk_cell HP.out.x 4).trans rfl))
          refine (rtext_calls x.f1 (by have := HS.out.2; omega) _).mono ?_
          rintro e w1 ⟨vn, rfl, hr, hb⟩
          obtain ⟨An, cn, rfl, _, hCn⟩ := Kd.R_reads hr
          have HC := Aside0.mk hCn
          clear hr hCn
          replace HO := Aside0.mk (HO.out.go hb)
          replace HP := Aside0.mk (HP.out.go hb)
          clear hb c0 c1 c2 s0 s1 s2 s3 s4
          obtain ⟨c0, c1, c2⟩ := cells3 HO.out.x; have s0 := (blk_cell HP.out.x 0).trans rfl; have s1 := (blk_cell HP.out.x 1).trans rfl; have s2 := (blk_cell HP.out.x 2).trans rfl; have s3 := (blk_cell HP.out.x 3).trans rfl; have s4 := (blk_cell HP.out.x 4).trans rfl
          go_wp2_with (first | (at_builtin; refine arB HO.out.toOu HC.out (by have h0 := HL.out; simp only [List.length_append, List.length_nil] at *; have h1 := HT0.out; have h2 := HT1.out; have k0 := numI_ten x.f2; have k1 := numI_ten x.f3.f0; have k2 := numI_ten x.f3.f1; omega) rfl _ _ rfl rfl rfl ?_; intro v1 w2 hk1 ho1; replace HP := Aside0.mk (HP.out.kept ho1 hk1); replace HO := Aside0.mk (HO.out.kept ho1 hk1); clear hk1 ho1 HC c0 c1 c2 s0 s1 s2 s3 s4; obtain ⟨c0, c1, c2⟩ := cells3 HO.out.x; have s0 := (blk_cell HP.out.x 0).trans rfl; have s1 := (blk_cell HP.out.x 1).trans rfl; have s2 := (blk_cell HP.out.x 2).trans rfl; have s3 := (blk_cell HP.out.x 3).trans rfl; have s4 := (blk_cell HP.out.x 4).trans rfl))
          refine (rnumI_calls x.f2 _).mono ?_
          rintro e w1 ⟨vn, rfl, hr, hb⟩
          obtain ⟨An, cn, rfl, _, hCn⟩ := Kd.R_reads hr
          have HC := Aside0.mk hCn
          clear hr hCn
          replace HO := Aside0.mk (HO.out.go hb)
          replace HP := Aside0.mk (HP.out.go hb)
          clear hb c0 c1 c2 s0 s1 s2 s3 s4
          obtain ⟨c0, c1, c2⟩ := cells3 HO.out.x; have s0 := (blk_cell HP.out.x 0).trans rfl; have s1 := (blk_cell HP.out.x 1).trans rfl; have s2 := (blk_cell HP.out.x 2).trans rfl; have s3 := (blk_cell HP.out.x 3).trans rfl; have s4 := (blk_cell HP.out.x 4).trans rfl
          go_wp2_with (first | (at_builtin; refine arB HO.out.toOu HC.out (by have h0 := HL.out; simp only [List.length_append, List.length_nil] at *; have h1 := HT0.out; have h2 := HT1.out; have k0 := numI_ten x.f2; have k1 := numI_ten x.f3.f0; have k2 := numI_ten x.f3.f1; omega) rfl _ _ rfl rfl rfl ?_; intro v1 w2 hk1 ho1; replace HP := Aside0.mk (HP.out.kept ho1 hk1); replace HO := Aside0.mk (HO.out.kept ho1 hk1); clear hk1 ho1 HC c0 c1 c2 s0 s1 s2 s3 s4; obtain ⟨c0, c1, c2⟩ := cells3 HO.out.x; have s0 := (blk_cell HP.out.x 0).trans rfl; have s1 := (blk_cell HP.out.x 1).trans rfl; have s2 := (blk_cell HP.out.x 2).trans rfl; have s3 := (blk_cell HP.out.x 3).trans rfl; have s4 := (blk_cell HP.out.x 4).trans rfl))
          refine (rnumI_calls x.f3.f0 _).mono ?_
          rintro e w1 ⟨vn, rfl, hr, hb⟩
          obtain ⟨An, cn, rfl, _, hCn⟩ := Kd.R_reads hr
          have HC := Aside0.mk hCn
          clear hr hCn
          replace HO := Aside0.mk (HO.out.go hb)
          replace HP := Aside0.mk (HP.out.go hb)
          clear hb c0 c1 c2 s0 s1 s2 s3 s4
          obtain ⟨c0, c1, c2⟩ := cells3 HO.out.x; have s0 := (blk_cell HP.out.x 0).trans rfl; have s1 := (blk_cell HP.out.x 1).trans rfl; have s2 := (blk_cell HP.out.x 2).trans rfl; have s3 := (blk_cell HP.out.x 3).trans rfl; have s4 := (blk_cell HP.out.x 4).trans rfl
          go_wp2_with (first | (at_builtin; refine arB HO.out.toOu HC.out (by have h0 := HL.out; simp only [List.length_append, List.length_nil] at *; have h1 := HT0.out; have h2 := HT1.out; have k0 := numI_ten x.f2; have k1 := numI_ten x.f3.f0; have k2 := numI_ten x.f3.f1; omega) rfl _ _ rfl rfl rfl ?_; intro v1 w2 hk1 ho1; replace HP := Aside0.mk (HP.out.kept ho1 hk1); replace HO := Aside0.mk (HO.out.kept ho1 hk1); clear hk1 ho1 HC c0 c1 c2 s0 s1 s2 s3 s4; obtain ⟨c0, c1, c2⟩ := cells3 HO.out.x; have s0 := (blk_cell HP.out.x 0).trans rfl; have s1 := (blk_cell HP.out.x 1).trans rfl; have s2 := (blk_cell HP.out.x 2).trans rfl; have s3 := (blk_cell HP.out.x 3).trans rfl; have s4 := (blk_cell HP.out.x 4).trans rfl))
          refine (rnumI_calls x.f3.f1 _).mono ?_
          rintro e w1 ⟨vn, rfl, hr, hb⟩
          obtain ⟨An, cn, rfl, _, hCn⟩ := Kd.R_reads hr
          have HC := Aside0.mk hCn
          clear hr hCn
          replace HO := Aside0.mk (HO.out.go hb)
          replace HP := Aside0.mk (HP.out.go hb)
          clear hb c0 c1 c2 s0 s1 s2 s3 s4
          obtain ⟨c0, c1, c2⟩ := cells3 HO.out.x; have s0 := (blk_cell HP.out.x 0).trans rfl; have s1 := (blk_cell HP.out.x 1).trans rfl; have s2 := (blk_cell HP.out.x 2).trans rfl; have s3 := (blk_cell HP.out.x 3).trans rfl; have s4 := (blk_cell HP.out.x 4).trans rfl
          go_wp2_with (first | (at_builtin; refine arB HO.out.toOu HC.out (by have h0 := HL.out; simp only [List.length_append, List.length_nil] at *; have h1 := HT0.out; have h2 := HT1.out; have k0 := numI_ten x.f2; have k1 := numI_ten x.f3.f0; have k2 := numI_ten x.f3.f1; omega) rfl _ _ rfl rfl rfl ?_; intro v1 w2 hk1 ho1; replace HP := Aside0.mk (HP.out.kept ho1 hk1); replace HO := Aside0.mk (HO.out.kept ho1 hk1); clear hk1 ho1 HC c0 c1 c2 s0 s1 s2 s3 s4; obtain ⟨c0, c1, c2⟩ := cells3 HO.out.x; have s0 := (blk_cell HP.out.x 0).trans rfl; have s1 := (blk_cell HP.out.x 1).trans rfl; have s2 := (blk_cell HP.out.x 2).trans rfl; have s3 := (blk_cell HP.out.x 3).trans rfl; have s4 := (blk_cell HP.out.x 4).trans rfl))
          go_roundw
          case rel => exact ⟨_, j + 1, rfl, by go_num, by omega, ⟨by rw [HG.out]; simpa [regB, numI, List.append_assoc] using HO.out⟩⟩
          case measure => simp [intOf]; omega
        · have hjl : j = s.r.length := by omega
          subst hjl
          rw [List.take_length] at HO
          have HQL : Aside0 ((P1 ++ s.r.flatMap regB).length ≤ 260000) := ⟨by have h1 := HBrl.out; have h2 := HPL.out; rw [List.length_append]; omega⟩
          have HL := HQL
          skip
          go_wp2_with fail
          refine (rnumI_calls (s.p.length : Int) _).mono ?_
          rintro e w1 ⟨vn, rfl, hr, hb⟩
          obtain ⟨An, cn, rfl, _, hCn⟩ := Kd.R_reads hr
          have HC := Aside0.mk hCn
          clear hr hCn
          replace HO := Aside0.mk (HO.out.go hb)
          clear hb c0 c1 c2
          obtain ⟨c0, c1, c2⟩ := cells3 HO.out.x
          go_wp2_with (first | (at_builtin; refine arB HO.out.toOu HC.out (by have h0 := HL.out; simp only [List.length_append, List.length_nil] at *; have k0 := numI_ten (s.p.length : Int); omega) rfl _ _ rfl rfl rfl ?_; intro v1 w2 hk1 ho1; replace HO := Aside0.mk (HO.out.kept ho1 hk1); clear hk1 ho1 HC c0 c1 c2; obtain ⟨c0, c1, c2⟩ := cells3 HO.out.x))
          have HPL2 : Aside0 ((P1 ++ s.r.flatMap regB ++ numI (s.p.length : Int)).length ≤ 260010) := ⟨by have h1 := HQL.out; have h2 := numI_ten (s.p.length : Int); simp only [List.length_append] at *; omega⟩
          obtain ⟨P2, hP2⟩ : ∃ P, P = (P1 ++ s.r.flatMap regB ++ numI (s.p.length : Int)) := ⟨_, rfl⟩
          rw [← hP2] at HO HPL2
          have HP2 := Aside0.mk hP2
          replace HPL := HPL2
          clear hP2 HPL2 HQL HL
          go_loopw [3, 7] (fun v1 v2 wr => ∃ (v : Value) (j : Nat), v1 = v ∧ v2 = .int .i64 j ∧ j ≤ s.p.length ∧ Aside0 (Ob (Kd.int .u8) 5 W g0 (.cells #[.slice A0 s.c.length a0, .slice A1 s.r.length a1, .slice A2 s.p.length a2] 26) v (P2 ++ (s.p.take j).flatMap pairB) wr)) (fun _ v2 _ => s.p.length - (intOf v2).toNat)
          case atStart => exact ⟨_, 0, rfl, rfl, Nat.zero_le _, ⟨by simpa using HO.out⟩⟩
          case round =>
            clear HO c0 c1 c2
            obtain ⟨v, j, hv, rfl, hj, HO⟩ := hrel
            subst hv
            have h30 := HN.out
            obtain ⟨c0, c1, c2⟩ := cells3 HO.out.x
            by_cases hlt : j < s.p.length
            · obtain ⟨ad, e, hx0, hx1, hx2, hx3⟩ := at_T43 HRp.out (j : Int) (by omega) (by omega)
              cases e
              have hrd : rd_T43 s.p (j : Int) = s.p[j] := by simp [rd_T43, List.getD_eq_getElem?_getD, hlt]
              rw [hrd] at hx0 hx1 hx2 hx3
              simp only [Int.toNat_natCast] at hx0 hx1 hx2 hx3
              have HG := Aside0.mk (flat_snocS pairB s.p j hlt)
              have HS := Aside0.mk (HSp.out _ (List.getElem_mem hlt))
              have HL : Aside0 ((P2 ++ (s.p.take j).flatMap pairB).length ≤ 1000000) := ⟨by have h1 := HBp.out j hj; have h2 := HPL.out; rw [List.length_append]; omega⟩
              have hj0 : (0 : Int) ≤ (j : Int) := by omega
              have hj1 : (j : Int) < (s.p.length : Int) := by omega
              clear hrd
              generalize s.p[j] = x at *
              generalize (s.p.take j).flatMap pairB = ys at *
              have z0 := (HO.out.b.cell (World.block_lt_of_cell? W _ hx0)).trans hx0; have z1 := (HO.out.b.cell (World.block_lt_of_cell? W _ hx1)).trans hx1; have z2 := (HO.out.b.cell (World.block_lt_of_cell? W _ hx2)).trans hx2; have z3 := (HO.out.b.cell (World.block_lt_of_cell? W _ hx3)).trans hx3
              go_wp2_with fail
              have HP := Aside0.mk (show Ob (Kd.int .u8) 5 W wr.heap.size (.cells #[.string x.f0, .string x.f1, .int .i64 x.f2.f0, .int .i64 x.f2.f1] 43) _ _ (wr.alloc (.cells #[.string x.f0, .string x.f1, .int .i64 x.f2.f0, .int .i64 x.f2.f1] 43)) from ⟨HO.out.toOu.alloc _, blk_new _ _, fun e => absurd (Kd.R_lt HO.out.r _ e) (by omega)⟩)
              replace HO := Aside0.mk (HO.out.go (below_alloc (Below.refl _ wr) (.cells #[.string x.f0, .string x.f1, .int .i64 x.f2.f0, .int .i64 x.f2.f1] 43)))
              clear c0 c1 c2 z0 z1 z2 z3
              revert HP HO
              generalize wr.alloc (.cells #[.string x.f0, .string x.f1, .int .i64 x.f2.f0, .int .i64 x.f2.f1] 43) = W1
              generalize wr.heap.size = g1
              intro HP HO
              obtain ⟨c0, c1, c2⟩ := cells3 HO.out.x; have s0 := (blk_cell HP.out.x 0).trans rfl; have s1 := (blk_cell HP.out.x 1).trans rfl; have s2 := (blk_cell HP.out.x 2).trans rfl; have s3 := (blk_cell HP.out.x 3).trans rfl
              go_wp2_with fail
              have HT0 := Aside0.mk (textL_short (s := x.f0) (by have := HS.out.1; omega))
              have HT1 := Aside0.mk (textL_short (s := x.f1) (by have := HS.out.2; omega))
              refine (rtext_calls x.f0 (by have := HS.out.1; omega) _).mono ?_
              rintro e w1 ⟨vn, rfl, hr, hb⟩
              obtain ⟨An, cn, rfl, _, hCn⟩ := Kd.R_reads hr
              have HC := Aside0.mk hCn
              clear hr hCn
              replace HO := Aside0.mk (HO.out.go hb)
              replace HP := Aside0.mk (HP.out.go hb)
              clear hb c0 c1 c2 s0 s1 s2 s3
              obtain ⟨c0, c1, c2⟩ := cells3 HO.out.x; have s0 := (blk_cell HP.out.x 0).trans rfl; have s1 := (blk_cell HP.out.x 1).trans rfl; have s2 := (blk_cell HP.out.x 2).trans rfl; have s3 := (blk_cell HP.out.x 3).trans rfl
              go_wp2_with (first | (at_builtin; refine arB HO.out.toOu HC.out (by have h0 := HL.out; simp only [List.length_append, List.length_nil] at *; have h1 := HT0.out; have h2 := HT1.out; have k0 := numI_ten x.f2.f0; have k1 := numI_ten x.f2.f1; omega) rfl _ _ rfl rfl rfl ?_; intro v1 w2 hk1 ho1; replace HP := Aside0.mk (HP.out.kept ho1 hk1); replace HO := Aside0.mk (HO.out.kept ho1 hk1); clear hk1 ho1 HC c0 c1 c2 s0 s1 s2 s3; obtain ⟨c0, c1, c2⟩ := cells3 HO.out.x; have s0 := (blk_cell HP.out.x 0).trans rfl; have s1 := (blk_cell HP.out.x 1).trans rfl; have s2 := (blk_cell HP.out.x 2).trans rfl; have s3 := (blk_cell HP.out.x 3).trans rfl))
              refine (rtext_calls x.f1 (by have := HS.out.2; omega) _).mono ?_
              rintro e w1 ⟨vn, rfl, hr, hb⟩
              obtain ⟨An, cn, rfl, _, hCn⟩ := Kd.R_reads hr
              have HC := Aside0.mk hCn
              clear hr hCn
              replace HO := Aside0.mk (HO.out.go hb)
              replace HP := Aside0.mk (HP.out.go hb)
              clear hb c0 c1 c2 s0 s1 s2 s3
              obtain ⟨c0, c1, c2⟩ := cells3 HO.out.x; have s0 := (blk_cell HP.out.x 0).trans rfl; have s1 := (blk_cell HP.out.x 1).trans rfl; have s2 := (blk_cell HP.out.x 2).trans rfl; have s3 := (blk_cell HP.out.x 3).trans rfl
              go_wp2_with (first | (at_builtin; refine arB HO.out.toOu HC.out (by have h0 := HL.out; simp only [List.length_append, List.length_nil] at *; have h1 := HT0.out; have h2 := HT1.out; have k0 := numI_ten x.f2.f0; have k1 := numI_ten x.f2.f1; omega) rfl _ _ rfl rfl rfl ?_; intro v1 w2 hk1 ho1; replace HP := Aside0.mk (HP.out.kept ho1 hk1); replace HO := Aside0.mk (HO.out.kept ho1 hk1); clear hk1 ho1 HC c0 c1 c2 s0 s1 s2 s3; obtain ⟨c0, c1, c2⟩ := cells3 HO.out.x; have s0 := (blk_cell HP.out.x 0).trans rfl; have s1 := (blk_cell HP.out.x 1).trans rfl; have s2 := (blk_cell HP.out.x 2).trans rfl; have s3 := (blk_cell HP.out.x 3).trans rfl))
              refine (rnumI_calls x.f2.f0 _).mono ?_
              rintro e w1 ⟨vn, rfl, hr, hb⟩
              obtain ⟨An, cn, rfl, _, hCn⟩ := Kd.R_reads hr
              have HC := Aside0.mk hCn
              clear hr hCn
              replace HO := Aside0.mk (HO.out.go hb)
              replace HP := Aside0.mk (HP.out.go hb)
              clear hb c0 c1 c2 s0 s1 s2 s3
              obtain ⟨c0, c1, c2⟩ := cells3 HO.out.x; have s0 := (blk_cell HP.out.x 0).trans rfl; have s1 := (blk_cell HP.out.x 1).trans rfl; have s2 := (blk_cell HP.out.x 2).trans rfl; have s3 := (blk_cell HP.out.x 3).trans rfl
              go_wp2_with (first | (at_builtin; refine arB HO.out.toOu HC.out (by have h0 := HL.out; simp only [List.length_append, List.length_nil] at *; have h1 := HT0.out; have h2 := HT1.out; have k0 := numI_ten x.f2.f0; have k1 := numI_ten x.f2.f1; omega) rfl _ _ rfl rfl rfl ?_; intro v1 w2 hk1 ho1; replace HP := Aside0.mk (HP.out.kept ho1 hk1); replace HO := Aside0.mk (HO.out.kept ho1 hk1); clear hk1 ho1 HC c0 c1 c2 s0 s1 s2 s3; obtain ⟨c0, c1, c2⟩ := cells3 HO.out.x; have s0 := (blk_cell HP.out.x 0).trans rfl; have s1 := (blk_cell HP.out.x 1).trans rfl; have s2 := (blk_cell HP.out.x 2).trans rfl; have s3 := (blk_cell HP.out.x 3).trans rfl))
              refine (rnumI_calls x.f2.f1 _).mono ?_
              rintro e w1 ⟨vn, rfl, hr, hb⟩
              obtain ⟨An, cn, rfl, _, hCn⟩ := Kd.R_reads hr
              have HC := Aside0.mk hCn
              clear hr hCn
              replace HO := Aside0.mk (HO.out.go hb)
              replace HP := Aside0.mk (HP.out.go hb)
              clear hb c0 c1 c2 s0 s1 s2 s3
              obtain ⟨c0, c1, c2⟩ := cells3 HO.out.x; have s0 := (blk_cell HP.out.x 0).trans rfl; have s1 := (blk_cell HP.out.x 1).trans rfl; have s2 := (blk_cell HP.out.x 2).trans rfl; have s3 := (blk_cell HP.out.x 3).trans rfl
              go_wp2_with (first | (at_builtin; refine arB HO.out.toOu HC.out (by have h0 := HL.out; simp only [List.length_append, List.length_nil] at *; have h1 := HT0.out; have h2 := HT1.out; have k0 := numI_ten x.f2.f0; have k1 := numI_ten x.f2.f1; omega) rfl _ _ rfl rfl rfl ?_; intro v1 w2 hk1 ho1; replace HP := Aside0.mk (HP.out.kept ho1 hk1); replace HO := Aside0.mk (HO.out.kept ho1 hk1); clear hk1 ho1 HC c0 c1 c2 s0 s1 s2 s3; obtain ⟨c0, c1, c2⟩ := cells3 HO.out.x; have s0 := (blk_cell HP.out.x 0).trans rfl; have s1 := (blk_cell HP.out.x 1).trans rfl; have s2 := (blk_cell HP.out.x 2).trans rfl; have s3 := (blk_cell HP.out.x 3).trans rfl))
              go_roundw
              case rel => exact ⟨_, j + 1, rfl, by go_num, by omega, ⟨by rw [HG.out]; simpa [pairB, numI, List.append_assoc] using HO.out⟩⟩
              case measure => simp [intOf]; omega
            · have hjl : j = s.p.length := by omega
              subst hjl
              rw [List.take_length] at HO
              go_wp2
              go_ret
              exact ⟨_, rfl, by unfold putS; have h := HO.out.r; rw [HP2.out, HP1.out, HP0.out] at h; simpa [List.append_assoc] using h, HO.out.b⟩
end Go.Proofs.YtmcddoolniaehaaGreat.S
end
