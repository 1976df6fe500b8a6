/- pair.Merge: what two come to that come from a third one. By hand. -/
import Derived.Test.YtannmdngejdjkaaLHPairCat
import Derived.Test.YtannmdngejdjkaaLHPairDel
import Derived.RegionTactic
namespace Go.Proofs.Ytannmdngejdjkaa.L
open Go.RowKit Go.Maps Go.Proofs.YtannmdngejdjkaaW.PrintWords Go.Proofs.YtannmdngejdjkaaW.PrintLast Go.Proofs.YtannmdngejdjkaaW.PrintMore Go.Proofs.YtannmdngejdjkaaW
set_option linter.unusedVariables false
set_option linter.unusedSimpArgs false
def inP (l : List Pr) (p : Pr) : Bool := decide (0 < getQ (ofQ l) p)
def mcond (base a b : List Pr) (p : Pr) : Bool := (inP a p && inP b p) || !inP base p
def mergeP (base a b : List Pr) : List Pr := if mayP base && (mayP a && mayP b) then setP ((a ++ b).filter (mcond base a b)) else []
def pair_Merge.f (l0 : List (S57)) (l1 : List (S57)) (l2 : List (S57)) : Option ((List (S57))) :=
  if smallP l0 = true ∧ smallP l1 = true ∧ smallP l2 = true then some (mergeP l0 l1 l2) else none
theorem mapQ_below {w w1 : World} {gb n : Nat} {es : MapQ} (h : OwnsQ w gb n es) (hb : Below w.heap.size w w1) : OwnsQ w1 gb n es := by
  obtain ⟨es', clock, h1, h2⟩ := h
  exact ⟨es', clock, blk_below h1 hb, h2⟩
theorem mapQ_row {w : World} {gb n base m : Nat} {es : MapQ} {e : TypeId} {size : Nat} {v : Value} {xs : List Value} (h : OwnsQ w gb n es) (hr : w.ownsRow base e size v m xs) : v.ownBlock ≠ some gb := by
  intro e1
  obtain ⟨cells, h1⟩ := own_typed hr gb e1
  obtain ⟨es', clock, h2, _⟩ := h
  rw [h1] at h2
  cases h2
/-- what holds in a round of Merge's loop -/
structure MSt (w W : World) (g0 g1 g2 go n0 n1 n2 k : Nat) (base a b F ab : List Pr) (A : Option Addr) (c : Nat) : Prop where
  m0 : OwnsQ W g0 n0 (ofQ base)
  m1 : OwnsQ W g1 n1 (ofQ a)
  m2 : OwnsQ W g2 n2 (ofQ b)
  mo : OwnsQ W go k (ofQ F)
  row : W.ownsRow w.heap.size 57 4 (.slice A ab.length c) ab.length (pairRow ab)
  bel : Below w.heap.size w W
theorem MSt.below {w W W' : World} {g0 g1 g2 go n0 n1 n2 k : Nat} {base a b F ab : List Pr} {A : Option Addr} {c : Nat} (h : MSt w W g0 g1 g2 go n0 n1 n2 k base a b F ab A c) (hb : Below W.heap.size W W') : MSt w W' g0 g1 g2 go n0 n1 n2 k base a b F ab A c :=
  ⟨mapQ_below h.m0 hb, mapQ_below h.m1 hb, mapQ_below h.m2 hb, mapQ_below h.mo hb, pw_own_below h.row hb, below_step h.bel hb⟩
theorem MSt.grow {w W W' : World} {g0 g1 g2 go n0 n1 n2 k k' : Nat} {base a b F F' ab : List Pr} {A : Option Addr} {c : Nat} (h : MSt w W g0 g1 g2 go n0 n1 n2 k base a b F ab A c) (ho : OwnsQ W' go k' (ofQ F')) (hg : W.grownBy W' (some go)) (h0 : g0 ≠ go) (h1 : g1 ≠ go) (h2 : g2 ≠ go) (hgo : w.heap.size ≤ go) : MSt w W' g0 g1 g2 go n0 n1 n2 k' base a b F' ab A c :=
  ⟨h.m0.kept hg (fun e => h0 (Option.some.inj e)), h.m1.kept hg (fun e => h1 (Option.some.inj e)), h.m2.kept hg (fun e => h2 (Option.some.inj e)), ho, h.row.kept hg (Or.inr (mapQ_row h.mo h.row)), h.bel.grown hg h.bel.size (fun j hj => by injection hj with hj; omega)⟩
theorem MSt.more {w W : World} {g0 g1 g2 go n0 n1 n2 k k' : Nat} {base a b F ab : List Pr} {A : Option Addr} {c : Nat} (h : MSt w W g0 g1 g2 go n0 n1 n2 k base a b F ab A c) (hk : k ≤ k') : MSt w W g0 g1 g2 go n0 n1 n2 k' base a b F ab A c :=
  ⟨h.m0, h.m1, h.m2, h.mo.mono hk, h.row, h.bel⟩
theorem filter_take_succ (q : Pr → Bool) (l : List Pr) (k : Nat) (h : k < l.length) (x : Pr) (hx : x = l[k]) : (l.take (k + 1)).filter q = if q x = true then (l.take k).filter q ++ [x] else (l.take k).filter q := by
  subst hx
  rw [List.take_succ_eq_append_getElem h, List.filter_append]
  cases hq : q l[k] <;> simp [hq]
set_option maxHeartbeats 8000000 in
set_option maxRecDepth 100000 in
theorem pair_Merge.calls (A0 : Option Addr) (c0 : Nat) (l0 : List (S57)) (A1 : Option Addr) (c1 : Nat) (l1 : List (S57)) (A2 : Option Addr) (c2 : Nat) (l2 : List (S57)) (r : List (S57)) (w : World) (hr0 : Kd.C k57 w A0 l0.length l0) (hc0 : l0.length ≤ c0) (hr1 : Kd.C k57 w A1 l1.length l1) (hc1 : l1.length ≤ c1) (hr2 : Kd.C k57 w A2 l2.length l2) (hc2 : l2.length ≤ c2) (h : pair_Merge.f l0 l1 l2 = some r) :
    Calls Try.prog 53 #[.slice A0 l0.length c0, .slice A1 l1.length c1, .slice A2 l2.length c2] w fun e w' => ∃ v0_ : Value, e = .returned (v0_) ∧ Kd.R k57 57 w' w.heap.size (fun _ => True) v0_ r ∧ Below w.heap.size w w' := by
  unfold pair_Merge.f at h
  split at h
  case isFalse => cases h
  case isTrue hh =>
  cases h
  obtain ⟨q0, q1, q2⟩ := hh
  have hlen0 := smallP_len q0
  have hlen1 := smallP_len q1
  have hlen2 := smallP_len q2
  have HMAY0 := Aside0.mk (fun (W : World) (hb : Below w.heap.size w W) => pair_May.calls (l0.length + 6) A0 c0 l0 (mayP l0) W (Kd.C_below hr0 hb) hc0 (mayP_f _ l0 (by omega) (by omega) (smallP_all q0)))
  have HMAY1 := Aside0.mk (fun (W : World) (hb : Below w.heap.size w W) => pair_May.calls (l1.length + 6) A1 c1 l1 (mayP l1) W (Kd.C_below hr1 hb) hc1 (mayP_f _ l1 (by omega) (by omega) (smallP_all q1)))
  have HMAY2 := Aside0.mk (fun (W : World) (hb : Below w.heap.size w W) => pair_May.calls (l2.length + 6) A2 c2 l2 (mayP l2) W (Kd.C_below hr2 hb) hc2 (mayP_f _ l2 (by omega) (by omega) (smallP_all q2)))
  have HOF0 := Aside0.mk (fun (W : World) (hb : Below w.heap.size w W) => of_calls A0 c0 l0 W (Kd.C_below hr0 hb) (by unfold maxLen; omega) (smallP_all q0))
  have HOF1 := Aside0.mk (fun (W : World) (hb : Below w.heap.size w W) => of_calls A1 c1 l1 W (Kd.C_below hr1 hb) (by unfold maxLen; omega) (smallP_all q1))
  have HOF2 := Aside0.mk (fun (W : World) (hb : Below w.heap.size w W) => of_calls A2 c2 l2 W (Kd.C_below hr2 hb) (by unfold maxLen; omega) (smallP_all q2))
  have HCAT := Aside0.mk (fun (W : World) (vb : Nat) (hv : W.heap[vb]? = some (.cells #[.slice A1 l1.length c1, .slice A2 l2.length c2] 55 (0, 0))) (hb : Below w.heap.size w W) => concat_calls A1 c1 l1 A2 c2 l2 vb W hv (Kd.C_below hr1 hb) (Kd.C_below hr2 hb) (by omega))
  have HS1 := Aside0.mk (smallP_all q1)
  have HS2 := Aside0.mk (smallP_all q2)
  have hu := Try.underlying57
  have hum := Try.underlying85
  have hmm := @run_makeMap Try.prog
  clear hr0 hr1 hr2 q0 q1 q2
  go_enter Try.func53, Try.ntmps53
  go_wp2_with fail
  refine (HMAY0.out _ (Below.refl _ _)).mono ?_
  rintro e w1 ⟨rfl, hb1⟩
  have HB1 := Aside0.mk hb1
  clear hb1 HMAY0
  cases hm0 : mayP l0 with
  | false =>
    have HI := Aside0.mk (show mergeP l0 l1 l2 = [] by simp [mergeP, hm0])
    clear hm0
    go_wp2
    go_ret
    exact ⟨_, rfl, by rw [HI.out]; exact Kd.R_nil _ _ _ _ _, HB1.out⟩
  | true =>
    go_wp2_with fail
    refine (HMAY1.out _ HB1.out).mono ?_
    rintro e w2 ⟨rfl, hb2⟩
    have HB2 := Aside0.mk (below_step HB1.out hb2)
    clear hb2 HMAY1 HB1
    cases hm1 : mayP l1 with
    | false =>
      have HI := Aside0.mk (show mergeP l0 l1 l2 = [] by simp [mergeP, hm1])
      clear hm0 hm1
      go_wp2
      go_ret
      exact ⟨_, rfl, by rw [HI.out]; exact Kd.R_nil _ _ _ _ _, HB2.out⟩
    | true =>
      go_wp2_with fail
      refine (HMAY2.out _ HB2.out).mono ?_
      rintro e w3 ⟨rfl, hb3⟩
      have HB3 := Aside0.mk (below_step HB2.out hb3)
      clear hb3 HMAY2 HB2
      cases hm2 : mayP l2 with
      | false =>
        have HI := Aside0.mk (show mergeP l0 l1 l2 = [] by simp [mergeP, hm2])
        clear hm0 hm1 hm2
        go_wp2
        go_ret
        exact ⟨_, rfl, by rw [HI.out]; exact Kd.R_nil _ _ _ _ _, HB3.out⟩
      | true =>
        have HI := Aside0.mk (show mergeP l0 l1 l2 = setP ((l1 ++ l2).filter (mcond l0 l1 l2)) by simp [mergeP, hm0, hm1, hm2])
        clear hm0 hm1 hm2
        go_wp2_with fail
        refine (HOF0.out _ HB3.out).mono ?_
        rintro e w4 ⟨g0, rfl, hg0, ho0, hb4⟩
        have HB4 := Aside0.mk (below_step HB3.out hb4)
        clear hb4 HOF0
        go_wp2_with fail
        refine (HOF1.out _ HB4.out).mono ?_
        rintro e w5 ⟨g1, rfl, hg1, ho1, hb5⟩
        have HB5 := Aside0.mk (below_step HB4.out hb5)
        replace ho0 := mapQ_below ho0 hb5
        clear hb5 HOF1
        go_wp2_with fail
        refine (HOF2.out _ HB5.out).mono ?_
        rintro e w6 ⟨g2, rfl, hg2, ho2, hb6⟩
        have HB6 := Aside0.mk (below_step HB5.out hb6)
        replace ho0 := mapQ_below ho0 hb6
        replace ho1 := mapQ_below ho1 hb6
        have hl0 := ho0.lt
        have hl1 := ho1.lt
        have hl2 := ho2.lt
        have HO0 := Aside0.mk ho0
        have HO1 := Aside0.mk ho1
        have HO2 := Aside0.mk ho2
        have hw6 := HB6.out.size
        clear hb6 HOF2 ho0 ho1 ho2 HB3 HB4 HB5
        go_wp2_with fail
        have hv7 : ((w6.alloc (.map #[] 0)).alloc (.cells #[.slice A1 l1.length c1, .slice A2 l2.length c2] 55)).heap[w6.heap.size + 1]? = some (.cells #[.slice A1 l1.length c1, .slice A2 l2.length c2] 55 (0, 0)) := by
          have := blk_new (w6.alloc (.map #[] 0)) (.cells #[.slice A1 l1.length c1, .slice A2 l2.length c2] 55)
          simpa using this
        have hb67 : Below w6.heap.size w6 ((w6.alloc (.map #[] 0)).alloc (.cells #[.slice A1 l1.length c1, .slice A2 l2.length c2] 55)) := below_alloc (below_alloc (Below.refl _ _) _) _
        refine (HCAT.out _ _ hv7 (below_step HB6.out hb67)).mono ?_
        rintro e w7 ⟨A, c, rfl, ho7, hb7⟩
        have hom0 : OwnsQ ((w6.alloc (.map #[] 0)).alloc (.cells #[.slice A1 l1.length c1, .slice A2 l2.length c2] 55)) w6.heap.size 0 [] := (World.ownsMap_made w6 Try.prog 57 (plainElem (H := Unit) Try.prog 3)).alloc _
        have hom := mapQ_below hom0 hb7
        have hb8 := below_step hb67 hb7
        have hbw := below_step HB6.out hb8
        obtain ⟨ab, hab⟩ : ∃ ab, ab = l1 ++ l2 := ⟨_, rfl⟩
        rw [← hab] at ho7 HI ⊢
        have HST := Aside0.mk (show MSt w w7 g0 g1 g2 w6.heap.size l0.length l1.length l2.length 0 l0 l1 l2 ((ab.take 0).filter (mcond l0 l1 l2)) ab A c from ⟨mapQ_below HO0.out hb8, mapQ_below HO1.out hb8, mapQ_below HO2.out hb8, hom, own_lower2 ho7 (below_step HB6.out hb67).size, hbw⟩)
        have HOK := Aside0.mk (show ∀ x ∈ ab, okPair x by
          intro x hx
          rw [hab] at hx
          rcases List.mem_append.1 hx with h | h
          · exact HS1.out x h
          · exact HS2.out x h)
        have hablen : ab.length = l1.length + l2.length := by rw [hab, List.length_append]
        have hab48 : ab.length * 64 ≤ 140737488355328 := by omega
        clear hab ho7 hb7 hom hom0 hb8 hbw hb67 hv7 HO0 HO1 HO2 HB6 HCAT HS1 HS2 hg0 hg1 hg2 hmm
        go_wp2
        go_loopw [38] (fun i wr => ∃ k : Nat, k ≤ ab.length ∧ i = .int .i64 k ∧ Aside0 (MSt w wr g0 g1 g2 w6.heap.size l0.length l1.length l2.length k l0 l1 l2 ((ab.take k).filter (mcond l0 l1 l2)) ab A c)) (fun i _ => ab.length - (intOf i).toNat)
        case atStart => exact ⟨0, Nat.zero_le _, rfl, HST⟩
        case round =>
          clear HST
          obtain ⟨k, hk, rfl, HS0⟩ := hrel
          by_cases hlt : k < ab.length
          · have hC := (C_ofown rfl HS0.out.row).1
            obtain ⟨ad, e, hx0, hx1, hx2, hx3⟩ := at_T57 hC (k : Nat) (by omega) (by omega)
            have HXK := Aside0.mk (rdP_at ab k hlt)
            have hkx : okPair (rd_T57 ab (k : Nat)) := by rw [HXK.out]; exact HOK.out _ (List.getElem_mem _)
            cases e
            simp only [Int.toNat_natCast] at hx0 hx1 hx2 hx3
            have hkm : k < maxLen := by unfold maxLen; omega
            generalize rd_T57 ab (k : Nat) = x at hx0 hx1 hx2 hx3 HXK hkx
            have HST_wa := Aside0.mk (HS0.out.below (below_alloc (Below.refl _ _) (.cells #[.string x.f0, .string x.f1, .int .i64 x.f2.f0, .int .i64 x.f2.f1] 57)))
            have HX_wa := Aside0.mk (blk_new wr (.cells #[.string x.f0, .string x.f1, .int .i64 x.f2.f0, .int .i64 x.f2.f1] 57))
            clear hC HS0
            have HCw8 := Aside0.mk (has_calls g1 l1.length (ofQ l1) (wr.alloc (.cells #[.string x.f0, .string x.f1, .int .i64 x.f2.f0, .int .i64 x.f2.f1] 57)) HST_wa.out.m1 x hkx)
            go_wp2_with fail
            refine HCw8.out.mono ?_
            rintro e w8 ⟨rfl, hb⟩
            have HST_w8 := Aside0.mk (HST_wa.out.below hb)
            have HX_w8 := Aside0.mk (blk_below HX_wa.out hb)
            have b0 : w8.cell? ⟨wr.heap.size, 0, none⟩ = some (.string x.f0) := blk_cell HX_w8.out 0
            have b1 : w8.cell? ⟨wr.heap.size, 1, none⟩ = some (.string x.f1) := blk_cell HX_w8.out 1
            have b2 : w8.cell? ⟨wr.heap.size, 2, none⟩ = some (.int .i64 x.f2.f0) := blk_cell HX_w8.out 2
            have b3 : w8.cell? ⟨wr.heap.size, 3, none⟩ = some (.int .i64 x.f2.f1) := blk_cell HX_w8.out 3
            clear hb HCw8 HST_wa HX_wa
            cases h1 : decide (0 < getQ (ofQ l1) x) with
            | true =>
              have HCw9 := Aside0.mk (has_calls g2 l2.length (ofQ l2) w8 HST_w8.out.m2 x hkx)
              go_wp2_with fail
              refine HCw9.out.mono ?_
              rintro e w9 ⟨rfl, hb⟩
              have HST_w9 := Aside0.mk (HST_w8.out.below hb)
              have HX_w9 := Aside0.mk (blk_below HX_w8.out hb)
              have b0 : w9.cell? ⟨wr.heap.size, 0, none⟩ = some (.string x.f0) := blk_cell HX_w9.out 0
              have b1 : w9.cell? ⟨wr.heap.size, 1, none⟩ = some (.string x.f1) := blk_cell HX_w9.out 1
              have b2 : w9.cell? ⟨wr.heap.size, 2, none⟩ = some (.int .i64 x.f2.f0) := blk_cell HX_w9.out 2
              have b3 : w9.cell? ⟨wr.heap.size, 3, none⟩ = some (.int .i64 x.f2.f1) := blk_cell HX_w9.out 3
              clear hb HCw9 HST_w8 HX_w8
              cases h2 : decide (0 < getQ (ofQ l2) x) with
              | true =>
                have hq : mcond l0 l1 l2 x = true := by unfold mcond inP; simp [h1, h2]
                obtain ⟨st, v2, v3, cc, r1, r2, r3, r5, ho5, hg5⟩ := incQ_at HST_w9.out.mo.drew (ofQ_up _) hkm x hkx
                rw [← ofQ_snoc] at ho5
                have HST2 : Aside0 (MSt w v3 g0 g1 g2 w6.heap.size l0.length l1.length l2.length (k + 1) l0 l1 l2 ((ab.take (k + 1)).filter (mcond l0 l1 l2)) ab (some ad) c) := ⟨by
                  rw [filter_take_succ _ ab k hlt x HXK.out, if_pos hq]
                  exact (HST_w9.out.below (below_drew (Below.refl _ _))).grow ho5 hg5 (by omega) (by omega) (by omega) hw6⟩
                clear ho5 hg5 HST_w9 HX_w9 hq h1 h2
                go_wp2_with fail
                go_region
                all_goals
                  go_wp2
                  go_roundw
                  case rel => exact ⟨k + 1, by omega, by go_num, HST2⟩
                  case measure => simp [intOf]; omega
              | false =>
                have HCw10 := Aside0.mk (has_calls g0 l0.length (ofQ l0) w9 HST_w9.out.m0 x hkx)
                go_wp2_with fail
                refine HCw10.out.mono ?_
                rintro e w10 ⟨rfl, hb⟩
                have HST_w10 := Aside0.mk (HST_w9.out.below hb)
                have HX_w10 := Aside0.mk (blk_below HX_w9.out hb)
                have b0 : w10.cell? ⟨wr.heap.size, 0, none⟩ = some (.string x.f0) := blk_cell HX_w10.out 0
                have b1 : w10.cell? ⟨wr.heap.size, 1, none⟩ = some (.string x.f1) := blk_cell HX_w10.out 1
                have b2 : w10.cell? ⟨wr.heap.size, 2, none⟩ = some (.int .i64 x.f2.f0) := blk_cell HX_w10.out 2
                have b3 : w10.cell? ⟨wr.heap.size, 3, none⟩ = some (.int .i64 x.f2.f1) := blk_cell HX_w10.out 3
                clear hb HCw10 HST_w9 HX_w9
                cases h0 : decide (0 < getQ (ofQ l0) x) with
                | true =>
                  have hq : mcond l0 l1 l2 x = false := by unfold mcond inP; simp [h1, h2, h0]
                  have HST2 : Aside0 (MSt w w10 g0 g1 g2 w6.heap.size l0.length l1.length l2.length (k + 1) l0 l1 l2 ((ab.take (k + 1)).filter (mcond l0 l1 l2)) ab (some ad) c) := ⟨by
                    rw [filter_take_succ _ ab k hlt x HXK.out, if_neg (by simp [hq])]
                    exact HST_w10.out.more (Nat.le_succ k)⟩
                  clear HST_w10 HX_w10 hq h1 h2 h0
                  go_wp2
                  go_roundw
                  case rel => exact ⟨k + 1, by omega, by go_num, HST2⟩
                  case measure => simp [intOf]; omega
                | false =>
                  have hq : mcond l0 l1 l2 x = true := by unfold mcond inP; simp [h0]
                  obtain ⟨st, v2, v3, cc, r1, r2, r3, r5, ho5, hg5⟩ := incQ_at HST_w10.out.mo.drew (ofQ_up _) hkm x hkx
                  rw [← ofQ_snoc] at ho5
                  have HST2 : Aside0 (MSt w v3 g0 g1 g2 w6.heap.size l0.length l1.length l2.length (k + 1) l0 l1 l2 ((ab.take (k + 1)).filter (mcond l0 l1 l2)) ab (some ad) c) := ⟨by
                    rw [filter_take_succ _ ab k hlt x HXK.out, if_pos hq]
                    exact (HST_w10.out.below (below_drew (Below.refl _ _))).grow ho5 hg5 (by omega) (by omega) (by omega) hw6⟩
                  clear ho5 hg5 HST_w10 HX_w10 hq h0
                  go_wp2_with fail
                  go_region
                  all_goals
                    go_wp2
                    go_roundw
                    case rel => exact ⟨k + 1, by omega, by go_num, HST2⟩
                    case measure => simp [intOf]; omega
            | false =>
              have HCw9 := Aside0.mk (has_calls g0 l0.length (ofQ l0) w8 HST_w8.out.m0 x hkx)
              go_wp2_with fail
              refine HCw9.out.mono ?_
              rintro e w9 ⟨rfl, hb⟩
              have HST_w9 := Aside0.mk (HST_w8.out.below hb)
              have HX_w9 := Aside0.mk (blk_below HX_w8.out hb)
              have b0 : w9.cell? ⟨wr.heap.size, 0, none⟩ = some (.string x.f0) := blk_cell HX_w9.out 0
              have b1 : w9.cell? ⟨wr.heap.size, 1, none⟩ = some (.string x.f1) := blk_cell HX_w9.out 1
              have b2 : w9.cell? ⟨wr.heap.size, 2, none⟩ = some (.int .i64 x.f2.f0) := blk_cell HX_w9.out 2
              have b3 : w9.cell? ⟨wr.heap.size, 3, none⟩ = some (.int .i64 x.f2.f1) := blk_cell HX_w9.out 3
              clear hb HCw9 HST_w8 HX_w8
              cases h0 : decide (0 < getQ (ofQ l0) x) with
              | true =>
                have hq : mcond l0 l1 l2 x = false := by unfold mcond inP; simp [h1, h0]
                have HST2 : Aside0 (MSt w w9 g0 g1 g2 w6.heap.size l0.length l1.length l2.length (k + 1) l0 l1 l2 ((ab.take (k + 1)).filter (mcond l0 l1 l2)) ab (some ad) c) := ⟨by
                  rw [filter_take_succ _ ab k hlt x HXK.out, if_neg (by simp [hq])]
                  exact HST_w9.out.more (Nat.le_succ k)⟩
                clear HST_w9 HX_w9 hq h1 h0
                go_wp2
                go_roundw
                case rel => exact ⟨k + 1, by omega, by go_num, HST2⟩
                case measure => simp [intOf]; omega
              | false =>
                have hq : mcond l0 l1 l2 x = true := by unfold mcond inP; simp [h0]
                obtain ⟨st, v2, v3, cc, r1, r2, r3, r5, ho5, hg5⟩ := incQ_at HST_w9.out.mo.drew (ofQ_up _) hkm x hkx
                rw [← ofQ_snoc] at ho5
                have HST2 : Aside0 (MSt w v3 g0 g1 g2 w6.heap.size l0.length l1.length l2.length (k + 1) l0 l1 l2 ((ab.take (k + 1)).filter (mcond l0 l1 l2)) ab (some ad) c) := ⟨by
                  rw [filter_take_succ _ ab k hlt x HXK.out, if_pos hq]
                  exact (HST_w9.out.below (below_drew (Below.refl _ _))).grow ho5 hg5 (by omega) (by omega) (by omega) hw6⟩
                clear ho5 hg5 HST_w9 HX_w9 hq h0
                go_wp2_with fail
                go_region
                all_goals
                  go_wp2
                  go_roundw
                  case rel => exact ⟨k + 1, by omega, by go_num, HST2⟩
                  case measure => simp [intOf]; omega
          · have hF : (ab.take k).filter (mcond l0 l1 l2) = ab.filter (mcond l0 l1 l2) := by rw [List.take_of_length_le (by omega)]
            have hfl : (ofQ (ab.filter (mcond l0 l1 l2))).length * 64 ≤ 140737488355328 := Nat.le_trans (Nat.mul_le_mul_right 64 (Nat.le_trans (ofQ_len _) (List.length_filter_le _ _))) hab48
            have hmo := HS0.out.mo
            rw [hF] at hmo
            have HL := Aside0.mk (plist_calls w6.heap.size _ _ wr hmo (ofQ_up _) (fun q hq => HOK.out _ (List.mem_filter.1 (ofQ_keys _ q hq)).1) hfl)
            have HB := Aside0.mk HS0.out.bel
            clear HS0 hmo
            go_wp2_with fail
            refine HL.out.mono ?_
            rintro e w8 ⟨v, rfl, ho8, hb8⟩
            obtain ⟨A', c', rfl⟩ := own_slice ho8
            have HO8 := Aside0.mk (own_lower2 ho8 HB.out.size)
            have HB8 := Aside0.mk (below_step HB.out hb8)
            clear ho8 hb8 HL HB
            go_wp2
            go_ret
            exact ⟨_, rfl, by rw [HI.out]; exact R_pair (by unfold setP; rw [sortP_length, List.length_map]) HO8.out, HB8.out⟩
end Go.Proofs.Ytannmdngejdjkaa.L
