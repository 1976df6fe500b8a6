/- Several of the walk's texts in one: SHPairCat, SHPairMerge, SHPairElems, Sx22, SPP. -/
import Derived.Deep.RegionLaw
import Derived.RegionTactic
import Derived.Sort.OwnSorted
import Derived.Test.YtmcddoolniaehaaGreatMK03
import Derived.Test.YtmcddoolniaehaaGreatMK04
import Derived.Test.YtmcddoolniaehaaGreatMK09
import Derived.Test.YtmcddoolniaehaaGreatMK11
section
namespace Go.Proofs.YtmcddoolniaehaaGreat.S
open Go.RowKit Go.Proofs.YtmcddoolniaehaaGreatW.PrintWords Go.Proofs.YtmcddoolniaehaaGreatW.PrintLast Go.Proofs.YtmcddoolniaehaaGreatW.PrintMore Go.Proofs.YtmcddoolniaehaaGreatW
set_option linter.unusedVariables false
set_option linter.unusedSimpArgs false
theorem append_nil_src (w : World) (ty : TypeId) {base n : Nat} {v : Value} {xs : List Value} (hown : w.ownsRow base 43 4 v n xs) (c : Nat) : (Builtin.append_ #[24, 24] ty #[v, .slice none 0 c]).run Tryz.prog w = .ok v w := by
  obtain ⟨i0, hi, hz0, hz1, hz2⟩ := info_parts info43
  rcases hown.2 with ⟨rfl, rfl⟩ | ⟨g, cap, cur, rfl, _, _, hnc, _⟩
  · simp [Builtin.append_, run_underlying Tryz.underlying24, sizeOf, typeInfo, hi, Builtin.lenOf, Builtin.firstCells]
  · simp [Builtin.append_, run_underlying Tryz.underlying24, sizeOf, typeInfo, hi, Builtin.lenOf, Builtin.firstCells, hnc, storeCells, Result.andThen]
theorem app_pairs (w : World) (ty : TypeId) {base : Nat} {v : Value} {l1 : List Pr} (ho : w.ownsRow base 43 4 v l1.length (pairRow l1)) (A : Option Addr) (c : Nat) (l2 : List Pr) (hC : Kd.C k43 w A l2.length l2) (hlim : (l1.length + l2.length) * 48 ≤ 140737488355328) (hbase : base ≤ w.heap.size) :
    ∃ v' w', (Builtin.append_ #[24, 24] ty #[v, .slice A l2.length c]).run Tryz.prog w = .ok v' w' ∧ w'.ownsRow base 43 4 v' (l1 ++ l2).length (pairRow (l1 ++ l2)) ∧ w.grownBy w' v.ownBlock ∧ (∃ A' c', v' = .slice A' (l1 ++ l2).length c') := by
  rcases A with _ | a
  · have h0 : l2.length = 0 := by
      rcases Nat.eq_zero_or_pos l2.length with h | h
      · exact h
      · obtain ⟨ad, h', _⟩ := hC.2.2 h
        cases h'
    obtain rfl := List.eq_nil_of_length_eq_zero h0
    obtain ⟨A', c', rfl⟩ := own_slice ho
    exact ⟨_, w, append_nil_src w ty ho c, by rw [List.append_nil]; exact ho, World.grownBy.refl _ _, A', c', by rw [List.append_nil]⟩
  · obtain ⟨i0, hi, hz0, hz1, hz2⟩ := info_parts info43
    have hnews := C_news (d := k43) (enc := pairCells) pairCells_lengthK (fun h => k43_open h) hC
    obtain ⟨v', w', hr, ho', hg, _, hat⟩ := run_append_own_at (P := Tryz.prog) (w := w) base 24 ty 43 i0 _ 4 48 Tryz.underlying24 hi hz0 hz1 hz2 (by rfl) (by omega) v l1.length (pairRow l1) ho a l2.length c (pairRow l2)
      (flat_length (enc := pairCells) (sz := 4) (fun _ => rfl) l2) hnews (flat_one pairCells_one l2) (by unfold maxLen; omega) (by omega) hbase
    have ho2 : w'.ownsRow base 43 4 v' (l1 ++ l2).length (pairRow (l1 ++ l2)) := by rw [List.length_append]; unfold pairRow; rw [List.flatMap_append]; exact ho'
    obtain ⟨A', c', rfl⟩ := own_slice ho2
    exact ⟨_, w', hr, ho2, hg, A', c', rfl⟩
set_option maxHeartbeats 1000000 in
set_option maxRecDepth 100000 in
theorem grow_calls (n : Nat) (w : World) (hlim : n * 48 ≤ 140737488355328) :
    Calls Tryz.prog 118 #[.slice none 0 0, .int .i64 n] w fun e w' => ∃ A c, e = .returned (.slice A 0 c) ∧ w'.ownsRow w.heap.size 43 4 (.slice A 0 c) 0 (pairRow []) ∧ Below w.heap.size w w' := by
  rcases Nat.eq_zero_or_pos n with rfl | hn
  · go_enter Tryz.func118, Tryz.ntmps118
    go_wp2
    go_ret
    exact ⟨none, 0, rfl, own_nil _ _ _ _, Below.refl _ _⟩
  · obtain ⟨i0, hi, hz0, hz1, hz2⟩ := info_parts info43
    have hr := fun ty => Lib.run_append_nil_zeros (P := Tryz.prog) w 24 3 ty 43 i0 _ .i64 .i64 Tryz.underlying24 Tryz.underlying3 hi hz0 n hn (by omega) (by omega) (by rw [hz2]; omega)
    have hG1 := grownCap_ge w n 0 43
    have hG2 := grownCap_le_maxLen w n 0 43 (by unfold maxLen; omega)
    generalize grownCap w n 0 43 = G at hr hG1 hG2
    have HO : (w.drew.alloc (.cells (Builtin.zeroCells (Value.agg #[.string ⟨#[]⟩, .string ⟨#[]⟩, .int .i64 0, .int .i64 0]).cells n ++ Builtin.zeroCells (Value.agg #[.string ⟨#[]⟩, .string ⟨#[]⟩, .int .i64 0, .int .i64 0]).cells (G - n)) 43)).ownsRow w.heap.size 43 4 (.slice (some ⟨w.heap.size, 0, none⟩) 0 G) 0 (pairRow []) := by
      refine ⟨rfl, .inr ⟨w.heap.size, G, _, rfl, Nat.le_refl _, blk_new w.drew _, Nat.zero_le _, hG2, ?_, by simp⟩⟩
      simp only [Array.size_append, Builtin.zeroCells, Array.size_map, Array.size_range, Value.cells]
      simp
      omega
    have HA := Aside0.mk HO
    have hGm : G ≤ 9223372036854775807 := by unfold maxLen at hG2; omega
    have hnm : n ≤ 9223372036854775807 := by omega
    clear HO hi hz0 hz1 hz2 hG2
    go_enter Tryz.func118, Tryz.ntmps118
    go_wp2_with (at_builtin; refine Lib.wpList_append_run _ rfl _ _ _ _ rfl _ _ rfl rfl _ _ (hr _) ?_)
    go_ret
    exact ⟨_, _, rfl, HA.out, below_drew (below_alloc (Below.refl w.heap.size w) _)⟩
set_option maxHeartbeats 4000000 in
set_option maxRecDepth 100000 in
theorem concat_calls (A1 : Option Addr) (c1 : Nat) (l1 : List Pr) (A2 : Option Addr) (c2 : Nat) (l2 : List Pr) (vb : Nat) (w : World) (hv : w.heap[vb]? = some (.cells #[.slice A1 l1.length c1, .slice A2 l2.length c2] 24 (0, 0)))
    (h1 : Kd.C k43 w A1 l1.length l1) (h2 : Kd.C k43 w A2 l2.length l2) (hlim : (l1.length + l2.length) * 48 ≤ 140737488355328) :
    Calls Tryz.prog 98 #[.slice (some ⟨vb, 0, none⟩) 2 2] w fun e w' => ∃ A c, e = .returned (.slice A (l1 ++ l2).length c) ∧ w'.ownsRow w.heap.size 43 4 (.slice A (l1 ++ l2).length c) (l1 ++ l2).length (pairRow (l1 ++ l2)) ∧ Below w.heap.size w w' := by
  have v0 : w.cell? ⟨vb, 0, none⟩ = some (.slice A1 l1.length c1) := blk_cell hv 0
  have v1 : w.cell? ⟨vb, 1, none⟩ = some (.slice A2 l2.length c2) := blk_cell hv 1
  have HV := Aside0.mk hv
  have H1 := Aside0.mk h1
  have H2 := Aside0.mk h2
  have hn1 : l1.length ≤ 9223372036854775807 := by omega
  have hn2 : l2.length ≤ 9223372036854775807 := by omega
  have hgr := grow_calls (l1.length + l2.length) w hlim
  rw [Int.natCast_add] at hgr
  have HG := Aside0.mk hgr
  clear hv h1 h2 hgr
  go_enter Tryz.func98, Tryz.ntmps98
  go_wp2
  go_loopw [3, 11] (fun s i wr => Aside0 (wr = w) ∧ ((i = .int .i64 0 ∧ s = .int .i64 0) ∨ (i = .int .i64 1 ∧ s = .int .i64 l1.length) ∨ (i = .int .i64 2 ∧ s = .int .i64 ((l1.length : Int) + (l2.length : Int))))) (fun _ i _ => 2 - (intOf i).toNat)
  case atStart => exact ⟨⟨rfl⟩, .inl ⟨rfl, rfl⟩⟩
  case round =>
    obtain ⟨⟨hwr⟩, hc⟩ := hrel
    have hwr2 := hwr.symm
    clear hwr
    subst hwr2
    rcases hc with ⟨rfl, rfl⟩ | ⟨rfl, rfl⟩ | ⟨rfl, rfl⟩
    · have hneg : ¬ ((l1.length : Int) < 0) := by omega
      go_wp2
      go_roundw
      case rel => exact ⟨⟨by first | trivial | rfl⟩, .inr (.inl ⟨rfl, rfl⟩)⟩
      case measure => simp [intOf]
    · have hneg : ¬ ((l1.length : Int) + (l2.length : Int) < 0) := by omega
      go_wp2
      go_roundw
      case rel => exact ⟨⟨by first | trivial | rfl⟩, .inr (.inr ⟨rfl, rfl⟩)⟩
      case measure => simp [intOf]
    · clear v0 v1
      go_wp2_with fail
      refine HG.out.mono ?_
      rintro e w1 ⟨A, c, rfl, ho1, hb1⟩
      have HO1 := Aside0.mk ho1
      have HB1 := Aside0.mk hb1
      clear ho1 hb1 HG
      go_wp2
      go_loopw [6, 27] (fun v i wr => ∃ l : List Pr, Aside0 (wr.ownsRow w.heap.size 43 4 v l.length (pairRow l)) ∧ Aside0 (Below w.heap.size w wr) ∧ ((i = .int .i64 0 ∧ Aside0 (l = [])) ∨ (i = .int .i64 1 ∧ Aside0 (l = l1)) ∨ (i = .int .i64 2 ∧ Aside0 (l = l1 ++ l2)))) (fun _ i _ => 2 - (intOf i).toNat)
      case atStart => exact ⟨[], HO1, HB1, .inl ⟨rfl, ⟨rfl⟩⟩⟩
      case round =>
        clear HO1 HB1
        obtain ⟨l, HO, HB, hc⟩ := hrel
        have hvs := blk_below HV.out HB.out
        have v0 : wr.cell? ⟨vb, 0, none⟩ = some (.slice A1 l1.length c1) := blk_cell hvs 0
        have v1 : wr.cell? ⟨vb, 1, none⟩ = some (.slice A2 l2.length c2) := blk_cell hvs 1
        clear hvs
        obtain ⟨A', c', rfl⟩ := own_slice HO.out
        rcases hc with ⟨rfl, ⟨rfl⟩⟩ | ⟨rfl, ⟨rfl⟩⟩ | ⟨rfl, ⟨rfl⟩⟩
        · obtain ⟨v', w', hr, ho', hg', A3, c3, rfl⟩ := app_pairs wr 24 HO.out A1 c1 l1 (Kd.C_below H1.out HB.out) (by simp; omega) HB.out.size
          have HO3 := Aside0.mk ho'
          have HB3 := Aside0.mk (HB.out.grown hg' HB.out.size (own_base HO.out))
          clear ho' hg' HO HB
          go_wp2_with (at_builtin; refine Lib.wpList_append_run _ rfl _ _ _ _ rfl _ _ rfl rfl _ _ hr ?_)
          go_roundw
          case rel => exact ⟨l1, HO3, HB3, .inr (.inl ⟨rfl, ⟨rfl⟩⟩)⟩
          case measure => simp [intOf]
        · obtain ⟨v', w', hr, ho', hg', A3, c3, rfl⟩ := app_pairs wr 24 HO.out A2 c2 l2 (Kd.C_below H2.out HB.out) hlim HB.out.size
          have HO3 := Aside0.mk ho'
          have HB3 := Aside0.mk (HB.out.grown hg' HB.out.size (own_base HO.out))
          clear ho' hg' HO HB
          go_wp2_with (at_builtin; refine Lib.wpList_append_run _ rfl _ _ _ _ rfl _ _ rfl rfl _ _ hr ?_)
          go_roundw
          case rel => exact ⟨_, ⟨by rw [← List.length_append]; exact HO3.out⟩, HB3, .inr (.inr ⟨rfl, ⟨rfl⟩⟩)⟩
          case measure => simp [intOf]
        · go_wp2
          go_ret
          exact ⟨_, _, rfl, HO.out, HB.out⟩
end Go.Proofs.YtmcddoolniaehaaGreat.S
end
section
namespace Go.Proofs.YtmcddoolniaehaaGreat.S
open Go.RowKit Go.Maps Go.Proofs.YtmcddoolniaehaaGreatW.PrintWords Go.Proofs.YtmcddoolniaehaaGreatW.PrintLast Go.Proofs.YtmcddoolniaehaaGreatW.PrintMore Go.Proofs.YtmcddoolniaehaaGreatW
set_option linter.unusedVariables false
set_option linter.unusedSimpArgs false
def inP (l : List Pr) (p : Pr) : Bool := decide (0 < getQ (ofQ l) p)
def mcond (base a b : List Pr) (p : Pr) : Bool := (inP a p && inP b p) || !inP base p
def mergeP (base a b : List Pr) : List Pr := if mayP base && (mayP a && mayP b) then setP ((a ++ b).filter (mcond base a b)) else []
def pair_Merge.f (l0 : List (S43)) (l1 : List (S43)) (l2 : List (S43)) : Option ((List (S43))) :=
  if smallP l0 = true ∧ smallP l1 = true ∧ smallP l2 = true then some (mergeP l0 l1 l2) else none
theorem mapQ_below {w w1 : World} {gb n : Nat} {es : MapQ} (h : OwnsQ w gb n es) (hb : Below w.heap.size w w1) : OwnsQ w1 gb n es := by
  obtain ⟨es', clock, h1, h2⟩ := h
  exact ⟨es', clock, blk_below h1 hb, h2⟩
theorem mapQ_row {w : World} {gb n base m : Nat} {es : MapQ} {e : TypeId} {size : Nat} {v : Value} {xs : List Value} (h : OwnsQ w gb n es) (hr : w.ownsRow base e size v m xs) : v.ownBlock ≠ some gb := by
  intro e1
  obtain ⟨cells, h1⟩ := own_typed hr gb e1
  obtain ⟨es', clock, h2, _⟩ := h
  rw [h1] at h2
  cases h2
structure MSt (w W : World) (g0 g1 g2 go n0 n1 n2 k : Nat) (base a b F ab : List Pr) (A : Option Addr) (c : Nat) : Prop where
  m0 : OwnsQ W g0 n0 (ofQ base)
  m1 : OwnsQ W g1 n1 (ofQ a)
  m2 : OwnsQ W g2 n2 (ofQ b)
  mo : OwnsQ W go k (ofQ F)
  row : W.ownsRow w.heap.size 43 4 (.slice A ab.length c) ab.length (pairRow ab)
  bel : Below w.heap.size w W
theorem MSt.below {w W W' : World} {g0 g1 g2 go n0 n1 n2 k : Nat} {base a b F ab : List Pr} {A : Option Addr} {c : Nat} (h : MSt w W g0 g1 g2 go n0 n1 n2 k base a b F ab A c) (hb : Below W.heap.size W W') : MSt w W' g0 g1 g2 go n0 n1 n2 k base a b F ab A c :=
  ⟨mapQ_below h.m0 hb, mapQ_below h.m1 hb, mapQ_below h.m2 hb, mapQ_below h.mo hb, pw_own_below h.row hb, below_step h.bel hb⟩
theorem MSt.grow {w W W' : World} {g0 g1 g2 go n0 n1 n2 k k' : Nat} {base a b F F' ab : List Pr} {A : Option Addr} {c : Nat} (h : MSt w W g0 g1 g2 go n0 n1 n2 k base a b F ab A c) (ho : OwnsQ W' go k' (ofQ F')) (hg : W.grownBy W' (some go)) (h0 : g0 ≠ go) (h1 : g1 ≠ go) (h2 : g2 ≠ go) (hgo : w.heap.size ≤ go) : MSt w W' g0 g1 g2 go n0 n1 n2 k' base a b F' ab A c :=
  ⟨h.m0.kept hg (fun e => h0 (Option.some.inj e)), h.m1.kept hg (fun e => h1 (Option.some.inj e)), h.m2.kept hg (fun e => h2 (Option.some.inj e)), ho, h.row.kept hg (Or.inr (mapQ_row h.mo h.row)), h.bel.grown hg h.bel.size (fun j hj => by injection hj with hj; omega)⟩
theorem MSt.more {w W : World} {g0 g1 g2 go n0 n1 n2 k k' : Nat} {base a b F ab : List Pr} {A : Option Addr} {c : Nat} (h : MSt w W g0 g1 g2 go n0 n1 n2 k base a b F ab A c) (hk : k ≤ k') : MSt w W g0 g1 g2 go n0 n1 n2 k' base a b F ab A c :=
  ⟨h.m0, h.m1, h.m2, h.mo.mono hk, h.row, h.bel⟩
theorem filter_take_succ (q : Pr → Bool) (l : List Pr) (k : Nat) (h : k < l.length) (x : Pr) (hx : x = l[k]) : (l.take (k + 1)).filter q = if q x = true then (l.take k).filter q ++ [x] else (l.take k).filter q := by
  subst hx
  rw [List.take_succ_eq_append_getElem h, List.filter_append]
  cases hq : q l[k] <;> simp [hq]
set_option maxHeartbeats 8000000 in
set_option maxRecDepth 100000 in
theorem pair_Merge.calls (A0 : Option Addr) (c0 : Nat) (l0 : List (S43)) (A1 : Option Addr) (c1 : Nat) (l1 : List (S43)) (A2 : Option Addr) (c2 : Nat) (l2 : List (S43)) (r : List (S43)) (w : World) (hr0 : Kd.C k43 w A0 l0.length l0) (hc0 : l0.length ≤ c0) (hr1 : Kd.C k43 w A1 l1.length l1) (hc1 : l1.length ≤ c1) (hr2 : Kd.C k43 w A2 l2.length l2) (hc2 : l2.length ≤ c2) (h : pair_Merge.f l0 l1 l2 = some r) :
    Calls Tryz.prog 63 #[.slice A0 l0.length c0, .slice A1 l1.length c1, .slice A2 l2.length c2] w fun e w' => ∃ v0_ : Value, e = .returned (v0_) ∧ Kd.R k43 43 w' w.heap.size (fun _ => True) v0_ r ∧ Below w.heap.size w w' := by
  unfold pair_Merge.f at h
  split at h
  case isFalse => cases h
  case isTrue hh =>
  cases h
  obtain ⟨q0, q1, q2⟩ := hh
  have hlen0 := smallP_len q0
  have hlen1 := smallP_len q1
  have hlen2 := smallP_len q2
  have HMAY0 := Aside0.mk (fun (W : World) (hb : Below w.heap.size w W) => pair_May.calls (l0.length + 6) A0 c0 l0 (mayP l0) W (Kd.C_below hr0 hb) hc0 (mayP_f _ l0 (by omega) (by omega) (smallP_all q0)))
  have HMAY1 := Aside0.mk (fun (W : World) (hb : Below w.heap.size w W) => pair_May.calls (l1.length + 6) A1 c1 l1 (mayP l1) W (Kd.C_below hr1 hb) hc1 (mayP_f _ l1 (by omega) (by omega) (smallP_all q1)))
  have HMAY2 := Aside0.mk (fun (W : World) (hb : Below w.heap.size w W) => pair_May.calls (l2.length + 6) A2 c2 l2 (mayP l2) W (Kd.C_below hr2 hb) hc2 (mayP_f _ l2 (by omega) (by omega) (smallP_all q2)))
  have HOF0 := Aside0.mk (fun (W : World) (hb : Below w.heap.size w W) => of_calls A0 c0 l0 W (Kd.C_below hr0 hb) (by unfold maxLen; omega) (smallP_all q0))
  have HOF1 := Aside0.mk (fun (W : World) (hb : Below w.heap.size w W) => of_calls A1 c1 l1 W (Kd.C_below hr1 hb) (by unfold maxLen; omega) (smallP_all q1))
  have HOF2 := Aside0.mk (fun (W : World) (hb : Below w.heap.size w W) => of_calls A2 c2 l2 W (Kd.C_below hr2 hb) (by unfold maxLen; omega) (smallP_all q2))
  have HCAT := Aside0.mk (fun (W : World) (vb : Nat) (hv : W.heap[vb]? = some (.cells #[.slice A1 l1.length c1, .slice A2 l2.length c2] 24 (0, 0))) (hb : Below w.heap.size w W) => concat_calls A1 c1 l1 A2 c2 l2 vb W hv (Kd.C_below hr1 hb) (Kd.C_below hr2 hb) (by omega))
  have HS1 := Aside0.mk (smallP_all q1)
  have HS2 := Aside0.mk (smallP_all q2)
  have hu := Tryz.underlying43
  have hum := Tryz.underlying104
  have hmm := @run_makeMap Tryz.prog
  clear hr0 hr1 hr2 q0 q1 q2
  go_enter Tryz.func63, Tryz.ntmps63
  go_wp2_with fail
  refine (HMAY0.out _ (Below.refl _ _)).mono ?_
  rintro e w1 ⟨rfl, hb1⟩
  have HB1 := Aside0.mk hb1
  clear hb1 HMAY0
  cases hm0 : mayP l0 with
  | false =>
    have HI := Aside0.mk (show mergeP l0 l1 l2 = [] by simp [mergeP, hm0])
    clear hm0
    go_wp2
    go_ret
    exact ⟨_, rfl, by rw [HI.out]; exact Kd.R_nil _ _ _ _ _, HB1.out⟩
  | true =>
    go_wp2_with fail
    refine (HMAY1.out _ HB1.out).mono ?_
    rintro e w2 ⟨rfl, hb2⟩
    have HB2 := Aside0.mk (below_step HB1.out hb2)
    clear hb2 HMAY1 HB1
    cases hm1 : mayP l1 with
    | false =>
      have HI := Aside0.mk (show mergeP l0 l1 l2 = [] by simp [mergeP, hm1])
      clear hm0 hm1
      go_wp2
      go_ret
      exact ⟨_, rfl, by rw [HI.out]; exact Kd.R_nil _ _ _ _ _, HB2.out⟩
    | true =>
      go_wp2_with fail
      refine (HMAY2.out _ HB2.out).mono ?_
      rintro e w3 ⟨rfl, hb3⟩
      have HB3 := Aside0.mk (below_step HB2.out hb3)
      clear hb3 HMAY2 HB2
      cases hm2 : mayP l2 with
      | false =>
        have HI := Aside0.mk (show mergeP l0 l1 l2 = [] by simp [mergeP, hm2])
        clear hm0 hm1 hm2
        go_wp2
        go_ret
        exact ⟨_, rfl, by rw [HI.out]; exact Kd.R_nil _ _ _ _ _, HB3.out⟩
      | true =>
        have HI := Aside0.mk (show mergeP l0 l1 l2 = setP ((l1 ++ l2).filter (mcond l0 l1 l2)) by simp [mergeP, hm0, hm1, hm2])
        clear hm0 hm1 hm2
        go_wp2_with fail
        refine (HOF0.out _ HB3.out).mono ?_
        rintro e w4 ⟨g0, rfl, hg0, ho0, hb4⟩
        have HB4 := Aside0.mk (below_step HB3.out hb4)
        clear hb4 HOF0
        go_wp2_with fail
        refine (HOF1.out _ HB4.out).mono ?_
        rintro e w5 ⟨g1, rfl, hg1, ho1, hb5⟩
        have HB5 := Aside0.mk (below_step HB4.out hb5)
        replace ho0 := mapQ_below ho0 hb5
        clear hb5 HOF1
        go_wp2_with fail
        refine (HOF2.out _ HB5.out).mono ?_
        rintro e w6 ⟨g2, rfl, hg2, ho2, hb6⟩
        have HB6 := Aside0.mk (below_step HB5.out hb6)
        replace ho0 := mapQ_below ho0 hb6
        replace ho1 := mapQ_below ho1 hb6
        have hl0 := ho0.lt
        have hl1 := ho1.lt
        have hl2 := ho2.lt
        have HO0 := Aside0.mk ho0
        have HO1 := Aside0.mk ho1
        have HO2 := Aside0.mk ho2
        have hw6 := HB6.out.size
        clear hb6 HOF2 ho0 ho1 ho2 HB3 HB4 HB5
        go_wp2_with fail
        have hv7 : ((w6.alloc (.map #[] 0)).alloc (.cells #[.slice A1 l1.length c1, .slice A2 l2.length c2] 24)).heap[w6.heap.size + 1]? = some (.cells #[.slice A1 l1.length c1, .slice A2 l2.length c2] 24 (0, 0)) := by
          have := blk_new (w6.alloc (.map #[] 0)) (.cells #[.slice A1 l1.length c1, .slice A2 l2.length c2] 24)
          simpa using this
        have hb67 : Below w6.heap.size w6 ((w6.alloc (.map #[] 0)).alloc (.cells #[.slice A1 l1.length c1, .slice A2 l2.length c2] 24)) := below_alloc (below_alloc (Below.refl _ _) _) _
        refine (HCAT.out _ _ hv7 (below_step HB6.out hb67)).mono ?_
        rintro e w7 ⟨A, c, rfl, ho7, hb7⟩
        have hom0 : OwnsQ ((w6.alloc (.map #[] 0)).alloc (.cells #[.slice A1 l1.length c1, .slice A2 l2.length c2] 24)) w6.heap.size 0 [] := (World.ownsMap_made w6 Tryz.prog 43 (plainElem (H := Unit) Tryz.prog 3)).alloc _
        have hom := mapQ_below hom0 hb7
        have hb8 := below_step hb67 hb7
        have hbw := below_step HB6.out hb8
        obtain ⟨ab, hab⟩ : ∃ ab, ab = l1 ++ l2 := ⟨_, rfl⟩
        rw [← hab] at ho7 HI ⊢
        have HST := Aside0.mk (show MSt w w7 g0 g1 g2 w6.heap.size l0.length l1.length l2.length 0 l0 l1 l2 ((ab.take 0).filter (mcond l0 l1 l2)) ab A c from ⟨mapQ_below HO0.out hb8, mapQ_below HO1.out hb8, mapQ_below HO2.out hb8, hom, own_lower2 ho7 (below_step HB6.out hb67).size, hbw⟩)
        have HOK := Aside0.mk (show ∀ x ∈ ab, okPair x by
          intro x hx
          rw [hab] at hx
          rcases List.mem_append.1 hx with h | h
          · exact HS1.out x h
          · exact HS2.out x h)
        have hablen : ab.length = l1.length + l2.length := by rw [hab, List.length_append]
        have hab48 : ab.length * 64 ≤ 140737488355328 := by omega
        clear hab ho7 hb7 hom hom0 hb8 hbw hb67 hv7 HO0 HO1 HO2 HB6 HCAT HS1 HS2 hg0 hg1 hg2 hmm
        go_wp2
        go_loopw [38] (fun i wr => ∃ k : Nat, k ≤ ab.length ∧ i = .int .i64 k ∧ Aside0 (MSt w wr g0 g1 g2 w6.heap.size l0.length l1.length l2.length k l0 l1 l2 ((ab.take k).filter (mcond l0 l1 l2)) ab A c)) (fun i _ => ab.length - (intOf i).toNat)
        case atStart => exact ⟨0, Nat.zero_le _, rfl, HST⟩
        case round =>
          clear HST
          obtain ⟨k, hk, rfl, HS0⟩ := hrel
          by_cases hlt : k < ab.length
          · have hC := (C_ofown rfl HS0.out.row).1
            obtain ⟨ad, e, hx0, hx1, hx2, hx3⟩ := at_T43 hC (k : Nat) (by omega) (by omega)
            have HXK := Aside0.mk (rdP_at ab k hlt)
            have hkx : okPair (rd_T43 ab (k : Nat)) := by rw [HXK.out]; exact HOK.out _ (List.getElem_mem _)
            cases e
            simp only [Int.toNat_natCast] at hx0 hx1 hx2 hx3
            have hkm : k < maxLen := by unfold maxLen; omega
            generalize rd_T43 ab (k : Nat) = x at hx0 hx1 hx2 hx3 HXK hkx
            have HST_wa := Aside0.mk (HS0.out.below (below_alloc (Below.refl _ _) (.cells #[.string x.f0, .string x.f1, .int .i64 x.f2.f0, .int .i64 x.f2.f1] 43)))
            have HX_wa := Aside0.mk (blk_new wr (.cells #[.string x.f0, .string x.f1, .int .i64 x.f2.f0, .int .i64 x.f2.f1] 43))
            clear hC HS0
            have HCw8 := Aside0.mk (has_calls g1 l1.length (ofQ l1) (wr.alloc (.cells #[.string x.f0, .string x.f1, .int .i64 x.f2.f0, .int .i64 x.f2.f1] 43)) HST_wa.out.m1 x hkx)
            go_wp2_with fail
            refine HCw8.out.mono ?_
            rintro e w8 ⟨rfl, hb⟩
            have HST_w8 := Aside0.mk (HST_wa.out.below hb)
            have HX_w8 := Aside0.mk (blk_below HX_wa.out hb)
            have b0 : w8.cell? ⟨wr.heap.size, 0, none⟩ = some (.string x.f0) := blk_cell HX_w8.out 0
            have b1 : w8.cell? ⟨wr.heap.size, 1, none⟩ = some (.string x.f1) := blk_cell HX_w8.out 1
            have b2 : w8.cell? ⟨wr.heap.size, 2, none⟩ = some (.int .i64 x.f2.f0) := blk_cell HX_w8.out 2
            have b3 : w8.cell? ⟨wr.heap.size, 3, none⟩ = some (.int .i64 x.f2.f1) := blk_cell HX_w8.out 3
            clear hb HCw8 HST_wa HX_wa
            cases h1 : decide (0 < getQ (ofQ l1) x) with
            | true =>
              have HCw9 := Aside0.mk (has_calls g2 l2.length (ofQ l2) w8 HST_w8.out.m2 x hkx)
              go_wp2_with fail
              refine HCw9.out.mono ?_
              rintro e w9 ⟨rfl, hb⟩
              have HST_w9 := Aside0.mk (HST_w8.out.below hb)
              have HX_w9 := Aside0.mk (blk_below HX_w8.out hb)
              have b0 : w9.cell? ⟨wr.heap.size, 0, none⟩ = some (.string x.f0) := blk_cell HX_w9.out 0
              have b1 : w9.cell? ⟨wr.heap.size, 1, none⟩ = some (.string x.f1) := blk_cell HX_w9.out 1
              have b2 : w9.cell? ⟨wr.heap.size, 2, none⟩ = some (.int .i64 x.f2.f0) := blk_cell HX_w9.out 2
              have b3 : w9.cell? ⟨wr.heap.size, 3, none⟩ = some (.int .i64 x.f2.f1) := blk_cell HX_w9.out 3
              clear hb HCw9 HST_w8 HX_w8
              cases h2 : decide (0 < getQ (ofQ l2) x) with
              | true =>
                have hq : mcond l0 l1 l2 x = true := by unfold mcond inP; simp [h1, h2]
                obtain ⟨st, v2, v3, cc, r1, r2, r3, r5, ho5, hg5⟩ := incQ_at HST_w9.out.mo.drew (ofQ_up _) hkm x hkx
                rw [← ofQ_snoc] at ho5
                have HST2 : Aside0 (MSt w v3 g0 g1 g2 w6.heap.size l0.length l1.length l2.length (k + 1) l0 l1 l2 ((ab.take (k + 1)).filter (mcond l0 l1 l2)) ab (some ad) c) := ⟨by
                  rw [filter_take_succ _ ab k hlt x HXK.out, if_pos hq]
                  exact (HST_w9.out.below (below_drew (Below.refl _ _))).grow ho5 hg5 (by omega) (by omega) (by omega) hw6⟩
                clear ho5 hg5 HST_w9 HX_w9 hq h1 h2
                go_wp2_with fail
                go_region
                all_goals
                  go_wp2
                  go_roundw
                  case rel => exact ⟨k + 1, by omega, by go_num, HST2⟩
                  case measure => simp [intOf]; omega
              | false =>
                have HCw10 := Aside0.mk (has_calls g0 l0.length (ofQ l0) w9 HST_w9.out.m0 x hkx)
                go_wp2_with fail
                refine HCw10.out.mono ?_
                rintro e w10 ⟨rfl, hb⟩
                have HST_w10 := Aside0.mk (HST_w9.out.below hb)
                have HX_w10 := Aside0.mk (blk_below HX_w9.out hb)
                have b0 : w10.cell? ⟨wr.heap.size, 0, none⟩ = some (.string x.f0) := blk_cell HX_w10.out 0
                have b1 : w10.cell? ⟨wr.heap.size, 1, none⟩ = some (.string x.f1) := blk_cell HX_w10.out 1
                have b2 : w10.cell? ⟨wr.heap.size, 2, none⟩ = some (.int .i64 x.f2.f0) := blk_cell HX_w10.out 2
                have b3 : w10.cell? ⟨wr.heap.size, 3, none⟩ = some (.int .i64 x.f2.f1) := blk_cell HX_w10.out 3
                clear hb HCw10 HST_w9 HX_w9
                cases h0 : decide (0 < getQ (ofQ l0) x) with
                | true =>
                  have hq : mcond l0 l1 l2 x = false := by unfold mcond inP; simp [h1, h2, h0]
                  have HST2 : Aside0 (MSt w w10 g0 g1 g2 w6.heap.size l0.length l1.length l2.length (k + 1) l0 l1 l2 ((ab.take (k + 1)).filter (mcond l0 l1 l2)) ab (some ad) c) := ⟨by
                    rw [filter_take_succ _ ab k hlt x HXK.out, if_neg (by simp [hq])]
                    exact HST_w10.out.more (Nat.le_succ k)⟩
                  clear HST_w10 HX_w10 hq h1 h2 h0
                  go_wp2
                  go_roundw
                  case rel => exact ⟨k + 1, by omega, by go_num, HST2⟩
                  case measure => simp [intOf]; omega
                | false =>
                  have hq : mcond l0 l1 l2 x = true := by unfold mcond inP; simp [h0]
                  obtain ⟨st, v2, v3, cc, r1, r2, r3, r5, ho5, hg5⟩ := incQ_at HST_w10.out.mo.drew (ofQ_up _) hkm x hkx
                  rw [← ofQ_snoc] at ho5
                  have HST2 : Aside0 (MSt w v3 g0 g1 g2 w6.heap.size l0.length l1.length l2.length (k + 1) l0 l1 l2 ((ab.take (k + 1)).filter (mcond l0 l1 l2)) ab (some ad) c) := ⟨by
                    rw [filter_take_succ _ ab k hlt x HXK.out, if_pos hq]
                    exact (HST_w10.out.below (below_drew (Below.refl _ _))).grow ho5 hg5 (by omega) (by omega) (by omega) hw6⟩
                  clear ho5 hg5 HST_w10 HX_w10 hq h0
                  go_wp2_with fail
                  go_region
                  all_goals
                    go_wp2
                    go_roundw
                    case rel => exact ⟨k + 1, by omega, by go_num, HST2⟩
                    case measure => simp [intOf]; omega
            | false =>
              have HCw9 := Aside0.mk (has_calls g0 l0.length (ofQ l0) w8 HST_w8.out.m0 x hkx)
              go_wp2_with fail
              refine HCw9.out.mono ?_
              rintro e w9 ⟨rfl, hb⟩
              have HST_w9 := Aside0.mk (HST_w8.out.below hb)
              have HX_w9 := Aside0.mk (blk_below HX_w8.out hb)
              have b0 : w9.cell? ⟨wr.heap.size, 0, none⟩ = some (.string x.f0) := blk_cell HX_w9.out 0
              have b1 : w9.cell? ⟨wr.heap.size, 1, none⟩ = some (.string x.f1) := blk_cell HX_w9.out 1
              have b2 : w9.cell? ⟨wr.heap.size, 2, none⟩ = some (.int .i64 x.f2.f0) := blk_cell HX_w9.out 2
              have b3 : w9.cell? ⟨wr.heap.size, 3, none⟩ = some (.int .i64 x.f2.f1) := blk_cell HX_w9.out 3
              clear hb HCw9 HST_w8 HX_w8
              cases h0 : decide (0 < getQ (ofQ l0) x) with
              | true =>
                have hq : mcond l0 l1 l2 x = false := by unfold mcond inP; simp [h1, h0]
                have HST2 : Aside0 (MSt w w9 g0 g1 g2 w6.heap.size l0.length l1.length l2.length (k + 1) l0 l1 l2 ((ab.take (k + 1)).filter (mcond l0 l1 l2)) ab (some ad) c) := ⟨by
                  rw [filter_take_succ _ ab k hlt x HXK.out, if_neg (by simp [hq])]
                  exact HST_w9.out.more (Nat.le_succ k)⟩
                clear HST_w9 HX_w9 hq h1 h0
                go_wp2
                go_roundw
                case rel => exact ⟨k + 1, by omega, by go_num, HST2⟩
                case measure => simp [intOf]; omega
              | false =>
                have hq : mcond l0 l1 l2 x = true := by unfold mcond inP; simp [h0]
                obtain ⟨st, v2, v3, cc, r1, r2, r3, r5, ho5, hg5⟩ := incQ_at HST_w9.out.mo.drew (ofQ_up _) hkm x hkx
                rw [← ofQ_snoc] at ho5
                have HST2 : Aside0 (MSt w v3 g0 g1 g2 w6.heap.size l0.length l1.length l2.length (k + 1) l0 l1 l2 ((ab.take (k + 1)).filter (mcond l0 l1 l2)) ab (some ad) c) := ⟨by
                  rw [filter_take_succ _ ab k hlt x HXK.out, if_pos hq]
                  exact (HST_w9.out.below (below_drew (Below.refl _ _))).grow ho5 hg5 (by omega) (by omega) (by omega) hw6⟩
                clear ho5 hg5 HST_w9 HX_w9 hq h0
                go_wp2_with fail
                go_region
                all_goals
                  go_wp2
                  go_roundw
                  case rel => exact ⟨k + 1, by omega, by go_num, HST2⟩
                  case measure => simp [intOf]; omega
          · have hF : (ab.take k).filter (mcond l0 l1 l2) = ab.filter (mcond l0 l1 l2) := by rw [List.take_of_length_le (by omega)]
            have hfl : (ofQ (ab.filter (mcond l0 l1 l2))).length * 64 ≤ 140737488355328 := Nat.le_trans (Nat.mul_le_mul_right 64 (Nat.le_trans (ofQ_len _) (List.length_filter_le _ _))) hab48
            have hmo := HS0.out.mo
            rw [hF] at hmo
            have HL := Aside0.mk (plist_calls w6.heap.size _ _ wr hmo (ofQ_up _) (fun q hq => HOK.out _ (List.mem_filter.1 (ofQ_keys _ q hq)).1) hfl)
            have HB := Aside0.mk HS0.out.bel
            clear HS0 hmo
            go_wp2_with fail
            refine HL.out.mono ?_
            rintro e w8 ⟨v, rfl, ho8, hb8⟩
            obtain ⟨A', c', rfl⟩ := own_slice ho8
            have HO8 := Aside0.mk (own_lower2 ho8 HB.out.size)
            have HB8 := Aside0.mk (below_step HB.out hb8)
            clear ho8 hb8 HL HB
            go_wp2
            go_ret
            exact ⟨_, rfl, by rw [HI.out]; exact R_pair (by unfold setP; rw [sortP_length, List.length_map]) HO8.out, HB8.out⟩
end Go.Proofs.YtmcddoolniaehaaGreat.S
end
section
namespace Go.Proofs.YtmcddoolniaehaaGreat.S
open Go.RowKit Go.Sort Go.Proofs.YtmcddoolniaehaaGreatW.PrintWords Go.Proofs.YtmcddoolniaehaaGreatW.PrintLast Go.Proofs.YtmcddoolniaehaaGreatW.PrintMore Go.Proofs.YtmcddoolniaehaaGreatW
set_option linter.unusedVariables false
set_option linter.unusedSimpArgs false
theorem enc_data (a : ByteArray) : encStr a.data.toList = .string a := by
  unfold encStr; simp
def keyIs (key : ByteArray) (x : Pr) : Bool := x.f0.toList == key.toList
def elemL (l : List Pr) (key : ByteArray) : List (List UInt8) := (l.filter (keyIs key)).map fun x => x.f1.data.toList
def elemsP (l : List Pr) (key : ByteArray) : List ByteArray := (Lib.compact (elemL l key)).map fun b => ⟨b.toArray⟩
def pair_Elems.f (l0 : List (S43)) (a1 : ByteArray) : Option (List ByteArray) :=
  if smallP l0 = true then some (elemsP l0 a1) else none
theorem own_short {w : World} {base n c m : Nat} {A : Option Addr} {e : TypeId} {xs : List Value} (h : w.ownsRow base e 1 (.slice A n c) n xs) (hm : m ≤ n) (hp : 0 < n) : w.ownsRow base e 1 (.slice A m c) m (xs.take m) := by
  obtain ⟨h1, h2⟩ := h
  rcases h2 with ⟨h2, _⟩ | ⟨g, cap, cur, h2, hg, hh, h3, h4, h5, h6⟩
  · injection h2 with _ h2; omega
  · cases h2
    refine ⟨by rw [List.length_take, h1]; omega, .inr ⟨g, c, cur, rfl, hg, hh, by omega, h4, h5, ?_⟩⟩
    rw [← h6, List.take_take]
    congr 1
    omega
theorem elemL_take (l : List Pr) (key : ByteArray) (k : Nat) (h : k < l.length) : elemL (l.take (k + 1)) key = elemL (l.take k) key ++ (if keyIs key (rd_T43 l (k : Nat)) = true then [(rd_T43 l (k : Nat)).f1.data.toList] else []) := by
  unfold elemL
  rw [List.take_succ_eq_append_getElem h, List.filter_append, List.map_append, rdP_at l k h]
  congr 1
  cases hq : keyIs key l[k] <;> simp [hq]
theorem elemL_len (l : List Pr) (key : ByteArray) : (elemL l key).length ≤ l.length := by
  unfold elemL
  rw [List.length_map]; exact List.length_filter_le _ _
theorem compact_len (zs : List (List UInt8)) : (Lib.compact zs).length ≤ zs.length := by
  unfold Lib.compact Lib.compactUpTo
  rw [List.length_map]
  exact Nat.le_trans (List.length_filter_le _ _) (by simp)
theorem compact_own (base : Nat) (A : Option Addr) (c : Nat) (zs : List (List UInt8)) (w : World) (ho : w.ownsRow base 9 1 (.slice A zs.length c) zs.length (zs.map encStr)) (hm : zs.length ≤ 9223372036854775807) :
    Calls Tryz.prog 72 #[.slice A zs.length c] w fun e w' => ∃ A' c', e = .returned (.slice A' (Lib.compact zs).length c') ∧ w'.ownsRow base 9 1 (.slice A' (Lib.compact zs).length c') (Lib.compact zs).length ((Lib.compact zs).map encStr) ∧ w.grownBy w' (Value.slice A zs.length c).ownBlock := by
  rcases Nat.eq_zero_or_pos zs.length with h0 | hpos
  · obtain rfl := List.eq_nil_of_length_eq_zero h0
    refine (Tryz.slices_Compact_string_empty A c w).mono ?_
    rintro e w' ⟨rfl, rfl⟩
    exact ⟨A, c, rfl, ho, World.grownBy.refl _ _⟩
  · rcases ho.2 with ⟨hnil, h0⟩ | ⟨g, cap, cur, he, hbase, hb, h1, h2, h3, h4⟩
    · injection hnil with _ hn _; omega
    · cases he
      have hH : Holds encStr w g 0 zs.toArray := holds_of_block hb (by simpa using h4)
      refine (Tryz.slices_Compact_string g 0 c zs w hH hm h1).mono ?_
      rintro e w' ⟨rfl, q, rfl⟩
      have hl := compact_len zs
      have hrow := ownsRow_sorted (ss := zs) (ts := Lib.compact zs ++ List.replicate (zs.length - (Lib.compact zs).length) []) (os := #[]) (n := q) (by simp; omega) hbase hb h1 h2 h3
      rw [grow_empty] at hrow
      have hg := grownBy_sorted (w := w) (g := g) (n := q) (os := #[]) (Lib.compact zs ++ List.replicate (zs.length - (Lib.compact zs).length) []).toArray
      rw [grow_empty] at hg
      refine ⟨_, _, rfl, ?_, hg⟩
      have := own_short hrow hl hpos
      rw [List.map_append, List.take_append_of_le_length (by simp), List.take_of_length_le (by simp)] at this
      exact this
theorem cell_one2 (w4 : World) (o : Obj) (a : ByteArray) : ∀ j u, ([encStr a.data.toList] : List Value)[j]? = some u → ((w4.alloc o).alloc (.cells #[.string a] 9)).cell? ((⟨w4.heap.size + 1, 0, none⟩ : Addr).add j) = some u := by
  have hb : ((w4.alloc o).alloc (.cells #[.string a] 9)).heap[w4.heap.size + 1]? = some (.cells #[.string a] 9 (0, 0)) := by
    have := blk_new (w4.alloc o) (.cells #[.string a] 9)
    simpa using this
  intro j u hj
  rw [add_plain, blk_cell hb j]
  match j, hj with
  | 0, hj => rw [enc_data] at hj; exact hj
  | j + 1, hj => simp at hj
theorem R_texts {w : World} {base : Nat} {A : Option Addr} {c : Nat} {zs : List (List UInt8)} (h : w.ownsRow base 9 1 (.slice A zs.length c) zs.length (zs.map encStr)) : Kd.R Kd.string 9 w base (fun _ => True) (.slice A zs.length c) (zs.map fun b => (⟨b.toArray⟩ : ByteArray)) := by
  have e : (zs.map fun b => (⟨b.toArray⟩ : ByteArray)).flatMap (fun a => [Value.string a]) = zs.map encStr := by
    rw [← List.map_eq_flatMap, List.map_map]
    rfl
  refine R_of_cells (d := Kd.string) (enc := fun a => [Value.string a]) (fun _ => rfl) (fun _ _ _ _ => rfl) ?_ (fun _ _ => trivial)
  rw [e, List.length_map]
  exact h
set_option maxHeartbeats 4000000 in
set_option maxRecDepth 100000 in
theorem pair_Elems.calls (A0 : Option Addr) (c0 : Nat) (l0 : List (S43)) (a1 : ByteArray) (r : List ByteArray) (w : World) (hr0 : Kd.C k43 w A0 l0.length l0) (hc0 : l0.length ≤ c0) (h : pair_Elems.f l0 a1 = some r) :
    Calls Tryz.prog 22 #[.slice A0 l0.length c0, .string a1] w fun e w' => ∃ v0_ : Value, e = .returned (v0_) ∧ Kd.R Kd.string 9 w' w.heap.size (fun _ => True) v0_ r ∧ Below w.heap.size w w' := by
  unfold pair_Elems.f at h
  split at h
  case isFalse => cases h
  case isTrue hh =>
  cases h
  have hlen := smallP_len hh
  obtain ⟨i0, hi, hz0, hz1, hz2⟩ := info_parts (show (Tryz.prog.info? 9).map (fun i => (i.zero, i.size, i.bytes)) = some (some (.string ⟨#[]⟩), 1, 16) by kernel_rfl)
  have HR := Aside0.mk hr0
  have hl63 := hr0.2.1
  have hu := Tryz.underlying43
  clear hr0 hh
  go_enter Tryz.func22, Tryz.ntmps22
  go_wp2
  go_loopw [5, 10] (fun v i wr => ∃ (k : Nat) (ss : List (List UInt8)), k ≤ l0.length ∧ i = .int .i64 k ∧ Aside0 (ss = elemL (l0.take k) a1) ∧ Aside0 (wr.ownsRow w.heap.size 9 1 v ss.length (ss.map encStr)) ∧ Aside0 (Below w.heap.size w wr)) (fun _ i _ => l0.length - (intOf i).toNat)
  case atStart => exact ⟨0, [], Nat.zero_le _, rfl, ⟨rfl⟩, ⟨own_nil _ _ _ _⟩, ⟨Below.refl _ _⟩⟩
  case round =>
    obtain ⟨k, ss, hk, rfl, hS, hO, HB⟩ := hrel
    obtain ⟨A, c, rfl⟩ := own_slice hO.out
    by_cases hlt : k < l0.length
    · obtain ⟨ad, e, hx0, hx1, hx2, hx3⟩ := at_T43 HR.out k (by omega) (by omega)
      cases e
      replace hx0 := (HB.out.cell (World.block_lt_of_cell? w _ hx0)).trans hx0
      replace hx1 := (HB.out.cell (World.block_lt_of_cell? w _ hx1)).trans hx1
      replace hx2 := (HB.out.cell (World.block_lt_of_cell? w _ hx2)).trans hx2
      replace hx3 := (HB.out.cell (World.block_lt_of_cell? w _ hx3)).trans hx3
      simp only [Int.toNat_natCast] at hx0 hx1 hx2 hx3
      have HT := Aside0.mk (elemL_take l0 a1 k hlt)
      generalize rd_T43 l0 (k : Nat) = x at hx0 hx1 hx2 hx3 HT
      have hsl : ss.length ≤ k := by
        have := elemL_len (l0.take k) a1
        rw [← hS.out, List.length_take] at this
        omega
      cases hq : (x.f0.toList == a1.toList) with
      | true =>
        have HS2 : Aside0 (ss ++ [x.f1.data.toList] = elemL (l0.take (k + 1)) a1) := ⟨by rw [HT.out, ← hS.out]; simp [keyIs, hq]⟩
        have hb16 : (ss.length + 1) * 16 ≤ 140737488355328 := by omega
        have hml : ss.length + 1 ≤ maxLen := by unfold maxLen; omega
        have hnw := Aside0.mk (cell_one2 wr (.cells #[.string x.f0, .string x.f1, .int .i64 x.f2.f0, .int .i64 x.f2.f1] 43) x.f1)
        have hwsz := HB.out.size
        clear HT hS
        go_wp2_with (first
          | (at_builtin; refine wpList_append_own _ rfl _ _ 50 rfl w.heap.size 9 i0 (.string ⟨#[]⟩) 1 16 Tryz.underlying50 hi hz0 hz1 hz2 rfl (by decide) _ _ _ rfl ((hO.out.alloc _).alloc _) ⟨wr.heap.size + 1, 0, none⟩ 1 1 [encStr x.f1.data.toList] rfl rfl hnw.out (by simp [Value.oneCell', encStr]) hml hb16 (by simp; omega) ?_; intro v' w3 hown' hg3 hnil3; go_frame))
        have HB3 := Aside0.mk ((below_alloc (below_alloc HB.out _) _).grown hg3 (by simp; omega) (own_base hO.out))
        have HO3 : Aside0 (w3.ownsRow w.heap.size 9 1 v' (ss ++ [x.f1.data.toList]).length ((ss ++ [x.f1.data.toList]).map encStr)) := ⟨by simpa using hown'⟩
        clear hown' hg3 hnil3 hO HB hnw
        go_roundw
        case rel => exact ⟨k + 1, _, by omega, by go_num, HS2, HO3, HB3⟩
        case measure => simp [intOf]; omega
      | false =>
        have HS2 : Aside0 (ss = elemL (l0.take (k + 1)) a1) := ⟨by rw [HT.out, ← hS.out]; simp [keyIs, hq]⟩
        have HO3 := Aside0.mk (hO.out.alloc (.cells #[.string x.f0, .string x.f1, .int .i64 x.f2.f0, .int .i64 x.f2.f1] 43))
        have HB3 := Aside0.mk (below_alloc HB.out (.cells #[.string x.f0, .string x.f1, .int .i64 x.f2.f0, .int .i64 x.f2.f1] 43))
        clear HT hS hO HB
        go_wp2
        go_roundw
        case rel => exact ⟨k + 1, ss, by omega, by go_num, HS2, HO3, HB3⟩
        case measure => simp [intOf]; omega
    · have hsl : ss.length ≤ l0.length := by
        have := elemL_len (l0.take k) a1
        rw [← hS.out, List.length_take] at this
        omega
      have HC := Aside0.mk (compact_own w.heap.size A c ss wr hO.out (by omega))
      have HE := Aside0.mk (show elemL l0 a1 = ss by rw [hS.out, List.take_of_length_le (by omega)])
      have HOB := Aside0.mk (own_base hO.out)
      clear hO hS
      go_wp2_with fail
      refine HC.out.mono ?_
      rintro e w3 ⟨A3, c3, rfl, ho3, hg3⟩
      have HB3 := Aside0.mk (HB.out.grown hg3 HB.out.size HOB.out)
      have HO3 := Aside0.mk ho3
      clear ho3 hg3
      go_wp2
      go_ret
      refine ⟨_, rfl, ?_, HB3.out⟩
      have e1 : elemsP l0 a1 = (Lib.compact ss).map fun b => ⟨b.toArray⟩ := by unfold elemsP; rw [HE.out]
      rw [e1]
      exact R_texts HO3.out
end Go.Proofs.YtmcddoolniaehaaGreat.S
end
section
namespace Go.Proofs.YtmcddoolniaehaaGreat.S
open Go.RowKit Go.Proofs.YtmcddoolniaehaaGreatW.PrintWords Go.Proofs.YtmcddoolniaehaaGreatW.PrintLast Go.Proofs.YtmcddoolniaehaaGreatW.PrintMore
attribute [local go_sem] max2_int min2_int max_two min_two max_three min_three max_four min_four   -- for this text's walks alone
set_option linter.unusedVariables false
set_option linter.unusedSimpArgs false

def law08_Few.l0 : Nat → List (S43) → Int → Option (Bool)
 | 0, _, _ => none
 | k + 1, x0, x3 => if x3 < (x0.length : Int) then (if 0 ≤ x3 then (if (((rd_T43 x0 x3).f0).size : Int) > 100 then (some false) else (if (((rd_T43 x0 x3).f1).size : Int) > 100 then (some false) else (law08_Few.l0 k x0 (wrap64 (x3 + 1))))) else (none)) else (some true)
def law08_Few.f (k : Nat) (l0 : List (S43)) : Option (Bool) := if (l0.length : Int) > 30 then (some false) else (law08_Few.l0 k l0 0)
theorem law08_Few.mono_l : ∀ k, (∀ y0 y1, LeO (law08_Few.l0 k y0 y1) (law08_Few.l0 (k + 1) y0 y1))
 | 0 => fun _ _ r h => by simp [law08_Few.l0] at h
 | k + 1 => by
  have ih0 := law08_Few.mono_l k
  ·intro y0 y1
   unfold law08_Few.l0
   repeat' first
   | (with_reducible exact ih0 _ _)
   | (with_reducible exact LeO.refl _)
   | (with_reducible exact LeO.none _)
   | (with_reducible refine LeO.ite ?_ ?_)
   | (with_reducible refine LeO.bind ?_ (fun _ => ?_))
   | exact ih0 _ _
   | exact LeO.none _
   | refine LeO.ite ?_ ?_
   | refine LeO.bind ?_ (fun _ => ?_)
theorem law08_Few.mono : ∀ a0 k, LeO (law08_Few.f k a0) (law08_Few.f (k + 1) a0) := by
 intro a0 k
 have ih0 := law08_Few.mono_l k
 unfold law08_Few.f
 repeat' first
   | (with_reducible exact ih0 _ _)
   | (with_reducible exact LeO.refl _)
   | (with_reducible exact LeO.none _)
   | (with_reducible refine LeO.ite ?_ ?_)
   | (with_reducible refine LeO.bind ?_ (fun _ => ?_))
   | exact ih0 _ _
   | exact LeO.none _
   | refine LeO.ite ?_ ?_
   | refine LeO.bind ?_ (fun _ => ?_)
set_option maxHeartbeats 8000000 in
set_option maxRecDepth 100000 in
theorem law08_Few.calls (k : Nat) (A0 : Option Addr) (c0 : Nat) (l0 : List (S43)) (r : Bool) (w : World) (hr0 : Kd.C k43 w A0 l0.length l0) (hc0 : l0.length ≤ c0) (h : law08_Few.f k l0 = some r) :
  Calls Tryz.prog 26 #[.slice A0 l0.length c0] w fun e w' => e = .returned (.bool r) ∧ Drawn0 w w' := by
 have HR0 := Aside0.mk hr0
 have HC0 := Aside0.mk hc0
 clear hr0 hc0
 have H : (if (l0.length : Int) > 30 then (some false) else (law08_Few.l0 k l0 0)) = some r := h
 clear h
 by_cases c2 : (l0.length : Int) > 30
 ·rw [if_pos c2] at H
  have c2b0 : decide (30 < (l0.length : Int)) = true := decide_eq_true c2
  have c2b1 : decide (30 < l0.length) = true := decide_eq_true (by omega)
  clear c2
  obtain rfl := Option.some.inj H
  go_enter Tryz.func26, Tryz.ntmps26
  go_wp2
  go_ret
  exact ⟨by first | rfl | (simp; done) | (simp [*]; done), by repeat (first | exact Drawn0.refl _ | apply Drawn0.step)⟩
 ·rw [if_neg c2] at H
  have c2b0 : decide (30 < (l0.length : Int)) = false := decide_eq_false c2
  have c2b1 : decide (30 < l0.length) = false := decide_eq_false (by omega)
  clear c2
  have H' := Aside0.mk H
  clear H
  go_enter Tryz.func26, Tryz.ntmps26
  go_wp2
  go_loopg [3] k (fun kq v3 w' => ∃ (x3_1 : Int), v3 = .int .i64 x3_1 ∧ Aside0 (law08_Few.l0 kq l0 x3_1 = some r) ∧ Aside0 (kq ≤ k) ∧ Drawn0 w w')
  case atStart => exact ⟨(0), (by first | rfl | (simp; done) | (simp [*]; done)), H', ⟨Nat.le_refl _⟩, by repeat (first | exact Drawn0.refl _ | apply Drawn0.step)⟩
  case round =>
   clear H'
   try clear c2
   try clear c2b0
   try clear c2b1
   try clear p2
   obtain ⟨x3_1, rfl, HA, HK1, ⟨m1, rfl⟩⟩ := hrel
   cases gk with
   | zero => exact absurd HA.out (by simp [law08_Few.l0])
   | succ k1 =>
    have H := HA.out
    clear HA
    simp only [law08_Few.l0] at H
    by_cases c3 : x3_1 < (l0.length : Int)
    ·rw [if_pos c3] at H
     have c3b0 : decide (x3_1 < (l0.length : Int)) = true := decide_eq_true c3
     clear c3
     by_cases c4 : 0 ≤ x3_1
     ·rw [if_pos c4] at H
      have c4b0 : decide (0 ≤ x3_1) = true := decide_eq_true c4
      clear c4
      by_cases c5 : (((rd_T43 l0 x3_1).f0).size : Int) > 100
      ·rw [if_pos c5] at H
       have c5b0 : decide (100 < (((rd_T43 l0 x3_1).f0).size : Int)) = true := decide_eq_true c5
       have c5b1 : decide (100 < ((rd_T43 l0 x3_1).f0).size) = true := decide_eq_true (by omega)
       clear c5
       obtain rfl := Option.some.inj H
       have p223 : 0 ≤ (x3_1 : Int) := of_decide_eq_true (by first | (with_reducible assumption) | assumption)
       have q223 : x3_1 < (l0.length : Int) := of_decide_eq_true (by first | (with_reducible assumption) | assumption)
       obtain ⟨ad223, e223, hx223_0, hx223_1, hx223_2, hx223_3⟩ := at_T43 HR0.out x3_1 p223 q223
       cases e223
       replace p223 := eq_true p223
       replace q223 := eq_true q223
       go_wp2
       go_ret
       exact ⟨by first | rfl | (simp; done) | (simp [*]; done), by repeat (first | exact Drawn0.refl _ | apply Drawn0.step)⟩
      ·rw [if_neg c5] at H
       have c5b0 : decide (100 < (((rd_T43 l0 x3_1).f0).size : Int)) = false := decide_eq_false c5
       have c5b1 : decide (100 < ((rd_T43 l0 x3_1).f0).size) = false := decide_eq_false (by omega)
       clear c5
       by_cases c6 : (((rd_T43 l0 x3_1).f1).size : Int) > 100
       ·rw [if_pos c6] at H
        have c6b0 : decide (100 < (((rd_T43 l0 x3_1).f1).size : Int)) = true := decide_eq_true c6
        have c6b1 : decide (100 < ((rd_T43 l0 x3_1).f1).size) = true := decide_eq_true (by omega)
        clear c6
        obtain rfl := Option.some.inj H
        have p223 : 0 ≤ (x3_1 : Int) := of_decide_eq_true (by first | (with_reducible assumption) | assumption)
        have q223 : x3_1 < (l0.length : Int) := of_decide_eq_true (by first | (with_reducible assumption) | assumption)
        obtain ⟨ad223, e223, hx223_0, hx223_1, hx223_2, hx223_3⟩ := at_T43 HR0.out x3_1 p223 q223
        cases e223
        replace p223 := eq_true p223
        replace q223 := eq_true q223
        have p224 : 0 ≤ (x3_1 : Int) := of_decide_eq_true (by first | (with_reducible assumption) | assumption)
        have q224 : x3_1 < (l0.length : Int) := of_decide_eq_true (by first | (with_reducible assumption) | assumption)
        obtain ⟨ad224, e224, hx224_0, hx224_1, hx224_2, hx224_3⟩ := at_T43 HR0.out x3_1 p224 q224
        obtain rfl : ad223 = ad224 := (by injection e224)
        replace p224 := eq_true p224
        replace q224 := eq_true q224
        go_wp2
        go_ret
        exact ⟨by first | rfl | (simp; done) | (simp [*]; done), by repeat (first | exact Drawn0.refl _ | apply Drawn0.step)⟩
       ·rw [if_neg c6] at H
        have c6b0 : decide (100 < (((rd_T43 l0 x3_1).f1).size : Int)) = false := decide_eq_false c6
        have c6b1 : decide (100 < ((rd_T43 l0 x3_1).f1).size) = false := decide_eq_false (by omega)
        clear c6
        have H' := Aside0.mk H
        clear H
        have p223 : 0 ≤ (x3_1 : Int) := of_decide_eq_true (by first | (with_reducible assumption) | assumption)
        have q223 : x3_1 < (l0.length : Int) := of_decide_eq_true (by first | (with_reducible assumption) | assumption)
        obtain ⟨ad223, e223, hx223_0, hx223_1, hx223_2, hx223_3⟩ := at_T43 HR0.out x3_1 p223 q223
        cases e223
        replace p223 := eq_true p223
        replace q223 := eq_true q223
        have p224 : 0 ≤ (x3_1 : Int) := of_decide_eq_true (by first | (with_reducible assumption) | assumption)
        have q224 : x3_1 < (l0.length : Int) := of_decide_eq_true (by first | (with_reducible assumption) | assumption)
        obtain ⟨ad224, e224, hx224_0, hx224_1, hx224_2, hx224_3⟩ := at_T43 HR0.out x3_1 p224 q224
        obtain rfl : ad223 = ad224 := (by injection e224)
        replace p224 := eq_true p224
        replace q224 := eq_true q224
        go_wp2
        go_roundg k1
        case measure => have := HK1.out; omega
        case rel => exact ⟨(wrap64 (x3_1 + 1)), (by first | rfl | (simp; done) | (simp [*]; done)), H', ⟨by have := HK1.out; omega⟩, by repeat (first | exact Drawn0.refl _ | apply Drawn0.step)⟩
     ·rw [if_neg c4] at H
      exact absurd H (by simp)
    ·rw [if_neg c3] at H
     have c3b0 : decide (x3_1 < (l0.length : Int)) = false := decide_eq_false c3
     clear c3
     obtain rfl := Option.some.inj H
     go_wp2
     go_ret
     exact ⟨by first | rfl | (simp; done) | (simp [*]; done), by repeat (first | exact Drawn0.refl _ | apply Drawn0.step)⟩

end Go.Proofs.YtmcddoolniaehaaGreat.S
end
section
namespace Go.Proofs.YtmcddoolniaehaaGreat.S
open Go.RowKit Go.Sort Go.Proofs.YtmcddoolniaehaaGreatW.PrintWords Go.Proofs.YtmcddoolniaehaaGreatW.PrintLast Go.Proofs.YtmcddoolniaehaaGreatW.PrintMore Go.Proofs.YtmcddoolniaehaaGreatW
set_option linter.unusedVariables false
set_option linter.unusedSimpArgs false
abbrev okL (l : List Pr) : Prop := ∀ x ∈ l, okPair x
theorem getQ_fold : ∀ (l : List Pr) (es : MapQ) (B : Nat), (∀ q, 0 ≤ getQ es q ∧ getQ es q ≤ B) → B + l.length < 4611686018427387904 → okL l → ∀ p, okPair p →
    (0 < getQ (l.foldl incQ es) p ↔ (0 < getQ es p ∨ p ∈ l))
  | [], es, B, _, _, _, p, _ => by simp
  | x :: l, es, B, hB, hl, ho, p, hp => by
    have h1 : ∀ q, 0 ≤ getQ (incQ es x) q ∧ getQ (incQ es x) q ≤ (B + 1 : Nat) := by
      intro q
      unfold incQ
      rw [getQ_set]
      have := hB x
      have := hB q
      simp at hl
      split
      · unfold wrap64; omega
      · omega
    have ih := getQ_fold l (incQ es x) (B + 1) h1 (by simp at hl; omega) (fun y hy => ho y (List.mem_cons_of_mem _ hy)) p hp
    show 0 < getQ (l.foldl incQ (incQ es x)) p ↔ _
    rw [ih, List.mem_cons]
    have hx := hB x
    have e : 0 < getQ (incQ es x) p ↔ (0 < getQ es p ∨ p = x) := by
      unfold incQ
      rw [getQ_set]
      by_cases hk : kbP p = kbP x
      · have := kbP_inj hp (ho x List.mem_cons_self) hk
        rw [if_pos hk]
        simp at hl
        constructor
        · intro _; exact .inr this
        · intro _; unfold wrap64; omega
      · rw [if_neg hk]
        constructor
        · exact .inl
        · rintro (h | h)
          · exact h
          · exact absurd (by rw [h]) hk
    rw [e]
    constructor
    · rintro ((h | h) | h)
      · exact .inl h
      · exact .inr (.inl h)
      · exact .inr (.inr h)
    · rintro (h | h | h)
      · exact .inl (.inl h)
      · exact .inl (.inr h)
      · exact .inr h
theorem inP_iff {l : List Pr} (ho : okL l) (hl : l.length < 1000000) {p : Pr} (hp : okPair p) : inP l p = true ↔ p ∈ l := by
  unfold inP
  rw [decide_eq_true_eq]
  have := getQ_fold l [] 0 (fun q => by simp [getQ]) (by omega) ho p hp
  rw [show ofQ l = l.foldl incQ [] from rfl, this]
  simp [getQ]
theorem keys_mem {l : List Pr} (ho : okL l) {p : Pr} : p ∈ (ofQ l).map Prod.fst ↔ p ∈ l := by
  constructor
  · intro h
    obtain ⟨q, hq, rfl⟩ := List.mem_map.1 h
    exact ofQ_keys l q hq
  · have hset : ∀ (es : MapQ) (k : Pr) (n : Int) (q : Pr), okPair k → okPair q → q ∈ es.map Prod.fst → q ∈ (setQ es k n).map Prod.fst := by
      intro es k n q hk hq
      induction es with
      | nil => simp
      | cons y l ih =>
        intro h
        unfold setQ
        rw [List.map_cons, List.mem_cons] at h
        split
        · rw [List.map_cons, List.mem_cons]
          rcases h with h | h
          · exact .inl h
          · exact .inr (ih h)
        · split
          · rename_i he
            rw [List.map_cons, List.mem_cons]
            rcases h with h | h
            · left
              rw [← h] at he
              exact kbP_inj hq hk he
            · exact .inr h
          · rw [List.map_cons, List.mem_cons, List.map_cons, List.mem_cons]
            rcases h with h | h
            · exact .inr (.inl h)
            · exact .inr (.inr h)
    have hself : ∀ (es : MapQ) (k : Pr) (n : Int), k ∈ (setQ es k n).map Prod.fst := by
      intro es k n
      induction es with
      | nil => simp [setQ]
      | cons y l ih =>
        unfold setQ
        split
        · rw [List.map_cons, List.mem_cons]; exact .inr ih
        · split <;> simp
    have hfold : ∀ (l : List Pr) (es : MapQ), okL l → okPair p → (p ∈ es.map Prod.fst ∨ p ∈ l) → p ∈ (l.foldl incQ es).map Prod.fst := by
      intro l
      induction l with
      | nil => intro es _ _ h; rcases h with h | h; exact h; cases h
      | cons x l ih =>
        intro es ho hp h
        refine ih (incQ es x) (fun y hy => ho y (List.mem_cons_of_mem _ hy)) hp ?_
        rcases h with h | h
        · exact .inl (hset es x _ p (ho x List.mem_cons_self) hp h)
        · rcases List.mem_cons.1 h with rfl | h
          · exact .inl (hself es _ _)
          · exact .inr h
    intro h
    exact hfold l [] ho (ho p h) (.inr h)
theorem setP_mem {l : List Pr} (ho : okL l) {p : Pr} : p ∈ setP l ↔ p ∈ l := by
  unfold setP sortP
  rw [List.mem_mergeSort, keys_mem ho]
theorem setP_ok {l : List Pr} (ho : okL l) : okL (setP l) := fun x hx => ho x ((setP_mem ho).1 hx)
theorem setP_nodup (l : List Pr) : (setP l).Nodup := (List.mergeSort_perm _ _).nodup_iff.2 (keysQ_nodup (ofQ_up l))
theorem setP_up (l : List Pr) : (setP l).Pairwise pLt := by
  have h1 := sortP_pair ((ofQ l).map Prod.fst)
  have h2 : (setP l).Pairwise (· ≠ ·) := setP_nodup l
  have h3 := List.pairwise_and_iff.2 ⟨h1, h2⟩
  refine List.Pairwise.imp ?_ h3
  intro a b hab
  rcases ltP_tri a b with h | h | h
  · exact h
  · exact absurd h hab.2
  · have : ltOf cmpP b a = true := h
    have h4 := hab.1
    rw [this] at h4
    cases h4
theorem up_ext : ∀ {l l' : List Pr}, l.Pairwise pLt → l'.Pairwise pLt → (∀ x, x ∈ l ↔ x ∈ l') → l = l'
  | [], [], _, _, _ => rfl
  | [], y :: l', _, _, h => by have := (h y).2 List.mem_cons_self; cases this
  | x :: l, [], _, _, h => by have := (h x).1 List.mem_cons_self; cases this
  | x :: l, y :: l', h1, h2, h => by
    rw [List.pairwise_cons] at h1 h2
    have hxy : x = y := by
      rcases List.mem_cons.1 ((h x).1 List.mem_cons_self) with e | hx
      · exact e
      · rcases List.mem_cons.1 ((h y).2 List.mem_cons_self) with e | hy
        · exact e.symm
        · have := ltP_trans (h2.1 x hx) (h1.1 y hy)
          rw [ltP_irrefl] at this; cases this
    subst hxy
    rw [up_ext h1.2 h2.2 (fun z => ?_)]
    have hz := h z
    rw [List.mem_cons, List.mem_cons] at hz
    constructor
    · intro hm
      rcases hz.1 (.inr hm) with e | hm'
      · subst e; have := h1.1 z hm; unfold pLt at this; rw [ltP_irrefl] at this; cases this
      · exact hm'
    · intro hm
      rcases hz.2 (.inr hm) with e | hm'
      · subst e; have := h2.1 z hm; unfold pLt at this; rw [ltP_irrefl] at this; cases this
      · exact hm'
theorem setP_of_up {l : List Pr} (ho : okL l) (hu : l.Pairwise pLt) : setP l = l := up_ext (setP_up l) hu (fun _ => setP_mem ho)
theorem setP_len (l : List Pr) : (setP l).length ≤ l.length := by
  unfold setP
  rw [sortP_length, List.length_map]; exact ofQ_len l
theorem may_upP {l : List Pr} (h : mayP l = true) : l.Pairwise pLt := ((mayP_iff l).1 h).2
theorem may_one {l : List Pr} (h : mayP l = true) : ∀ x ∈ l, oneP x = true := ((mayP_iff l).1 h).1
theorem may_of {l : List Pr} (h1 : ∀ x ∈ l, oneP x = true) (h2 : l.Pairwise pLt) : mayP l = true := (mayP_iff l).2 ⟨h1, h2⟩
theorem mergeP_mem {base a b : List Pr} (hb : okL base) (ha : okL a) (hc : okL b) (lb : base.length < 1000000) (la : a.length < 1000000) (lc : b.length < 1000000) (m0 : mayP base = true) (m1 : mayP a = true) (m2 : mayP b = true) {x : Pr} :
    x ∈ mergeP base a b ↔ (x ∈ a ∨ x ∈ b) ∧ ((x ∈ a ∧ x ∈ b) ∨ ¬ x ∈ base) := by
  unfold mergeP
  rw [m0, m1, m2]
  have hok : okL ((a ++ b).filter (mcond base a b)) := fun y hy => by
    rcases List.mem_append.1 (List.mem_filter.1 hy).1 with h | h
    · exact ha y h
    · exact hc y h
  rw [if_pos (by rfl), setP_mem hok, List.mem_filter, List.mem_append]
  constructor
  · rintro ⟨h, hq⟩
    refine ⟨h, ?_⟩
    have hx : okPair x := by rcases h with h | h; exact ha x h; exact hc x h
    unfold mcond at hq
    simp only [Bool.or_eq_true, Bool.and_eq_true, Bool.not_eq_true'] at hq
    rcases hq with ⟨q1, q2⟩ | q
    · exact .inl ⟨(inP_iff ha la hx).1 q1, (inP_iff hc lc hx).1 q2⟩
    · right
      intro hm
      rw [(inP_iff hb lb hx).2 hm] at q; cases q
  · rintro ⟨h, hq⟩
    refine ⟨h, ?_⟩
    have hx : okPair x := by rcases h with h | h; exact ha x h; exact hc x h
    unfold mcond
    simp only [Bool.or_eq_true, Bool.and_eq_true, Bool.not_eq_true']
    rcases hq with ⟨q1, q2⟩ | q
    · exact .inl ⟨(inP_iff ha la hx).2 q1, (inP_iff hc lc hx).2 q2⟩
    · right
      cases hi : inP base x with
      | false => rfl
      | true => exact absurd ((inP_iff hb lb hx).1 hi) q
theorem mergeP_up (base a b : List Pr) : (mergeP base a b).Pairwise pLt := by
  unfold mergeP
  split
  · exact setP_up _
  · exact List.Pairwise.nil
theorem mergeP_len (base a b : List Pr) : (mergeP base a b).length ≤ a.length + b.length := by
  unfold mergeP
  split
  · refine Nat.le_trans (setP_len _) (Nat.le_trans (List.length_filter_le _ _) ?_)
    rw [List.length_append]; exact Nat.le_refl _
  · simp
theorem mergeP_sub {base a b : List Pr} (ha : okL a) (hc : okL b) {x : Pr} (h : x ∈ mergeP base a b) : x ∈ a ∨ x ∈ b := by
  unfold mergeP at h
  split at h
  · have hok : okL ((a ++ b).filter (mcond base a b)) := fun y hy => by
      rcases List.mem_append.1 (List.mem_filter.1 hy).1 with h | h
      · exact ha y h
      · exact hc y h
    exact List.mem_append.1 (List.mem_filter.1 ((setP_mem hok).1 h)).1
  · cases h
theorem mergeP_ok {base a b : List Pr} (ha : okL a) (hc : okL b) : okL (mergeP base a b) := fun x hx => by
  rcases mergeP_sub ha hc hx with h | h
  · exact ha x h
  · exact hc x h
theorem mergeP_may {base a b : List Pr} (ha : okL a) (hc : okL b) (m1 : mayP a = true) (m2 : mayP b = true) : mayP (mergeP base a b) = true :=
  may_of (fun x hx => by
    rcases mergeP_sub ha hc hx with h | h
    · exact may_one m1 x h
    · exact may_one m2 x h) (mergeP_up _ _ _)
theorem addP_mem {l : List Pr} {p : Pr} (ho : okL l) (hp : okPair p) (m : mayP l = true) (m1 : mayP [p] = true) {x : Pr} : x ∈ addP l p ↔ x ∈ l ∨ x = p := by
  unfold addP
  rw [m, m1]
  have hok : okL (l ++ [p]) := fun y hy => by
    rcases List.mem_append.1 hy with h | h
    · exact ho y h
    · rw [List.mem_singleton.1 h]; exact hp
  rw [if_pos (by rfl), setP_mem hok, List.mem_append, List.mem_singleton]
theorem addP_up (l : List Pr) (p : Pr) : (addP l p).Pairwise pLt := by
  unfold addP
  split
  · exact setP_up _
  · exact List.Pairwise.nil
theorem addP_len (l : List Pr) (p : Pr) : (addP l p).length ≤ l.length + 1 := by
  unfold addP
  split
  · refine Nat.le_trans (setP_len _) ?_; simp
  · simp
theorem addP_ok {l : List Pr} {p : Pr} (ho : okL l) (hp : okPair p) : okL (addP l p) := by
  unfold addP
  split
  · refine setP_ok fun y hy => ?_
    rcases List.mem_append.1 hy with h | h
    · exact ho y h
    · rw [List.mem_singleton.1 h]; exact hp
  · intro x hx; cases hx
theorem addP_may {l : List Pr} {p : Pr} (ho : okL l) (hp : okPair p) (m : mayP l = true) (m1 : mayP [p] = true) : mayP (addP l p) = true :=
  may_of (fun x hx => by
    rcases (addP_mem ho hp m m1).1 hx with h | h
    · exact may_one m x h
    · rw [h]; exact may_one m1 p (List.mem_singleton.2 rfl)) (addP_up _ _)
theorem delP_mem {l : List Pr} {key elem : ByteArray} (m : mayP l = true) {x : Pr} : x ∈ delP l key elem ↔ x ∈ l ∧ goneB key elem x = false := by
  unfold delP keepP
  rw [m, if_pos rfl, List.mem_filter]
  simp
theorem delP_sub (l : List Pr) (key elem : ByteArray) : (delP l key elem).Sublist l := by
  unfold delP keepP
  split
  · exact List.filter_sublist
  · exact List.nil_sublist _
theorem delP_may {l : List Pr} {key elem : ByteArray} (m : mayP l = true) : mayP (delP l key elem) = true :=
  may_of (fun x hx => may_one m x ((delP_sub l key elem).subset hx)) ((may_upP m).sublist (delP_sub l key elem))
theorem delP_ok {l : List Pr} {key elem : ByteArray} (ho : okL l) : okL (delP l key elem) := fun x hx => ho x ((delP_sub l key elem).subset hx)
theorem delP_len (l : List Pr) (key elem : ByteArray) : (delP l key elem).length ≤ l.length := (delP_sub l key elem).length_le
def eqQ (x y : Pr) : Bool := (x.f0.toList == y.f0.toList) && ((x.f1.toList == y.f1.toList) && ((x.f2.f0 == y.f2.f0) && (x.f2.f1 == y.f2.f1)))
theorem eqQ_iff {x y : Pr} : eqQ x y = true ↔ x = y := by
  unfold eqQ
  simp only [Bool.and_eq_true, beq_iff_eq]
  constructor
  · rintro ⟨h1, h2, h3, h4⟩
    obtain ⟨a, b, c, d⟩ := x
    obtain ⟨a', b', c', d'⟩ := y
    simp only at h1 h2 h3 h4
    obtain rfl := toList_inj h1
    obtain rfl := toList_inj h2
    subst h3 h4
    rfl
  · rintro rfl; exact ⟨rfl, rfl, rfl, rfl⟩
instance : DecidableEq Pr := fun x y => decidable_of_iff (eqQ x y = true) eqQ_iff
theorem monoP_up {α : Type} {f : Nat → Option α} (hm : ∀ k, LeO (f k) (f (k + 1))) {n : Nat} {r : α} (h : f n = some r) : ∀ k, n ≤ k → f k = some r := by
  intro k hk
  obtain ⟨d, rfl⟩ := Nat.exists_eq_add_of_le hk
  clear hk
  induction d with
  | zero => exact h
  | succ d ih => exact hm _ _ ih
def fewP (l : List Pr) : Bool := decide (l.length ≤ 30) && l.all (fun x => decide (x.f0.size ≤ 100) && decide (x.f1.size ≤ 100))
theorem fewP_loop : ∀ (suf pre : List Pr) (k : Nat), suf.length < k → (pre ++ suf).length < 4611686018427387904 →
    law08_Few.l0 k (pre ++ suf) ((pre.length : Nat) : Int) = some (suf.all (fun x => decide (x.f0.size ≤ 100) && decide (x.f1.size ≤ 100)))
  | suf, pre, 0, hk, _ => by omega
  | [], pre, k + 1, _, _ => by
    simp only [law08_Few.l0]
    rw [if_neg (by simp)]
    rfl
  | x :: suf, pre, k + 1, hk, hl => by
    have hlt : ((pre.length : Nat) : Int) < (((pre ++ x :: suf).length : Nat) : Int) := by simp; omega
    have hpl : pre.length < 4611686018427387904 := by simp at hl; omega
    have ih := fewP_loop suf (pre ++ [x]) k (by simp at hk; omega) (by simpa using hl)
    rw [app_one, len_one] at ih
    simp only [law08_Few.l0]
    rw [if_pos hlt, if_pos (by omega), rdP_mid, wrapUp hpl, ih, List.all_cons]
    by_cases h1 : x.f0.size ≤ 100
    · rw [if_neg (by omega)]
      by_cases h2 : x.f1.size ≤ 100
      · rw [if_neg (by omega)]; simp [h1, h2]
      · rw [if_pos (by omega)]; simp [h1, h2]
    · rw [if_pos (by omega)]; simp [h1]
theorem fewP_f (k : Nat) (l : List Pr) (hk : 31 < k) : law08_Few.f k l = some (fewP l) := by
  unfold law08_Few.f fewP
  by_cases h : l.length ≤ 30
  · rw [if_neg (by omega)]
    have := fewP_loop l [] k (by omega) (by simp; omega)
    simp only [List.nil_append, List.length_nil] at this
    rw [show ((0 : Nat) : Int) = 0 from rfl] at this
    rw [this]; simp [h]
  · rw [if_pos (by omega)]; simp [h]
theorem fewP_len {l : List Pr} (h : fewP l = true) : l.length ≤ 30 := by
  unfold fewP at h; simp at h; exact h.1
theorem smallP_of {l : List Pr} (h : okL l) (hl : l.length ≤ 1000) : smallP l = true := by
  unfold smallP
  simp only [Bool.and_eq_true, decide_eq_true_eq, List.all_eq_true]
  exact ⟨by omega, fun x hx => okB_iff.2 (h x hx)⟩
theorem mayPk (k : Nat) (l : List Pr) (hk : l.length + 5 < k) (hl : l.length ≤ 1000) (ho : okL l) : pair_May.f k l = some (mayP l) := mayP_f k l hk (by omega) ho
theorem addP_f {l : List Pr} {p : Pr} (ho : okL l) (hp : okPair p) (hl : l.length ≤ 1000) : pair_Add.f l p.f0 p.f1 p.f2.f0 p.f2.f1 = some (addP l p) := by
  unfold pair_Add.f
  rw [if_pos ⟨smallP_of ho hl, okB_iff.2 hp⟩]
theorem delP_f {l : List Pr} {a b : ByteArray} (ho : okL l) (hl : l.length ≤ 1000) : pair_Del.f l a b = some (delP l a b) := by
  unfold pair_Del.f
  rw [if_pos (smallP_of ho hl)]
theorem elemsP_f {l : List Pr} {a : ByteArray} (ho : okL l) (hl : l.length ≤ 1000) : pair_Elems.f l a = some (elemsP l a) := by
  unfold pair_Elems.f
  rw [if_pos (smallP_of ho hl)]
theorem mergeP_f {a b c : List Pr} (h0 : okL a) (h1 : okL b) (h2 : okL c) (l0 : a.length ≤ 1000) (l1 : b.length ≤ 1000) (l2 : c.length ≤ 1000) : pair_Merge.f a b c = some (mergeP a b c) := by
  unfold pair_Merge.f
  rw [if_pos ⟨smallP_of h0 l0, smallP_of h1 l1, smallP_of h2 l2⟩]
end Go.Proofs.YtmcddoolniaehaaGreat.S
end
