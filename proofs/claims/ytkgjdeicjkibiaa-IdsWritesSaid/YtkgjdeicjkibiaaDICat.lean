/- slices.Grow and slices.Concat at ids, two of them; ids.Both. By hand. -/
import Derived.Test.YtkgjdeicjkibiaaDISet
import Derived.Maps.AppendAt
import Derived.Lib.AppendZeros
import Derived.Lib.AppendStr
import Derived.Deep.RegionLaw
namespace Go.Proofs.Ytkgjdeicjkibiaa.D
open Go.RowKit Go.Proofs.YtkgjdeicjkibiaaW.PrintWords Go.Proofs.YtkgjdeicjkibiaaW.PrintLast Go.Proofs.YtkgjdeicjkibiaaW.PrintMore Go.Proofs.YtkgjdeicjkibiaaW
set_option linter.unusedVariables false
set_option linter.unusedSimpArgs false
theorem append_nil_src (w : World) (ty : TypeId) {base n : Nat} {v : Value} {xs : List Value} (hown : w.ownsRow base 23 32 v n xs) (c : Nat) : (Builtin.append_ #[29, 29] ty #[v, .slice none 0 c]).run Try.prog w = .ok v w := by
  obtain ⟨i0, z0, hi, hz0, hz1, hz2, hz3⟩ := info_app
  rcases hown.2 with ⟨rfl, rfl⟩ | ⟨g, cap, cur, rfl, _, _, hnc, _⟩
  · simp [Builtin.append_, run_underlying Try.underlying29, sizeOf, typeInfo, hi, Builtin.lenOf, Builtin.firstCells]
  · simp [Builtin.append_, run_underlying Try.underlying29, sizeOf, typeInfo, hi, Builtin.lenOf, Builtin.firstCells, hnc, storeCells, Result.andThen]
theorem rowI_one (l : List Id) : ∀ u ∈ rowI l, u.oneCell' = true := by
  intro u hu
  obtain ⟨x, _, hx⟩ := List.mem_flatMap.1 hu
  exact cellsI_one x u hx
theorem rowI_get : ∀ (ps : List Id), (∀ x ∈ ps, okId x) → ∀ (m : Nat) (u : Value), (rowI ps)[m]? = some u → ∃ j i p, m = j * 32 + i ∧ ps[j]? = some p ∧ (cellsI p)[i]? = some u
  | [], _, m, u, h => by simp [rowI] at h
  | x :: ps, hok, m, u, h => by
    have hcl := cellsI_ok (hok x List.mem_cons_self)
    unfold rowI at h
    rw [List.flatMap_cons] at h
    rcases Nat.lt_or_ge m 32 with hm | hm
    · rw [List.getElem?_append_left (by rw [hcl]; exact hm)] at h
      exact ⟨0, m, x, by omega, rfl, h⟩
    · rw [List.getElem?_append_right (by rw [hcl]; exact hm), hcl] at h
      obtain ⟨j, i, p, h1, h2, h3⟩ := rowI_get ps (fun y hy => hok y (List.mem_cons_of_mem _ hy)) (m - 32) u h
      exact ⟨j + 1, i, p, by rw [Nat.add_mul]; omega, by simpa using h2, h3⟩
theorem C_newsI {w : World} {ad : Addr} {n : Nat} {xs : List Id} (h : Kd.C kI w (some ad) n xs) : ∀ j u, (rowI xs)[j]? = some u → w.cell? (ad.add j) = some u := by
  intro m u hm
  obtain ⟨j, i, p, h1, h2, h3⟩ := rowI_get xs (C_ok h) m u hm
  have hj := (List.getElem?_eq_some_iff.1 h2).1
  have hn : 0 < n := by rw [← h.1]; omega
  obtain ⟨ad', e, hc⟩ := h.2.2 hn
  cases e
  obtain ⟨c, hcl, ⟨rfl, _⟩, hcc⟩ := hc j p h2
  rw [h1]
  exact hcc i u h3
theorem app_ids (w : World) (ty : TypeId) {base : Nat} {v : Value} {l1 : List Id} (ho : w.ownsRow base 23 32 v l1.length (rowI l1)) (A : Option Addr) (c : Nat) (l2 : List Id) (hC : Kd.C kI w A l2.length l2) (hlim : (l1.length + l2.length) * 32 ≤ 140737488355328) (hbase : base ≤ w.heap.size) :
    ∃ v' w', (Builtin.append_ #[29, 29] ty #[v, .slice A l2.length c]).run Try.prog w = .ok v' w' ∧ w'.ownsRow base 23 32 v' (l1 ++ l2).length (rowI (l1 ++ l2)) ∧ w.grownBy w' v.ownBlock ∧ (∃ A' c', v' = .slice A' (l1 ++ l2).length c') := by
  rcases A with _ | a
  · have h0 : l2.length = 0 := by
      rcases Nat.eq_zero_or_pos l2.length with h | h
      · exact h
      · obtain ⟨ad, h', _⟩ := hC.2.2 h
        cases h'
    obtain rfl := List.eq_nil_of_length_eq_zero h0
    obtain ⟨A', c', rfl⟩ := own_slice ho
    exact ⟨_, w, append_nil_src w ty ho c, by rw [List.append_nil]; exact ho, World.grownBy.refl _ _, A', c', by rw [List.append_nil]⟩
  · obtain ⟨i0, z0, hi, hz0, hz1, hz2, hz3⟩ := info_app
    have hnews := C_newsI hC
    have hok2 := C_ok hC
    obtain ⟨v', w', hr, ho', hg, _, hat⟩ := run_append_own_at (P := Try.prog) (w := w) base 29 ty 23 i0 _ 32 32 Try.underlying29 hi hz0 hz1 hz2 hz3 (by omega) v l1.length (rowI l1) ho a l2.length c (rowI l2)
      (rowI_length hok2) hnews (rowI_one l2) (by unfold maxLen; omega) (by omega) hbase
    have ho2 : w'.ownsRow base 23 32 v' (l1 ++ l2).length (rowI (l1 ++ l2)) := by rw [List.length_append]; unfold rowI; rw [List.flatMap_append]; exact ho'
    obtain ⟨A', c', rfl⟩ := own_slice ho2
    exact ⟨_, w', hr, ho2, hg, A', c', rfl⟩
set_option maxHeartbeats 1000000 in
set_option maxRecDepth 100000 in
theorem grow_calls (n : Nat) (w : World) (hlim : n * 32 ≤ 140737488355328) :
    Calls Try.prog 43 #[.slice none 0 0, .int .i64 n] w fun e w' => ∃ A c, e = .returned (.slice A 0 c) ∧ w'.ownsRow w.heap.size 23 32 (.slice A 0 c) 0 (rowI []) ∧ Below w.heap.size w w' := by
  rcases Nat.eq_zero_or_pos n with rfl | hn
  · go_enter Try.func43, Try.ntmps43
    go_wp2
    go_ret
    exact ⟨none, 0, rfl, own_nil _ _ _ _, Below.refl _ _⟩
  · obtain ⟨i0, z0, hi, hz0, hz1, hz2, hz3⟩ := info_app
    have hr := fun ty => Lib.run_append_nil_zeros (P := Try.prog) w 29 3 ty 23 i0 _ .i64 .i64 Try.underlying29 Try.underlying3 hi hz0 n hn (by omega) (by omega) (by rw [hz2]; omega)
    have hG1 := grownCap_ge w n 0 23
    have hG2 := grownCap_le_maxLen w n 0 23 (by unfold maxLen; omega)
    generalize grownCap w n 0 23 = G at hr hG1 hG2
    generalize z0.cells = Z at hr hz3
    have HO : (w.drew.alloc (.cells (Builtin.zeroCells Z n ++ Builtin.zeroCells Z (G - n)) 23)).ownsRow w.heap.size 23 32 (.slice (some ⟨w.heap.size, 0, none⟩) 0 G) 0 (rowI []) := by
      refine ⟨rfl, .inr ⟨w.heap.size, G, _, rfl, Nat.le_refl _, blk_new w.drew _, Nat.zero_le _, hG2, ?_, by simp⟩⟩
      simp only [Array.size_append, Builtin.zeroCells, Array.size_map, Array.size_range, Value.cells]
      rw [hz3, ← Nat.add_mul, show n + (G - n) = G by omega]
      -- done
    have HA := Aside0.mk HO
    have hGm : G ≤ 9223372036854775807 := by unfold maxLen at hG2; omega
    have hnm : n ≤ 9223372036854775807 := by omega
    clear HO hi hz0 hz1 hz2 hG2
    go_enter Try.func43, Try.ntmps43
    go_wp2_with (at_builtin; refine Lib.wpList_append_run _ rfl _ _ _ _ rfl _ _ rfl rfl _ _ (hr _) ?_)
    go_ret
    exact ⟨_, _, rfl, HA.out, below_drew (below_alloc (Below.refl w.heap.size w) _)⟩
set_option maxHeartbeats 4000000 in
set_option maxRecDepth 100000 in
/-- slices.Concat of two -/
theorem concat_calls (A1 : Option Addr) (c1 : Nat) (l1 : List Id) (A2 : Option Addr) (c2 : Nat) (l2 : List Id) (vb : Nat) (w : World) (hv : w.heap[vb]? = some (.cells #[.slice A1 l1.length c1, .slice A2 l2.length c2] 29 (0, 0)))
    (h1 : Kd.C kI w A1 l1.length l1) (h2 : Kd.C kI w A2 l2.length l2) (hlim : (l1.length + l2.length) * 32 ≤ 140737488355328) :
    Calls Try.prog 35 #[.slice (some ⟨vb, 0, none⟩) 2 2] w fun e w' => ∃ A c, e = .returned (.slice A (l1 ++ l2).length c) ∧ w'.ownsRow w.heap.size 23 32 (.slice A (l1 ++ l2).length c) (l1 ++ l2).length (rowI (l1 ++ l2)) ∧ Below w.heap.size w w' := by
  have v0 : w.cell? ⟨vb, 0, none⟩ = some (.slice A1 l1.length c1) := blk_cell hv 0
  have v1 : w.cell? ⟨vb, 1, none⟩ = some (.slice A2 l2.length c2) := blk_cell hv 1
  have HV := Aside0.mk hv
  have H1 := Aside0.mk h1
  have H2 := Aside0.mk h2
  have hn1 : l1.length ≤ 9223372036854775807 := by omega
  have hn2 : l2.length ≤ 9223372036854775807 := by omega
  have hgr := grow_calls (l1.length + l2.length) w hlim
  rw [Int.natCast_add] at hgr
  have HG := Aside0.mk hgr
  clear hv h1 h2 hgr
  go_enter Try.func35, Try.ntmps35
  go_wp2
  go_loopw [3, 11] (fun s i wr => Aside0 (wr = w) ∧ ((i = .int .i64 0 ∧ s = .int .i64 0) ∨ (i = .int .i64 1 ∧ s = .int .i64 l1.length) ∨ (i = .int .i64 2 ∧ s = .int .i64 ((l1.length : Int) + (l2.length : Int))))) (fun _ i _ => 2 - (intOf i).toNat)
  case atStart => exact ⟨⟨rfl⟩, .inl ⟨rfl, rfl⟩⟩
  case round =>
    obtain ⟨⟨hwr⟩, hc⟩ := hrel
    have hwr2 := hwr.symm
    clear hwr
    subst hwr2
    rcases hc with ⟨rfl, rfl⟩ | ⟨rfl, rfl⟩ | ⟨rfl, rfl⟩
    · have hneg : ¬ ((l1.length : Int) < 0) := by omega
      go_wp2
      go_roundw
      case rel => exact ⟨⟨by first | trivial | rfl⟩, .inr (.inl ⟨rfl, rfl⟩)⟩
      case measure => simp [intOf]
    · have hneg : ¬ ((l1.length : Int) + (l2.length : Int) < 0) := by omega
      go_wp2
      go_roundw
      case rel => exact ⟨⟨by first | trivial | rfl⟩, .inr (.inr ⟨rfl, rfl⟩)⟩
      case measure => simp [intOf]
    · clear v0 v1
      go_wp2_with fail
      refine HG.out.mono ?_
      rintro e w1 ⟨A, c, rfl, ho1, hb1⟩
      have HO1 := Aside0.mk ho1
      have HB1 := Aside0.mk hb1
      clear ho1 hb1 HG
      go_wp2
      go_loopw [6, 27] (fun v i wr => ∃ l : List Id, Aside0 (wr.ownsRow w.heap.size 23 32 v l.length (rowI l)) ∧ Aside0 (Below w.heap.size w wr) ∧ ((i = .int .i64 0 ∧ Aside0 (l = [])) ∨ (i = .int .i64 1 ∧ Aside0 (l = l1)) ∨ (i = .int .i64 2 ∧ Aside0 (l = l1 ++ l2)))) (fun _ i _ => 2 - (intOf i).toNat)
      case atStart => exact ⟨[], HO1, HB1, .inl ⟨rfl, ⟨rfl⟩⟩⟩
      case round =>
        clear HO1 HB1
        obtain ⟨l, HO, HB, hc⟩ := hrel
        have hvs := blk_below HV.out HB.out
        have v0 : wr.cell? ⟨vb, 0, none⟩ = some (.slice A1 l1.length c1) := blk_cell hvs 0
        have v1 : wr.cell? ⟨vb, 1, none⟩ = some (.slice A2 l2.length c2) := blk_cell hvs 1
        clear hvs
        obtain ⟨A', c', rfl⟩ := own_slice HO.out
        rcases hc with ⟨rfl, ⟨rfl⟩⟩ | ⟨rfl, ⟨rfl⟩⟩ | ⟨rfl, ⟨rfl⟩⟩
        · obtain ⟨v', w', hr, ho', hg', A3, c3, rfl⟩ := app_ids wr 29 HO.out A1 c1 l1 (Kd.C_below H1.out HB.out) (by simp; omega) HB.out.size
          have HO3 := Aside0.mk ho'
          have HB3 := Aside0.mk (HB.out.grown hg' HB.out.size (own_base HO.out))
          clear ho' hg' HO HB
          go_wp2_with (at_builtin; refine Lib.wpList_append_run _ rfl _ _ _ _ rfl _ _ rfl rfl _ _ hr ?_)
          go_roundw
          case rel => exact ⟨l1, HO3, HB3, .inr (.inl ⟨rfl, ⟨rfl⟩⟩)⟩
          case measure => simp [intOf]
        · obtain ⟨v', w', hr, ho', hg', A3, c3, rfl⟩ := app_ids wr 29 HO.out A2 c2 l2 (Kd.C_below H2.out HB.out) hlim HB.out.size
          have HO3 := Aside0.mk ho'
          have HB3 := Aside0.mk (HB.out.grown hg' HB.out.size (own_base HO.out))
          clear ho' hg' HO HB
          go_wp2_with (at_builtin; refine Lib.wpList_append_run _ rfl _ _ _ _ rfl _ _ rfl rfl _ _ hr ?_)
          go_roundw
          case rel => exact ⟨_, ⟨by rw [← List.length_append]; exact HO3.out⟩, HB3, .inr (.inr ⟨rfl, ⟨rfl⟩⟩)⟩
          case measure => simp [intOf]
        · go_wp2
          go_ret
          exact ⟨_, _, rfl, HO.out, HB.out⟩
set_option maxHeartbeats 4000000 in
set_option maxRecDepth 100000 in
theorem both_aux (l : List Id) (A1 : Option Addr) (c1 : Nat) (l1 : List Id) (A2 : Option Addr) (c2 : Nat) (l2 : List Id) (w : World) (h1 : Kd.C kI w A1 l1.length l1) (h2 : Kd.C kI w A2 l2.length l2) (hlim : (l1.length + l2.length) * 64 ≤ 140737488355328) (hl : l1 ++ l2 = l) :
    Calls Try.prog 16 #[.slice A1 l1.length c1, .slice A2 l2.length c2] w (RetI w (sortI l)) := by
  have H1 := Aside0.mk h1
  have H2 := Aside0.mk h2
  have HK : Aside0 (∀ x ∈ l1 ++ l2, okId x) := ⟨fun x hx => (List.mem_append.1 hx).elim (C_ok h1 x) (C_ok h2 x)⟩
  clear h1 h2
  go_enter Try.func16, Try.ntmps16
  go_wp2_with fail
  have HC := Aside0.mk (concat_calls A1 c1 l1 A2 c2 l2 w.heap.size (w.alloc (.cells #[.slice A1 l1.length c1, .slice A2 l2.length c2] 29)) (blk_new w _) (Kd.C_alloc H1.out _) (Kd.C_alloc H2.out _) (by omega))
  have hll : (l1 ++ l2).length * 64 ≤ 140737488355328 := by rw [List.length_append]; exact hlim
  rw [hl] at HC HK hll
  refine HC.out.mono ?_
  clear HC H1 H2 hlim
  rintro e w1 ⟨A, c, rfl, ho1, hb1⟩
  have HS := Aside0.mk (sort_calls A c l w1 (own_C ho1 HK.out) hll)
  have HB := Aside0.mk (below_step (below_alloc (Below.refl w.heap.size w) _) hb1)
  clear ho1 hb1
  go_wp2_with (first
    | (go_at_call 15; refine HS.out.mono ?_; rintro e w2 ⟨A', c', rfl, hC, hb⟩; have HB2 := Aside0.mk (below_step HB.out hb)))
  go_ret
  exact ⟨A', c', rfl, hC, HB2.out⟩
theorem both_calls (A1 : Option Addr) (c1 : Nat) (l1 : List Id) (A2 : Option Addr) (c2 : Nat) (l2 : List Id) (w : World) (h1 : Kd.C kI w A1 l1.length l1) (h2 : Kd.C kI w A2 l2.length l2) (hlim : (l1.length + l2.length) * 64 ≤ 140737488355328) :
    Calls Try.prog 16 #[.slice A1 l1.length c1, .slice A2 l2.length c2] w (RetI w (bothI l1 l2)) := both_aux _ A1 c1 l1 A2 c2 l2 w h1 h2 hlim rfl
end Go.Proofs.Ytkgjdeicjkibiaa.D
