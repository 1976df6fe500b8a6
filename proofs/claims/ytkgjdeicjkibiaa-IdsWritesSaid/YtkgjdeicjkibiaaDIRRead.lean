/- ref04.Read. By hand. -/
import Derived.Test.YtkgjdeicjkibiaaDIRDigit
namespace Go.Proofs.Ytkgjdeicjkibiaa.D
open Go.RowKit Go.Proofs.YtkgjdeicjkibiaaW.PrintWords Go.Proofs.YtkgjdeicjkibiaaW.PrintLast Go.Proofs.YtkgjdeicjkibiaaW.PrintMore Go.Proofs.YtkgjdeicjkibiaaW
set_option linter.unusedVariables false
set_option linter.unusedSimpArgs false
theorem results_rread {V : World} {b : Nat} {i : Id} {t : Bool} (hb : V.heap[b]? = some (.cells (arrI i) 23 (0, 0))) (hi : okId i) (tmps : Array Value) (h2 : tmps.getD 2 undef = .pointer (some ⟨b, 0, none⟩)) (h3 : tmps.getD 3 undef = .bool t) :
    (results Try.f11 tmps).run Try.prog V = .ok (.tuple #[valI i, .bool t]) V := by
  have hl : (loadVar 23 ⟨b, 0, none⟩).run Try.prog V = .ok (valI i) V := run_loadVar_mid V b 0 23 (cellsI i) _ (range_of_blk hb) Try.underlying23 rfl (info_I hi)
  have hf : (Try.f11).results = #[.cell 2 23, .tmp 3] := rfl
  unfold results
  rw [hf]
  simp only [h3, h2, asAddr, Sem.run_bind, Sem.run_pure, Result.andThen_ok, hl, Array.mapM_eq_mapM_toList, List.mapM_cons, List.mapM_nil]
  simp [hl, Result.andThen]
theorem zeroI_get (j : Nat) : zeroI.getD j 0 = 0 := by
  unfold zeroI
  rw [List.getD_eq_getElem?_getD, List.getElem?_replicate]
  split <;> rfl
theorem drop_two (l : List UInt8) (k : Nat) (h : k + 1 < l.length) : l.drop k = l[k] :: l[k + 1] :: l.drop (k + 2) := by
  rw [List.drop_eq_getElem_cons (by omega : k < l.length), List.drop_eq_getElem_cons h]
theorem goR_two (c1 c2 : UInt8) (s : List UInt8) (k : Nat) (a : Id) (hk : k < a.length) (h0 : a.getD k 0 = 0) :
    goR (c1 :: c2 :: s) (2 * k) a = if digV c1 < 0 ∨ digV c2 < 0 then none else goR s (2 * (k + 1)) (a.set k (UInt8.ofNat (16 * (digV c1).toNat + (digV c2).toNat))) := by
  rw [goR]
  by_cases h1 : digV c1 < 0
  · simp [h1]
  rw [if_neg h1, goR]
  by_cases h2 : digV c2 < 0
  · simp [h2]
  rw [if_neg h2, if_neg (by simp [h1, h2])]
  obtain ⟨_, hd⟩ := digV_lt (c := c1) (by omega)
  have e1 : 2 * k / 2 = k := by omega
  have e2 : (2 * k + 1) / 2 = k := by omega
  unfold stepR
  rw [e1, e2, h0]
  have e3 : (a.set k (UInt8.ofNat ((0 : UInt8).toNat * 16 + (digV c1).toNat))).getD k 0 = UInt8.ofNat (digV c1).toNat := by
    simp [List.getD_eq_getElem?_getD, hk]
  rw [e3, List.set_set]
  have e4 : (UInt8.ofNat (digV c1).toNat).toNat = (digV c1).toNat := by
    rw [UInt8.toNat_ofNat']; omega
  rw [e4, show (digV c1).toNat * 16 + (digV c2).toNat = 16 * (digV c1).toNat + (digV c2).toNat by omega, show 2 * k + 1 + 1 = 2 * (k + 1) by omega]
set_option maxHeartbeats 4000000 in
set_option maxRecDepth 100000 in
theorem rread_calls (s : ByteArray) (w : World) :
    Calls Try.prog 11 #[.string s] w fun e w' => e = .returned (.tuple #[valI ((readI s.data.toList).getD zeroI), .bool (readI s.data.toList).isSome]) ∧ Below w.heap.size w w' := by
  by_cases hl : s.size = 64
  · have hr : readI s.data.toList = goR s.data.toList 0 zeroI := by unfold readI; rw [if_pos (by simpa using hl)]
    rw [hr]
    generalize hg0 : goR s.data.toList 0 zeroI = g0
    have HG0 := Aside0.mk hg0
    have HL := Aside0.mk hl
    have hs0 : ¬ ((64 : Int) < s.size) := by omega
    clear hg0 hr
    go_enter Try.func11, Try.ntmps11
    go_wp2_with (first
      | (refine wpl_alloc (by rfl) (by rfl) ?_; go_frame)
      | (refine wpl_build0 (by rfl) (by rfl) ?_; go_frame)
      | (refine wpl_store_new (w.alloc (.cells (arrI zeroI) 23)) _ zeroI zeroI_ok (by rfl) (by rfl) (by rfl) _ _ (by rfl) (by rfl) (by rfl) ?_; intro W1 hb1 hB1 hs1; go_frame))
    have HA1 := Aside0.mk (show W1.heap[w.heap.size + 1]? = some (.cells (arrI zeroI) 23 (0, 0)) by simpa using hb1)
    have HR1 := Aside0.mk (show W1.heap[w.heap.size]? = some (.cells (arrI zeroI) 23 (0, 0)) from (blk_below (blk_new w (.cells (arrI zeroI) 23)) hB1))
    have HB1 := Aside0.mk (below_step (below_alloc (Below.refl w.heap.size w) (.cells (arrI zeroI) 23)) hB1)
    clear hb1 hB1 hs1
    go_loopw [5] (fun i wr => ∃ (k : Nat) (a : Id), k ≤ 32 ∧ i = .int .i64 k ∧ okId a ∧ Aside0 (∀ j, k ≤ j → a.getD j 0 = 0) ∧ Aside0 (wr.heap[w.heap.size + 1]? = some (.cells (arrI a) 23 (0, 0))) ∧ Aside0 (wr.heap[w.heap.size]? = some (.cells (arrI zeroI) 23 (0, 0))) ∧ Aside0 (goR (s.data.toList.drop (2 * k)) (2 * k) a = g0) ∧ Aside0 (Below w.heap.size w wr)) (fun i _ => 32 - (intOf i).toNat)
    case atStart => exact ⟨0, zeroI, by omega, rfl, zeroI_ok, ⟨fun j _ => zeroI_get j⟩, HA1, HR1, HG0, HB1⟩
    case round =>
      clear HA1 HR1 HB1 HG0
      obtain ⟨k, ai, hk, rfl, hai, hZ, hA, hR, hG, hB⟩ := hrel
      by_cases hlt : k < 32
      · have hk0 : (0 : Int) ≤ (k : Int) := Int.natCast_nonneg _
        have hk1 : (k : Int) < 32 := by omega
        have hk2 : 2 * (k : Int) < (s.size : Int) := by omega
        have hk3 : 2 * (k : Int) + 1 < (s.size : Int) := by omega
        have hk4 : wrap64 (2 * (k : Int)) = 2 * (k : Int) := by unfold wrap64; omega
        have hk5 : wrap64 (2 * (k : Int) + 1) = 2 * (k : Int) + 1 := by unfold wrap64; omega
        have hk6 : (2 * (k : Int)).toNat = 2 * k := by omega
        have hk7 : (2 * (k : Int) + 1).toNat = 2 * k + 1 := by omega
        have hks : 2 * k < s.size := by omega
        have hks1 : 2 * k + 1 < s.size := by omega
        have hGk := hG.out
        rw [drop_two s.data.toList (2 * k) (by simpa using hks1), goR_two _ _ _ k ai (by rw [hai]; exact hlt) (hZ.out k (Nat.le_refl _))] at hGk
        have ec1 : s.data.toList[2 * k]'(by simpa using hks) = s[2 * k]'hks := rfl
        have ec2 : s.data.toList[2 * k + 1]'(by simpa using hks1) = s[2 * k + 1]'hks1 := rfl
        rw [ec1, ec2] at hGk
        have HGK := Aside0.mk hGk
        clear hGk ec1 ec2 hG
        have HV1 := fun (h : ¬ digV (s[2 * k]'hks) < 0) => (digV_lt (c := s[2 * k]'hks) (by omega)).2
        have HV2 := fun (h : ¬ digV (s[2 * k + 1]'hks1) < 0) => (digV_lt (c := s[2 * k + 1]'hks1) (by omega)).2
        have HD1 := Aside0.mk (fun V => digit_calls (s[2 * k]'hks) V)
        have HD2 := Aside0.mk (fun V => digit_calls (s[2 * k + 1]'hks1) V)
        generalize digV (s[2 * k]'hks) = d1 at *
        generalize digV (s[2 * k + 1]'hks1) = d2 at *
        by_cases hd : d1 < 0 ∨ d2 < 0
        · have hg0 := HGK.out
          rw [if_pos hd] at hg0
          subst hg0
          clear HGK HV1 HV2
          by_cases hd1 : d1 < 0
          · clear hd
            go_wp2_with (first
              | (go_at_call 30; (with_reducible refine (HD1.out _).mono ?_); rintro e w' ⟨rfl, hw⟩; subst hw; go_frame)
              | (go_at_call 30; (with_reducible refine (HD2.out _).mono ?_); rintro e w' ⟨rfl, hw⟩; subst hw; go_frame)
              | (refine wpl_build0 (by rfl) (by rfl) ?_; go_frame)
              | (refine wpl_store_blk w.heap.size _ zeroI hR.out (by simp [arrI, cellsI_ok zeroI_ok]) zeroI_ok (by rfl) _ _ (by rfl) (by rfl) (by rfl) ?_; intro W2 hb2 hB2 hf2 hs2; have HB2 := Aside0.mk (hB2 w (Nat.le_refl _) hB.out); clear hB2; go_frame))
            exact bodyPost_ret (results_rread hb2 zeroI_ok _ rfl rfl) rfl ⟨rfl, HB2.out⟩
          · have hd2 : d2 < 0 := by omega
            clear hd
            go_wp2_with (first
              | (go_at_call 30; (with_reducible refine (HD1.out _).mono ?_); rintro e w' ⟨rfl, hw⟩; subst hw; go_frame)
              | (go_at_call 30; (with_reducible refine (HD2.out _).mono ?_); rintro e w' ⟨rfl, hw⟩; subst hw; go_frame)
              | (refine wpl_build0 (by rfl) (by rfl) ?_; go_frame)
              | (refine wpl_store_blk w.heap.size _ zeroI hR.out (by simp [arrI, cellsI_ok zeroI_ok]) zeroI_ok (by rfl) _ _ (by rfl) (by rfl) (by rfl) ?_; intro W2 hb2 hB2 hf2 hs2; have HB2 := Aside0.mk (hB2 w (Nat.le_refl _) hB.out); clear hB2; go_frame))
            exact bodyPost_ret (results_rread hb2 zeroI_ok _ rfl rfl) rfl ⟨rfl, HB2.out⟩
        · have hg0 := HGK.out
          rw [if_neg hd] at hg0
          have HG1 := Aside0.mk hg0
          clear hg0 HGK
          have hd1 : ¬ d1 < 0 := fun q => hd (.inl q)
          have hd2 : ¬ d2 < 0 := fun q => hd (.inr q)
          have hx1 := HV1 hd1
          have hx2 := HV2 hd2
          have hw1 : wrap64 (16 * d1) = 16 * d1 := by unfold wrap64; omega
          have hw2 : wrap64 (16 * d1 + d2) = 16 * d1 + d2 := by unfold wrap64; omega
          obtain ⟨z, hz⟩ : ∃ z, z = UInt8.ofNat (16 * d1.toNat + d2.toNat) := ⟨_, rfl⟩
          rw [← hz] at HG1
          have HW3 : Aside0 (16 * d1 + d2 = (z.toNat : Int)) := ⟨by
            rw [hz, UInt8.toNat_ofNat']
            omega⟩
          have hcell : ∃ v, wr.cell? ⟨w.heap.size + 1, k, none⟩ = some v := by
            rw [blk_cell hA.out k]
            exact ⟨_, Array.getElem?_eq_getElem (by simp [arrI, cellsI_ok hai]; exact hlt)⟩
          obtain ⟨v0, hc27⟩ := hcell
          have hf27 := blk_frozen hA.out k
          clear hd hz HV1 HV2
          go_wp2_with (first
            | (go_at_call 30; (with_reducible refine (HD1.out _).mono ?_); rintro e w' ⟨rfl, hw⟩; subst hw; go_frame)
            | (go_at_call 30; (with_reducible refine (HD2.out _).mono ?_); rintro e w' ⟨rfl, hw⟩; subst hw; go_frame))
          have HA2 : Aside0 ((w'.setCell ⟨w.heap.size + 1, k, none⟩ (.int .u8 (16 * d1 + d2))).heap[w.heap.size + 1]? = some (.cells (arrI (ai.set k z)) 23 (0, 0))) := ⟨by rw [HW3.out, ← arr_set]; exact blk_set hA.out _ _⟩
          have HR2 : Aside0 ((w'.setCell ⟨w.heap.size + 1, k, none⟩ (.int .u8 (16 * d1 + d2))).heap[w.heap.size]? = some (.cells (arrI zeroI) 23 (0, 0))) := ⟨by
            rw [Below.heap_setCell w' ⟨w.heap.size + 1, k, none⟩ _ w.heap.size (by simp)]
            exact hR.out⟩
          have HB2 : Aside0 (Below w.heap.size w (w'.setCell ⟨w.heap.size + 1, k, none⟩ (.int .u8 (16 * d1 + d2)))) := ⟨below_set hB.out (Nat.le_succ _)⟩
          have HZ2 : Aside0 (∀ j, k + 1 ≤ j → (ai.set k z).getD j 0 = 0) := ⟨fun j hj => by
            have := hZ.out j (by omega)
            rw [List.getD_eq_getElem?_getD] at this ⊢
            rw [List.getElem?_set_ne (by omega)]
            exact this⟩
          clear hc27 hf27 hA hR hB hZ
          go_roundw
          case rel => exact ⟨k + 1, ai.set k z, by omega, by go_num, by unfold okId; rw [List.length_set]; exact hai, HZ2, HA2, HR2, HG1, HB2⟩
          case measure => simp [intOf]; omega
      · have hk32 : k = 32 := by omega
        have HGe : Aside0 (g0 = some ai) := ⟨by
          have hge : goR (s.data.toList.drop (2 * k)) (2 * k) ai = some ai := by rw [List.drop_of_length_le (by simp; omega)]; rfl
          rw [← hG.out, hge]⟩
        have hgg := HGe.out
        subst hgg
        clear hG HGe
        go_wp2_with (first
          | (refine wpl_load (w.heap.size + 1) 0 ai (range_of_blk (t := 23) hA.out) hai (by rfl) _ (by rfl) (by rfl) ?_; go_frame)
          | (refine wpl_store_blk w.heap.size _ ai hR.out (by simp [arrI, cellsI_ok zeroI_ok]) hai (by rfl) _ _ (by rfl) (by rfl) (by rfl) ?_; intro W2 hb2 hB2 hf2 hs2; have HB2 := Aside0.mk (hB2 w (Nat.le_refl _) hB.out); clear hB2; go_frame))
        exact bodyPost_ret (results_rread hb2 hai _ rfl rfl) rfl ⟨rfl, HB2.out⟩
  · have hr : readI s.data.toList = none := by unfold readI; rw [if_neg (by simpa using hl)]
    rw [hr]
    have hl2 : ¬ (s.size : Int) = 64 := by omega
    have HA0 := Aside0.mk (blk_new w (.cells (arrI zeroI) 23))
    have HB0 := Aside0.mk (below_alloc (Below.refl w.heap.size w) (.cells (arrI zeroI) 23))
    go_enter Try.func11, Try.ntmps11
    go_wp2_with (first
      | (refine wpl_alloc (by rfl) (by rfl) ?_; go_frame)
      | (refine wpl_build0 (by rfl) (by rfl) ?_; go_frame)
      | (refine wpl_store_new (w.alloc (.cells (arrI zeroI) 23)) _ zeroI zeroI_ok (by rfl) (by rfl) (by rfl) _ _ (by rfl) (by rfl) (by rfl) ?_; intro W1 hb1 hB1 hs1; have HR1 := Aside0.mk (blk_below HA0.out hB1); have HB1 := Aside0.mk (below_step HB0.out hB1); have HA1 := Aside0.mk hb1; clear hb1 hB1 hs1; go_frame)
      | (refine wpl_load _ 0 zeroI (range_of_blk (t := 23) HA1.out) zeroI_ok (by rfl) _ (by rfl) (by rfl) ?_; go_frame)
      | (refine wpl_store_blk w.heap.size _ zeroI HR1.out (by rfl) zeroI_ok (by rfl) _ _ (by rfl) (by rfl) (by rfl) ?_; intro W2 hb2 hB2 hf2 hs2; have HB2 := Aside0.mk (hB2 w (Nat.le_refl _) HB1.out); clear hB2; go_frame))
    exact bodyPost_ret (results_rread hb2 zeroI_ok _ rfl rfl) rfl ⟨rfl, HB2.out⟩
end Go.Proofs.Ytkgjdeicjkibiaa.D
