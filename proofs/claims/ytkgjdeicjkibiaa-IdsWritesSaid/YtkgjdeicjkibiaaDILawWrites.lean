/- IdsWrites: it answers true. By hand. -/
import Derived.Test.YtkgjdeicjkibiaaDIAwake
import Derived.Test.YtkgjdeicjkibiaaDIRRead
import Derived.Test.YtkgjdeicjkibiaaDIRHex
namespace Go.Proofs.Ytkgjdeicjkibiaa.D
open Go.RowKit Go.Maps Go.Proofs.YtkgjdeicjkibiaaW.PrintWords Go.Proofs.YtkgjdeicjkibiaaW.PrintLast Go.Proofs.YtkgjdeicjkibiaaW.PrintMore Go.Proofs.YtkgjdeicjkibiaaW
set_option linter.unusedVariables false
set_option linter.unusedSimpArgs false
set_option maxRecDepth 100000 in
theorem dig_digV {c : UInt8} (h : 0 ≤ digV c) : dig (digV c).toNat = c := by
  have : ∀ n : Fin 256, 0 ≤ digV (UInt8.ofNat n.val) → dig (digV (UInt8.ofNat n.val)).toNat = UInt8.ofNat n.val := by decide
  have e := this ⟨c.toNat, c.toNat_lt⟩
  simp only [UInt8.ofNat_toNat] at e
  exact e h
theorem digV_dig (m : Nat) (h : m < 16) : digV (dig m) = m := by
  have : ∀ n : Fin 16, digV (dig n.val) = n.val := by decide
  exact this ⟨m, h⟩
theorem getD_get {a : Id} {k : Nat} (h : k < a.length) : a.getD k 0 = a[k] := by simp [List.getD_eq_getElem?_getD, h]
theorem take_get {a b : Id} {k : Nat} (ha : k < a.length) (hb : k < b.length) (h : a.take (k + 1) = b.take (k + 1)) : a.take k = b.take k ∧ a[k] = b[k] := by
  rw [List.take_succ_eq_append_getElem ha, List.take_succ_eq_append_getElem hb] at h
  have h1 := List.append_inj' h rfl
  exact ⟨h1.1, by simpa using h1.2⟩
theorem zero_set {a : Id} {k : Nat} {z : UInt8} (h : ∀ j, k ≤ j → a.getD j 0 = 0) : ∀ j, k + 1 ≤ j → (a.set k z).getD j 0 = 0 := fun j hj => by
  have := h j (by omega)
  rw [List.getD_eq_getElem?_getD] at this ⊢
  rw [List.getElem?_set_ne (by omega)]
  exact this
theorem goR_hex : ∀ (n k : Nat) (s : List UInt8) (a g : Id), s.length = 2 * n → k + n = 32 → okId a → (∀ j, k ≤ j → a.getD j 0 = 0) → goR s (2 * k) a = some g → okId g ∧ g.take k = a.take k ∧ hexI (g.drop k) = s
  | 0, k, s, a, g, hs, hk, ha, hz, hg => by
    obtain rfl := List.eq_nil_of_length_eq_zero (by simpa using hs)
    unfold goR at hg
    cases hg
    exact ⟨ha, rfl, by rw [List.drop_of_length_le (by rw [ha]; omega)]; rfl⟩
  | n + 1, k, [], a, g, hs, _, _, _, _ => by simp at hs
  | n + 1, k, [_], a, g, hs, _, _, _, _ => by simp at hs; omega
  | n + 1, k, c1 :: c2 :: s, a, g, hs, hk, ha, hz, hg => by
    have hka : k < a.length := by rw [ha]; omega
    rw [goR_two c1 c2 s k a hka (hz k (Nat.le_refl _))] at hg
    by_cases hd : digV c1 < 0 ∨ digV c2 < 0
    · rw [if_pos hd] at hg; cases hg
    rw [if_neg hd] at hg
    have hd1 : 0 ≤ digV c1 := by omega
    have hd2 : 0 ≤ digV c2 := by omega
    obtain ⟨_, hx1⟩ := digV_lt hd1
    obtain ⟨_, hx2⟩ := digV_lt hd2
    generalize hz' : UInt8.ofNat (16 * (digV c1).toNat + (digV c2).toNat) = z at hg
    have hzn : z.toNat = 16 * (digV c1).toNat + (digV c2).toNat := by rw [← hz', UInt8.toNat_ofNat']; omega
    obtain ⟨h1, h2, h3⟩ := goR_hex n (k + 1) s (a.set k z) g (by simp at hs; omega) (by omega) (by unfold okId; rw [List.length_set]; exact ha) (zero_set hz) hg
    have hkg : k < g.length := by rw [h1]; omega
    obtain ⟨h4, h5⟩ := take_get hkg (by rw [List.length_set]; exact hka) h2
    rw [List.getElem_set_self] at h5
    refine ⟨h1, by rw [h4, List.take_set_of_le (Nat.le_refl _)], ?_⟩
    rw [List.drop_eq_getElem_cons hkg, h5]
    unfold hexI at h3 ⊢
    rw [List.flatMap_cons, h3]
    have e1 : z.toNat / 16 = (digV c1).toNat := by omega
    have e2 : z.toNat % 16 = (digV c2).toNat := by omega
    unfold hexB
    rw [e1, e2, dig_digV hd1, dig_digV hd2]
    rfl
theorem goR_of_hex {x : Id} (hx : okId x) : ∀ (n k : Nat) (a : Id), k + n = 32 → okId a → a.take k = x.take k → (∀ j, k ≤ j → a.getD j 0 = 0) → goR (hexI (x.drop k)) (2 * k) a = some x
  | 0, k, a, hk, ha, ht, _ => by
    rw [List.drop_of_length_le (by rw [hx]; omega)]
    rw [List.take_of_length_le (by rw [ha]; omega), List.take_of_length_le (by rw [hx]; omega)] at ht
    rw [ht]; rfl
  | n + 1, k, a, hk, ha, ht, hz => by
    have hkx : k < x.length := by rw [hx]; omega
    have hka : k < a.length := by rw [ha]; omega
    rw [List.drop_eq_getElem_cons hkx]
    unfold hexI
    rw [List.flatMap_cons]
    have hl := x[k].toNat_lt
    show goR (dig (x[k].toNat / 16) :: dig (x[k].toNat % 16) :: hexI (x.drop (k + 1))) (2 * k) a = some x
    have e1 := digV_dig (x[k].toNat / 16) (by omega)
    have e2 := digV_dig (x[k].toNat % 16) (by omega)
    rw [goR_two _ _ _ k a hka (hz k (Nat.le_refl _)), e1, e2, if_neg (by omega)]
    have e3 : UInt8.ofNat (16 * ((x[k].toNat / 16 : Nat) : Int).toNat + ((x[k].toNat % 16 : Nat) : Int).toNat) = x[k] := by
      apply UInt8.toNat.inj
      rw [UInt8.toNat_ofNat']
      omega
    rw [e3]
    refine goR_of_hex hx n (k + 1) (a.set k x[k]) (by omega) (by unfold okId; rw [List.length_set]; exact ha) ?_ (zero_set hz)
    rw [List.take_succ_eq_append_getElem (by rw [List.length_set]; exact hka), List.take_succ_eq_append_getElem hkx, List.take_set_of_le (Nat.le_refl _), ht, List.getElem_set_self]
theorem readI_hexI {x : Id} (hx : okId x) : readI (hexI x) = some x := by
  unfold readI
  rw [if_pos (by rw [hexI_length, hx])]
  have := goR_of_hex hx 32 0 zeroI (by omega) zeroI_ok (by simp) (fun j _ => zeroI_get j)
  rwa [List.drop_zero, Nat.mul_zero] at this
theorem readI_inv {s : List UInt8} {g : Id} (h : readI s = some g) : okId g ∧ hexI g = s := by
  unfold readI at h
  split at h
  · rename_i hl
    have := goR_hex 32 0 s zeroI g hl (by omega) zeroI_ok (fun j _ => zeroI_get j) (by rw [Nat.mul_zero]; exact h)
    exact ⟨this.1, by simpa using this.2.2⟩
  · cases h
theorem readI_ok {s : ByteArray} {g : Id} (h : readI s.data.toList = some g) : okId g := (readI_inv h).1
theorem readI_hex {s : ByteArray} {g : Id} (h : readI s.data.toList = some g) : (⟨(hexI g).toArray⟩ : ByteArray) = s := by
  rw [(readI_inv h).2]
set_option maxHeartbeats 8000000 in
set_option maxRecDepth 100000 in
theorem idsWrites_calls {x : Id} (hx : okId x) (s : ByteArray) (w : World) (hs : s.size ≤ maxLen) :
    Calls Try.prog 3 #[valI x, .string s] w fun e w' => e = .returned (.bool true) ∧ Below w.heap.size w w' := by
  have HX := Aside0.mk (blk_new w (.cells (arrI x) 23))
  have HB := Aside0.mk (below_alloc (Below.refl w.heap.size w) (.cells (arrI x) 23))
  by_cases h1 : (s.size : Int) ≤ 200
  rotate_left
  · have h1' : (200 : Int) < s.size := by omega
    go_enter Try.func3, Try.ntmps3
    go_wp2_with fail
    refine (awake_calls _).mono ?_
    rintro e V0 ⟨rfl, hb0⟩
    replace HB := Aside0.mk (below_step HB.out hb0)
    clear hb0
    go_wp2
    go_ret
    exact ⟨rfl, HB.out⟩
  have h1' : ¬ (200 : Int) < s.size := by omega
  have HHx : Aside0 (∀ V : World, Calls Try.prog 12 #[valI x] V fun e w' => e = .returned (.string ⟨(hexI x).toArray⟩) ∧ Below V.heap.size V w') := ⟨fun V => hex_calls hx V⟩
  have HHr : Aside0 (∀ V : World, Calls Try.prog 13 #[valI x] V fun e w' => e = .returned (.string ⟨(hexI x).toArray⟩) ∧ Below V.heap.size V w') := ⟨fun V => rhex_calls hx V⟩
  have HRx : Aside0 (∀ V : World, Calls Try.prog 10 #[.string ⟨(hexI x).toArray⟩] V fun e w' => e = .returned (.tuple #[valI x, .bool true]) ∧ Below V.heap.size V w') := ⟨fun V => by
    have h := read_calls ⟨(hexI x).toArray⟩ (by show (hexI x).toArray.size ≤ _; rw [List.size_toArray, hexI_length, hx]; omega) V
    simp only [readI_hexI hx] at h
    exact h⟩
  have heqx : ∀ V : World, (Op.equalIn 10000 23 (valI x) (valI x)).run Try.prog V = .ok true V := fun V => by
    have := eqIn_I hx hx V
    simpa using this
  cases hr : readI s.data.toList with
  | none =>
    have HRd : Aside0 (∀ V : World, Calls Try.prog 10 #[.string s] V fun e w' => e = .returned (.tuple #[valI zeroI, .bool false]) ∧ Below V.heap.size V w') := ⟨fun V => by
      have h := read_calls s (by omega) V
      rw [hr] at h
      exact h⟩
    have HRRd : Aside0 (∀ V : World, Calls Try.prog 11 #[.string s] V fun e w' => e = .returned (.tuple #[valI zeroI, .bool false]) ∧ Below V.heap.size V w') := ⟨fun V => by
      have h := rread_calls s V
      rw [hr] at h
      exact h⟩
    have heqa : ∀ V : World, (Op.equalIn 10000 23 (valI zeroI) (valI zeroI)).run Try.prog V = .ok true V := fun V => by
      have := eqIn_I zeroI_ok zeroI_ok V
      simpa using this
    clear hr
    generalize (⟨(hexI x).toArray⟩ : ByteArray) = S at HHx HHr HRx
    go_enter Try.func3, Try.ntmps3
    go_wp2_with fail
    refine (awake_calls _).mono ?_
    rintro e V0 ⟨rfl, hb0⟩
    replace HB := Aside0.mk (below_step HB.out hb0)
    replace HX := Aside0.mk (blk_below HX.out hb0)
    clear hb0
    go_wp2_with (first
      | (go_at_call 10; (with_reducible refine (HRd.out _).mono ?_); rintro e V1 ⟨rfl, hb1⟩; have HX := Aside0.mk (blk_below HX.out hb1); have HB := Aside0.mk (below_step HB.out hb1); clear hb1 HRd; go_frame)
      | (refine wpl_alloc (by rfl) (by rfl) ?_; go_frame)
      | (refine wpl_store_new V1 _ zeroI zeroI_ok (by rfl) (by rfl) (by rfl) _ _ (by rfl) (by rfl) (by rfl) ?_; intro W1 hb1 hB1 hs1; have HX := Aside0.mk (blk_below HX.out hB1); have HA := Aside0.mk hb1; have HB := Aside0.mk (below_step HB.out hB1); clear hb1 hB1 hs1; go_frame)
      | (go_at_call 11; (with_reducible refine (HRRd.out _).mono ?_); rintro e V2 ⟨rfl, hb2⟩; have HX := Aside0.mk (blk_below HX.out hb2); have HA := Aside0.mk (blk_below HA.out hb2); have HB := Aside0.mk (below_step HB.out hb2); clear hb2 HRRd; go_frame)
      | (refine wpl_store_new V2 _ zeroI zeroI_ok (by rfl) (by rfl) (by rfl) _ _ (by rfl) (by rfl) (by rfl) ?_; intro W2 hb2 hB2 hs2; have HX := Aside0.mk (blk_below HX.out hB2); have HA := Aside0.mk (blk_below HA.out hB2); have HC := Aside0.mk hb2; have HB := Aside0.mk (below_step HB.out hB2); clear hb2 hB2 hs2; go_frame)
      | (go_at_call 12; (with_reducible refine (HHx.out _).mono ?_); rintro e V3 ⟨rfl, hbk⟩; have HX := Aside0.mk (blk_below HX.out hbk); have HA := Aside0.mk (blk_below HA.out hbk); have HC := Aside0.mk (blk_below HC.out hbk); have HB := Aside0.mk (below_step HB.out hbk); clear hbk HHx; go_frame)
      | (go_at_call 10; (with_reducible refine (HRx.out _).mono ?_); rintro e V4 ⟨rfl, hbk⟩; have HX := Aside0.mk (blk_below HX.out hbk); have HA := Aside0.mk (blk_below HA.out hbk); have HC := Aside0.mk (blk_below HC.out hbk); have HB := Aside0.mk (below_step HB.out hbk); clear hbk HRx; go_frame)
      | (refine wpl_store_new V4 _ x hx (by rfl) (by rfl) (by rfl) _ _ (by rfl) (by rfl) (by rfl) ?_; intro W4 hb4 hbk hs4; have HX := Aside0.mk (blk_below HX.out hbk); have HA := Aside0.mk (blk_below HA.out hbk); have HC := Aside0.mk (blk_below HC.out hbk); have HY := Aside0.mk hb4; have HB := Aside0.mk (below_step HB.out hbk); clear hb4 hbk hs4; go_frame)
      | (go_at_call 13; (with_reducible refine (HHr.out _).mono ?_); rintro e V5 ⟨rfl, hbk⟩; have HX := Aside0.mk (blk_below HX.out hbk); have HA := Aside0.mk (blk_below HA.out hbk); have HC := Aside0.mk (blk_below HC.out hbk); have HY := Aside0.mk (blk_below HY.out hbk); have HB := Aside0.mk (below_step HB.out hbk); clear hbk HHr; go_frame)
      | ((try (refine gate_guard (by rfl) ?_; dsimp only)); refine wpl_load w.heap.size 0 x (range_of_blk (t := 23) HX.out) hx (by rfl) _ (by rfl) (by rfl) ?_; go_frame)
      | ((try (refine gate_guard (by rfl) ?_; dsimp only)); refine wpl_load V4.heap.size 0 x (range_of_blk (t := 23) HY.out) hx (by rfl) _ (by rfl) (by rfl) ?_; go_frame)
      | ((try (refine gate_guard (by rfl) ?_; dsimp only)); refine wpl_load V1.heap.size 0 zeroI (range_of_blk (t := 23) HA.out) zeroI_ok (by rfl) _ (by rfl) (by rfl) ?_; go_frame)
      | ((try (refine gate_guard (by rfl) ?_; dsimp only)); refine wpl_load V2.heap.size 0 zeroI (range_of_blk (t := 23) HC.out) zeroI_ok (by rfl) _ (by rfl) (by rfl) ?_; go_frame))
    go_ret
    exact ⟨rfl, HB.out⟩
  | some ai =>
    have HRd : Aside0 (∀ V : World, Calls Try.prog 10 #[.string s] V fun e w' => e = .returned (.tuple #[valI ai, .bool true]) ∧ Below V.heap.size V w') := ⟨fun V => by
      have h := read_calls s (by omega) V
      rw [hr] at h
      exact h⟩
    have HRRd : Aside0 (∀ V : World, Calls Try.prog 11 #[.string s] V fun e w' => e = .returned (.tuple #[valI ai, .bool true]) ∧ Below V.heap.size V w') := ⟨fun V => by
      have h := rread_calls s V
      rw [hr] at h
      exact h⟩
    have hai : okId ai := readI_ok hr
    have HHa : Aside0 (∀ V : World, Calls Try.prog 12 #[valI ai] V fun e w' => e = .returned (.string s) ∧ Below V.heap.size V w') := ⟨fun V => by
      have h := hex_calls hai V
      rw [readI_hex hr] at h
      exact h⟩
    have heqa : ∀ V : World, (Op.equalIn 10000 23 (valI ai) (valI ai)).run Try.prog V = .ok true V := fun V => by
      have := eqIn_I hai hai V
      simpa using this
    clear hr
    generalize (⟨(hexI x).toArray⟩ : ByteArray) = S at HHx HHr HRx
    go_enter Try.func3, Try.ntmps3
    go_wp2_with fail
    refine (awake_calls _).mono ?_
    rintro e V0 ⟨rfl, hb0⟩
    replace HB := Aside0.mk (below_step HB.out hb0)
    replace HX := Aside0.mk (blk_below HX.out hb0)
    clear hb0
    go_wp2_with (first
      | (go_at_call 10; (with_reducible refine (HRd.out _).mono ?_); rintro e V1 ⟨rfl, hb1⟩; have HX := Aside0.mk (blk_below HX.out hb1); have HB := Aside0.mk (below_step HB.out hb1); clear hb1 HRd; go_frame)
      | (refine wpl_alloc (by rfl) (by rfl) ?_; go_frame)
      | (refine wpl_store_new V1 _ ai hai (by rfl) (by rfl) (by rfl) _ _ (by rfl) (by rfl) (by rfl) ?_; intro W1 hb1 hB1 hs1; have HX := Aside0.mk (blk_below HX.out hB1); have HA := Aside0.mk hb1; have HB := Aside0.mk (below_step HB.out hB1); clear hb1 hB1 hs1; go_frame)
      | (go_at_call 11; (with_reducible refine (HRRd.out _).mono ?_); rintro e V2 ⟨rfl, hb2⟩; have HX := Aside0.mk (blk_below HX.out hb2); have HA := Aside0.mk (blk_below HA.out hb2); have HB := Aside0.mk (below_step HB.out hb2); clear hb2 HRRd; go_frame)
      | (refine wpl_store_new V2 _ ai hai (by rfl) (by rfl) (by rfl) _ _ (by rfl) (by rfl) (by rfl) ?_; intro W2 hb2 hB2 hs2; have HX := Aside0.mk (blk_below HX.out hB2); have HA := Aside0.mk (blk_below HA.out hB2); have HC := Aside0.mk hb2; have HB := Aside0.mk (below_step HB.out hB2); clear hb2 hB2 hs2; go_frame)
      | (go_at_call 12; (with_reducible refine (HHx.out _).mono ?_); rintro e V3 ⟨rfl, hbk⟩; have HX := Aside0.mk (blk_below HX.out hbk); have HA := Aside0.mk (blk_below HA.out hbk); have HC := Aside0.mk (blk_below HC.out hbk); have HB := Aside0.mk (below_step HB.out hbk); clear hbk HHx; go_frame)
      | (go_at_call 10; (with_reducible refine (HRx.out _).mono ?_); rintro e V4 ⟨rfl, hbk⟩; have HX := Aside0.mk (blk_below HX.out hbk); have HA := Aside0.mk (blk_below HA.out hbk); have HC := Aside0.mk (blk_below HC.out hbk); have HB := Aside0.mk (below_step HB.out hbk); clear hbk HRx; go_frame)
      | (refine wpl_store_new V4 _ x hx (by rfl) (by rfl) (by rfl) _ _ (by rfl) (by rfl) (by rfl) ?_; intro W4 hb4 hbk hs4; have HX := Aside0.mk (blk_below HX.out hbk); have HA := Aside0.mk (blk_below HA.out hbk); have HC := Aside0.mk (blk_below HC.out hbk); have HY := Aside0.mk hb4; have HB := Aside0.mk (below_step HB.out hbk); clear hb4 hbk hs4; go_frame)
      | (go_at_call 13; (with_reducible refine (HHr.out _).mono ?_); rintro e V5 ⟨rfl, hbk⟩; have HX := Aside0.mk (blk_below HX.out hbk); have HA := Aside0.mk (blk_below HA.out hbk); have HC := Aside0.mk (blk_below HC.out hbk); have HY := Aside0.mk (blk_below HY.out hbk); have HB := Aside0.mk (below_step HB.out hbk); clear hbk HHr; go_frame)
      | (go_at_call 12; (with_reducible refine (HHa.out _).mono ?_); rintro e V6 ⟨rfl, hbk⟩; have HX := Aside0.mk (blk_below HX.out hbk); have HA := Aside0.mk (blk_below HA.out hbk); have HC := Aside0.mk (blk_below HC.out hbk); have HY := Aside0.mk (blk_below HY.out hbk); have HB := Aside0.mk (below_step HB.out hbk); clear hbk HHa; go_frame)
      | ((try (refine gate_guard (by rfl) ?_; dsimp only)); refine wpl_load w.heap.size 0 x (range_of_blk (t := 23) HX.out) hx (by rfl) _ (by rfl) (by rfl) ?_; go_frame)
      | ((try (refine gate_guard (by rfl) ?_; dsimp only)); refine wpl_load V4.heap.size 0 x (range_of_blk (t := 23) HY.out) hx (by rfl) _ (by rfl) (by rfl) ?_; go_frame)
      | ((try (refine gate_guard (by rfl) ?_; dsimp only)); refine wpl_load V1.heap.size 0 ai (range_of_blk (t := 23) HA.out) hai (by rfl) _ (by rfl) (by rfl) ?_; go_frame)
      | ((try (refine gate_guard (by rfl) ?_; dsimp only)); refine wpl_load V2.heap.size 0 ai (range_of_blk (t := 23) HC.out) hai (by rfl) _ (by rfl) (by rfl) ?_; go_frame))
    go_ret
    exact ⟨rfl, HB.out⟩
end Go.Proofs.Ytkgjdeicjkibiaa.D
