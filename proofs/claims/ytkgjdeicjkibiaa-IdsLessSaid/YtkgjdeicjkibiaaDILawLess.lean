/- IdsLess: it answers true, whatever the three ids. By hand. -/
import Derived.Test.YtkgjdeicjkibiaaDIAwake
namespace Go.Proofs.Ytkgjdeicjkibiaa.D
open Go.RowKit Go.Maps Go.Proofs.YtkgjdeicjkibiaaW.PrintWords Go.Proofs.YtkgjdeicjkibiaaW.PrintLast Go.Proofs.YtkgjdeicjkibiaaW.PrintMore Go.Proofs.YtkgjdeicjkibiaaW
set_option linter.unusedVariables false
set_option linter.unusedSimpArgs false
theorem dig_lt {m n : Nat} (hm : m < 16) (hn : n < 16) : (decide (dig m < dig n)) = decide (m < n) := by
  have : ∀ a b : Fin 16, decide (dig a.val < dig b.val) = decide (a.val < b.val) := by decide +kernel
  exact this ⟨m, hm⟩ ⟨n, hn⟩
theorem dig_eq {m n : Nat} (hm : m < 16) (hn : n < 16) : (dig m == dig n) = (m == n) := by
  have : ∀ a b : Fin 16, (dig a.val == dig b.val) = (a.val == b.val) := by decide +kernel
  exact this ⟨m, hm⟩ ⟨n, hn⟩
theorem less_cons (a b : UInt8) (x y : List UInt8) : Op.bytesLess (a :: x) (b :: y) = (decide (a < b) || (a == b && Op.bytesLess x y)) := by
  rw [Op.bytesLess]
theorem hex_less : ∀ x y : Id, Op.bytesLess (hexI x) (hexI y) = Op.bytesLess x y
  | [], [] => rfl
  | [], _ :: _ => rfl
  | _ :: _, [] => rfl
  | a :: x, b :: y => by
    have ih := hex_less x y
    have ha := a.toNat_lt
    have hb := b.toNat_lt
    have e : ∀ (c : UInt8) (z : Id), hexI (c :: z) = dig (c.toNat / 16) :: dig (c.toNat % 16) :: hexI z := fun c z => rfl
    rw [e, e, less_cons, less_cons, less_cons, ih, dig_lt (by omega) (by omega), dig_lt (by omega) (by omega), dig_eq (by omega) (by omega), dig_eq (by omega) (by omega)]
    have h1 : decide (a < b) = decide (a.toNat < b.toNat) := decide_eq_decide.2 UInt8.lt_iff_toNat_lt
    have h2 : (a == b) = (a.toNat == b.toNat) := by
      rw [Bool.eq_iff_iff, beq_iff_eq, beq_iff_eq]
      exact ⟨fun h => by rw [h], fun h => UInt8.toNat.inj h⟩
    rw [h1, h2]
    generalize a.toNat = m at *
    generalize b.toNat = n at *
    generalize Op.bytesLess x y = r
    rw [Bool.eq_iff_iff]
    simp only [Bool.or_eq_true, Bool.and_eq_true, decide_eq_true_eq, beq_iff_eq]
    constructor
    · rintro (h | ⟨h, h' | ⟨h', h''⟩⟩)
      · left; omega
      · left; omega
      · right; exact ⟨by omega, h''⟩
    · rintro (h | ⟨h, h'⟩)
      · by_cases q : m / 16 < n / 16
        · exact .inl q
        · exact .inr ⟨by omega, .inl (by omega)⟩
      · subst h
        exact .inr ⟨rfl, .inr ⟨rfl, h'⟩⟩
set_option maxHeartbeats 4000000 in
set_option maxRecDepth 100000 in
theorem idsLess_calls {a b c : Id} (ha : okId a) (hb : okId b) (hc : okId c) (w : World) :
    Calls Try.prog 5 #[valI a, valI b, valI c] w fun e w' => e = .returned (.bool true) ∧ Below w.heap.size w w' := by
  have HAW : Aside0 (∀ V : World, Calls Try.prog 9 #[] V fun e w' => e = .returned (.bool true) ∧ Below V.heap.size V w') := ⟨awake_calls⟩
  have HL1 : Aside0 (∀ V : World, Calls Try.prog 19 #[valI a, valI b] V fun e w' => e = .returned (.bool (ltI a b)) ∧ Below V.heap.size V w') := ⟨fun V => less_calls ha hb V⟩
  have HL2 : Aside0 (∀ V : World, Calls Try.prog 19 #[valI b, valI a] V fun e w' => e = .returned (.bool (ltI b a)) ∧ Below V.heap.size V w') := ⟨fun V => less_calls hb ha V⟩
  have HL3 : Aside0 (∀ V : World, Calls Try.prog 19 #[valI b, valI c] V fun e w' => e = .returned (.bool (ltI b c)) ∧ Below V.heap.size V w') := ⟨fun V => less_calls hb hc V⟩
  have HL4 : Aside0 (∀ V : World, Calls Try.prog 19 #[valI a, valI c] V fun e w' => e = .returned (.bool (ltI a c)) ∧ Below V.heap.size V w') := ⟨fun V => less_calls ha hc V⟩
  have HXa : Aside0 (∀ V : World, Calls Try.prog 12 #[valI a] V fun e w' => e = .returned (.string ⟨(hexI a).toArray⟩) ∧ Below V.heap.size V w') := ⟨fun V => hex_calls ha V⟩
  have HXb : Aside0 (∀ V : World, Calls Try.prog 12 #[valI b] V fun e w' => e = .returned (.string ⟨(hexI b).toArray⟩) ∧ Below V.heap.size V w') := ⟨fun V => hex_calls hb V⟩
  have hlss : Op.bytesLess (⟨(hexI a).toArray⟩ : ByteArray).toList (⟨(hexI b).toArray⟩ : ByteArray).toList = ltI a b := by
    have e : ∀ l : List UInt8, (⟨l.toArray⟩ : ByteArray).toList = l := fun l => by rw [ByteArray.toList_eq]
    rw [e, e]; exact hex_less a b
  generalize (⟨(hexI a).toArray⟩ : ByteArray) = SA at HXa hlss
  generalize (⟨(hexI b).toArray⟩ : ByteArray) = SB at HXb hlss
  have heq := eqIn_I ha hb
  have hr0 : (((w.alloc (.cells (arrI a) 23)).alloc (.cells (arrI b) 23)).alloc (.cells (arrI c) 23)).heap[w.heap.size]? = some (.cells (arrI a) 23 (0, 0)) := blk_alloc (blk_alloc (blk_new w _) _) _
  have hr1 : (((w.alloc (.cells (arrI a) 23)).alloc (.cells (arrI b) 23)).alloc (.cells (arrI c) 23)).heap[w.heap.size + 1]? = some (.cells (arrI b) 23 (0, 0)) := blk_alloc (blk_new2 w _ _) _
  have hr2 : (((w.alloc (.cells (arrI a) 23)).alloc (.cells (arrI b) 23)).alloc (.cells (arrI c) 23)).heap[w.heap.size + 2]? = some (.cells (arrI c) 23 (0, 0)) := by
    have := blk_new ((w.alloc (.cells (arrI a) 23)).alloc (.cells (arrI b) 23)) (.cells (arrI c) 23)
    simpa using this
  have HA := Aside0.mk hr0
  have HO := Aside0.mk hr1
  have HC := Aside0.mk hr2
  have HB := Aside0.mk (below_alloc (below_alloc (below_alloc (Below.refl w.heap.size w) (.cells (arrI a) 23)) (.cells (arrI b) 23)) (.cells (arrI c) 23))
  clear hr0 hr1 hr2
  have hxy : (ltI a b = true ∧ ltI b a = false ∧ decide (a = b) = false ∧ (ltI b c = true → ltI a c = true)) ∨ (ltI a b = false ∧ ltI b a = true ∧ decide (a = b) = false) ∨ (ltI a b = false ∧ ltI b a = false ∧ decide (a = b) = true) := by
    cases h1 : ltI a b with
    | true => exact .inl ⟨rfl, ltI_asymm h1, decide_eq_false (ltI_ne h1), fun h => ltI_trans h1 h⟩
    | false =>
      cases h2 : ltI b a with
      | true => exact .inr (.inl ⟨rfl, rfl, decide_eq_false fun e => ltI_ne h2 e.symm⟩)
      | false => exact .inr (.inr ⟨rfl, rfl, decide_eq_true (ltI_total h1 h2)⟩)
  generalize ltI a b = x at HL1 hlss hxy
  generalize ltI b a = y at HL2 hxy
  generalize decide (a = b) = q at heq hxy
  generalize ltI b c = z at HL3 hxy
  generalize ltI a c = t at HL4 hxy
  have HXY := Aside0.mk hxy
  clear hxy
  go_enter Try.func5, Try.ntmps5
  rcases HXY.out with ⟨rfl, rfl, rfl, hz⟩ | ⟨rfl, rfl, rfl⟩ | ⟨rfl, rfl, rfl⟩ <;> cases z
  all_goals try (have hz' := hz rfl; subst hz')
  all_goals clear HXY
  all_goals try clear hz
  all_goals
    go_wp2_with (first
      | ((try (refine gate_guard (by rfl) ?_; dsimp only)); refine wpl_load w.heap.size 0 a (range_of_blk (t := 23) HA.out) ha (by rfl) _ (by rfl) (by rfl) ?_; go_frame)
      | ((try (refine gate_guard (by rfl) ?_; dsimp only)); refine wpl_load (w.heap.size + 1) 0 b (range_of_blk (t := 23) HO.out) hb (by rfl) _ (by rfl) (by rfl) ?_; go_frame)
      | ((try (refine gate_guard (by rfl) ?_; dsimp only)); refine wpl_load (w.heap.size + 2) 0 c (range_of_blk (t := 23) HC.out) hc (by rfl) _ (by rfl) (by rfl) ?_; go_frame)
      | (go_at_call 9; refine (HAW.out _).mono ?_; rintro e V ⟨rfl, hq⟩; have HA := Aside0.mk (blk_below HA.out hq); have HO := Aside0.mk (blk_below HO.out hq); have HC := Aside0.mk (blk_below HC.out hq); have HB := Aside0.mk (below_step HB.out hq); clear hq; go_frame)
      | (go_at_call 19; (with_reducible refine (HL1.out _).mono ?_); rintro e V ⟨rfl, hq⟩; have HA := Aside0.mk (blk_below HA.out hq); have HO := Aside0.mk (blk_below HO.out hq); have HC := Aside0.mk (blk_below HC.out hq); have HB := Aside0.mk (below_step HB.out hq); clear hq; go_frame)
      | (go_at_call 19; (with_reducible refine (HL2.out _).mono ?_); rintro e V ⟨rfl, hq⟩; have HA := Aside0.mk (blk_below HA.out hq); have HO := Aside0.mk (blk_below HO.out hq); have HC := Aside0.mk (blk_below HC.out hq); have HB := Aside0.mk (below_step HB.out hq); clear hq; go_frame)
      | (go_at_call 19; (with_reducible refine (HL3.out _).mono ?_); rintro e V ⟨rfl, hq⟩; have HA := Aside0.mk (blk_below HA.out hq); have HO := Aside0.mk (blk_below HO.out hq); have HC := Aside0.mk (blk_below HC.out hq); have HB := Aside0.mk (below_step HB.out hq); clear hq; go_frame)
      | (go_at_call 19; (with_reducible refine (HL4.out _).mono ?_); rintro e V ⟨rfl, hq⟩; have HA := Aside0.mk (blk_below HA.out hq); have HO := Aside0.mk (blk_below HO.out hq); have HC := Aside0.mk (blk_below HC.out hq); have HB := Aside0.mk (below_step HB.out hq); clear hq; go_frame))
  all_goals
    refine start_ (n := 8) (S := fun w' => Below V.heap.size V w') (ds := []) #[false,false,false,false,false,false,false,false] (by kernel_rfl) rfl rfl (below_drew (Below.refl _ _)) (fun hHeld => ?_)
    refine pure_ (i := 0) (N := some 51) (v := ?_) (a' := ?_) #[true,false,false,false,false,false,false,false] rfl rfl (by kernel_rfl) (fun _ _ _ h => h) (Or.inl ⟨by rfl, ?_⟩) ?_ ?_
    rotate_left
    ·intro w'
     go_simp
     with_reducible rfl
    rotate_left
    ·simp only [Act.put, List.setIfInBounds_toArray, List.set_cons_zero, List.set_cons_succ, i64_w, i32_w]
     rfl
    refine pw_load (i := 1) (N := some 52) (a' := ?_) #[true,true,false,false,false,false,false,false] rfl rfl (by kernel_rfl) (fun _ _ _ _ h => h) _ rfl (by rfl) (w.heap.size) 0 (by rfl) a (fun _ h => range_below (range_of_blk (t := 23) HA.out) h) ha hHeld ?_ ?_
    rotate_left
    ·simp only [Act.put, List.setIfInBounds_toArray, List.set_cons_zero, List.set_cons_succ, i64_w, i32_w]
     rfl
    refine pw_load (i := 3) (N := some 54) (a' := ?_) #[true,true,false,true,false,false,false,false] rfl rfl (by kernel_rfl) (fun _ _ _ _ h => h) _ rfl (by rfl) (w.heap.size + 1) 0 (by rfl) b (fun _ h => range_below (range_of_blk (t := 23) HO.out) h) hb hHeld ?_ ?_
    rotate_left
    ·simp only [Act.put, List.setIfInBounds_toArray, List.set_cons_zero, List.set_cons_succ, i64_w, i32_w]
     rfl
    refine one_ (i := 2) (N := some 53) #[true,true,true,true,false,false,false,false] rfl rfl (by kernel_rfl) (by decide) (fun K hK => ?_)
    refine goes_ Try.func12 (by kernel_rfl) rfl #[valI a] (by rfl) rfl rfl (by (try simp only [List.map_toArray, List.map_cons, List.map_nil]); first | done | rfl) ?_
    refine (HXa.out _).mono ?_
    rintro e hccw ⟨rfl, hcc⟩
    refine ⟨_, rfl, ?_⟩
    refine hK.out _ _ (below_step hHeld hcc) (fun hHeld2 => ?_)
    clear hK K
    refine norm_ (a' := ?_) ?_ ?_
    rotate_left
    ·show Act.put _ (some 53) _ = _
     simp only [Act.put, List.setIfInBounds_toArray, List.set_cons_zero, List.set_cons_succ, i64_w, i32_w]
     rfl
    refine one_ (i := 4) (N := some 55) #[true,true,true,true,true,false,false,false] rfl rfl (by kernel_rfl) (by decide) (fun K hK => ?_)
    refine goes_ Try.func12 (by kernel_rfl) rfl #[valI b] (by rfl) rfl rfl (by (try simp only [List.map_toArray, List.map_cons, List.map_nil]); first | done | rfl) ?_
    refine (HXb.out _).mono ?_
    rintro e hddw ⟨rfl, hdd⟩
    refine ⟨_, rfl, ?_⟩
    refine hK.out _ _ (below_step hHeld2 hdd) (fun hHeld3 => ?_)
    clear hK K
    refine norm_ (a' := ?_) ?_ ?_
    rotate_left
    ·show Act.put _ (some 55) _ = _
     simp only [Act.put, List.setIfInBounds_toArray, List.set_cons_zero, List.set_cons_succ, i64_w, i32_w]
     rfl
    refine pure_ (i := 5) (N := some 56) (v := ?_) (a' := ?_) #[true,true,true,true,true,true,false,false] rfl rfl (by kernel_rfl) (fun _ _ _ h => h) (Or.inl ⟨by rfl, ?_⟩) ?_ ?_
    rotate_left
    ·intro w'
     go_simp
     with_reducible rfl
    rotate_left
    ·simp only [Act.put, List.setIfInBounds_toArray, List.set_cons_zero, List.set_cons_succ, i64_w, i32_w]
     rfl
    refine pure_ (i := 6) (N := some 57) (v := ?_) (a' := ?_) #[true,true,true,true,true,true,true,false] rfl rfl (by kernel_rfl) (fun _ _ _ h => h) (Or.inl ⟨by rfl, ?_⟩) ?_ ?_
    rotate_left
    ·intro w'
     go_simp
     with_reducible rfl
    rotate_left
    ·simp only [Act.put, List.setIfInBounds_toArray, List.set_cons_zero, List.set_cons_succ, i64_w, i32_w]
     rfl
    refine pure_ (i := 7) (N := some 6) (v := ?_) (a' := ?_) #[true,true,true,true,true,true,true,true] rfl rfl (by kernel_rfl) (fun _ _ _ h => h) (Or.inl ⟨by rfl, ?_⟩) ?_ ?_
    rotate_left
    ·intro w'
     go_simp
     with_reducible rfl
    rotate_left
    ·simp only [Act.put, List.setIfInBounds_toArray, List.set_cons_zero, List.set_cons_succ, i64_w, i32_w]
     rfl
    refine done_ (by kernel_rfl) ?_
    have HBF := Aside0.mk hHeld3
    clear hHeld hHeld2 hHeld3
    go_wp2
    go_ret
    exact ⟨by first | rfl | simp, below_step HB.out HBF.out⟩
end Go.Proofs.Ytkgjdeicjkibiaa.D
