/- ref04.Sort at ids. By hand. -/
import Derived.Test.YtkgjdeicjkibiaaDIRHas
import Derived.Test.YtkgjdeicjkibiaaDIRLess
import Derived.Test.YtkgjdeicjkibiaaDICat
namespace Go.Proofs.Ytkgjdeicjkibiaa.D
open Go.RowKit Go.Maps Go.Proofs.YtkgjdeicjkibiaaW.PrintWords Go.Proofs.YtkgjdeicjkibiaaW.PrintLast Go.Proofs.YtkgjdeicjkibiaaW.PrintMore Go.Proofs.YtkgjdeicjkibiaaW
set_option linter.unusedVariables false
set_option linter.unusedSimpArgs false
theorem insI_mem {x : Id} {l : List Id} (h : UpI l) (hx : x ∈ l) : insI x l = l := up_ext (up_insI x l h) h fun y => by
  rw [mem_insI]
  constructor
  · rintro (rfl | h)
    · exact hx
    · exact h
  · exact .inr
theorem ins_at (x : Id) : ∀ (l : List Id) (m : Nat), UpI l → x ∉ l → m ≤ l.length → (m < l.length → ltI x (rdI l m) = true) → (0 < m → ltI x (rdI l (m - 1)) = false) → insI x l = l.take m ++ [x] ++ l.drop m
  | [], 0, _, _, _, _, _ => rfl
  | y :: l, 0, _, _, _, h, _ => by
    have := h (by simp)
    simp only [rdI, List.getD_cons_zero] at this
    simp [insI, this]
  | [], m + 1, _, _, h, _, _ => absurd h (by simp)
  | y :: l, m + 1, hu, hn, hm, h1, h2 => by
    have hu' := List.pairwise_cons.1 hu
    have hxy : x ≠ y := fun e => hn (by rw [e]; exact List.mem_cons_self)
    have hl : ltI x y = false := by
      have h3 := h2 (by omega)
      match m, h3, hm with
      | 0, h3, _ => simpa [rdI] using h3
      | m + 1, h3, hm =>
        have hml : m < l.length := by simp at hm; omega
        have e : rdI (y :: l) (m + 1 + 1 - 1) = l[m] := by rw [show m + 1 + 1 - 1 = m + 1 by omega, rdI_at _ _ (by simp <;> omega)]; rfl
        rw [e] at h3
        cases h4 : ltI x y with
        | false => rfl
        | true => rw [ltI_trans h4 (hu'.1 l[m] (List.getElem_mem _))] at h3; cases h3
    have ih := ins_at x l m hu'.2 (fun q => hn (List.mem_cons_of_mem _ q)) (by simpa using hm) (fun q => by
      have := h1 (by simp <;> omega)
      simpa [rdI] using this) (fun q => by
      have := h2 (by omega)
      match m, q, this with
      | m + 1, _, this => simpa [rdI] using this)
    unfold insI
    rw [if_neg (by rw [hl]; simp), if_neg hxy, ih]
    simp
theorem C_of_blk1 {w : World} {g : Nat} {x : Id} (hb : w.heap[g]? = some (.cells (rowI [x]).toArray 23 (0, 0))) (hok : okId x) : Kd.C kI w (some ⟨g, 0, none⟩) [x].length [x] := by
  have hok' : ∀ y ∈ [x], okId y := fun y hy => by rw [List.mem_singleton.1 hy]; exact hok
  have hr := rowI_length hok'
  refine own_C (base := 0) (c := 1) ⟨hr, .inr ⟨g, 1, _, rfl, Nat.zero_le _, hb, Nat.le_refl _, by unfold maxLen; omega, by rw [List.size_toArray]; exact hr, ?_⟩⟩ hok'
  rw [← hr]
  exact List.take_of_length_le (Nat.le_refl _)
set_option maxHeartbeats 8000000 in
set_option maxRecDepth 100000 in
theorem rsort_calls (A0 : Option Addr) (c0 : Nat) (l : List Id) (w : World) (hr0 : Kd.C kI w A0 l.length l) (hlim : l.length * 64 ≤ 140737488355328) :
    Calls Try.prog 20 #[.slice A0 l.length c0] w (RetI w (sortI l)) := by
  have HR := Aside0.mk hr0
  have HL := Aside0.mk hr0.2.1
  have HK := Aside0.mk (C_ok hr0)
  clear hr0
  go_enter Try.func20, Try.ntmps20
  go_wp2
  go_loopw [3, 4] (fun v i wr => ∃ k : Nat, k ≤ l.length ∧ i = .int .i64 k ∧ Aside0 (wr.ownsRow w.heap.size 23 32 v (ofI (l.take k)).length (rowI (ofI (l.take k)))) ∧ Aside0 (Below w.heap.size w wr)) (fun _ i _ => l.length - (intOf i).toNat)
  case atStart => exact ⟨0, Nat.zero_le _, rfl, ⟨own_nil _ _ _ _⟩, ⟨Below.refl _ _⟩⟩
  case round =>
    obtain ⟨k, hk, rfl, hO, HB⟩ := hrel
    obtain ⟨A, c, rfl⟩ := own_slice hO.out
    by_cases hlt : k < l.length
    · obtain ⟨b, o, rfl, hx, hok⟩ := at_I HR.out k hlt
      have HX := Aside0.mk (range_below hx HB.out)
      have hl63 := HL.out
      have HINS := Aside0.mk (ofI_take l k hlt)
      have hlen0 : (ofI (l.take k)).length ≤ k := by
        rw [ofI_sort]
        exact Nat.le_trans (len_sortI _) (by rw [List.length_take]; omega)
      have HUP := Aside0.mk (ofI_up (l.take k))
      have HOK : Aside0 (∀ y ∈ ofI (l.take k), okId y) := ⟨fun y hy => HK.out y (by rw [ofI_sort, mem_sortI] at hy; exact List.mem_of_mem_take hy)⟩
      generalize rdI l k = x at *
      generalize ofI (l.take k) = out at *
      have HO := Aside0.mk hO.out
      have HC := Aside0.mk (own_C hO.out HOK.out)
      have hlim2 : out.length * 64 + 128 ≤ 140737488355328 + 128 := by omega
      have hlo : (out.length : Int) ≤ 9223372036854775807 := by omega
      clear hx hO
      have hk0 : (0 : Int) ≤ (k : Int) := Int.natCast_nonneg _
      have hk1 : (k : Int) < (l.length : Int) := by omega
      generalize hq : decide (x ∈ out) = q
      have HQ := Aside0.mk hq
      have hcn := fun V (h : Kd.C kI V A out.length out) => rhas_calls A c out hok V h
      rw [hq] at hcn
      have HCN := Aside0.mk hcn
      clear hq hcn
      cases q with
      | true =>
        have HO2 : Aside0 (out = ofI (l.take (k + 1))) := ⟨by rw [HINS.out, insI_mem HUP.out (of_decide_eq_true HQ.out)]⟩
        go_wp2_with (first
          | (refine wpl_load _ _ x HX.out hok (by rfl) _ (by rfl) (by rfl) ?_; go_frame)
          | (go_at_call 25; refine (HCN.out _ HC.out).mono ?_; rintro e w1 ⟨rfl, hb1⟩; have HB1 := Aside0.mk (below_step HB.out hb1); have HO1 := Aside0.mk (own_below HO.out hb1)))
        go_roundw
        case rel => exact ⟨k + 1, by omega, by go_num, ⟨by rw [← HO2.out]; exact HO1.out⟩, HB1⟩
        case measure => simp [intOf]; omega
      | false =>
        have HNI : Aside0 (x ∉ out) := ⟨of_decide_eq_false HQ.out⟩
        go_wp2_with (first
          | (refine wpl_load _ _ x HX.out hok (by rfl) _ (by rfl) (by rfl) ?_; go_frame)
          | (go_at_call 25; refine (HCN.out _ HC.out).mono ?_; rintro e w1 ⟨rfl, hb1⟩; have HB1 := Aside0.mk (below_step HB.out hb1); have HX1 := Aside0.mk (range_below HX.out hb1); have HC1 := Aside0.mk (Kd.C_below HC.out hb1); have HO1 := Aside0.mk (own_below HO.out hb1); clear hb1))
        clear HB HX HC HO HCN HQ
        go_loopw [6] (fun a wr2 => ∃ m : Nat, m ≤ out.length ∧ a = .int .i64 m ∧ Aside0 (m < out.length → ltI x (rdI out m) = true) ∧ Aside0 (Below w1.heap.size w1 wr2)) (fun a _ => (intOf a).toNat)
        case atStart => exact ⟨out.length, Nat.le_refl _, rfl, ⟨fun h => absurd h (by omega)⟩, ⟨Below.refl _ _⟩⟩
        case round =>
          obtain ⟨m, hm, rfl, HM1, HBi⟩ := hrel
          have HX2 := Aside0.mk (range_below HX1.out HBi.out)
          have HC2 := Aside0.mk (Kd.C_below HC1.out HBi.out)
          have HO2 := Aside0.mk (own_below HO1.out HBi.out)
          have hm0 : (0 : Int) ≤ (m : Int) := Int.natCast_nonneg _
          by_cases hmp : 0 < m
          · have hml : m - 1 < out.length := by omega
            obtain ⟨b1, o1, rfl, hy, hoky⟩ := at_I HC2.out (m - 1) hml
            have HY := Aside0.mk hy
            have HM3 : Aside0 (ltI x (rdI out (m - 1)) = true → (m - 1 < out.length → ltI x (rdI out (m - 1)) = true)) := ⟨fun h _ => h⟩
            have HM4 : Aside0 (ltI x (rdI out (m - 1)) = false → (0 < m → ltI x (rdI out (m - 1)) = false)) := ⟨fun h _ => h⟩
            clear hy
            generalize hyy : rdI out (m - 1) = y at hoky HY
            have HYY := Aside0.mk hyy
            clear hyy
            have HLS : Aside0 (∀ V : World, Calls Try.prog 26 #[valI x, valI y] V fun e w' => e = .returned (.bool (ltI x y)) ∧ Below V.heap.size V w') := ⟨fun V => rless_calls hok hoky V⟩
            have hk2 : (0 : Int) < (m : Int) := by omega
            have hk3 : (0 : Int) ≤ (m : Int) - 1 := by omega
            have hk4 : (m : Int) - 1 < (out.length : Int) := by omega
            have hk5 : ((m : Int) - 1).toNat = m - 1 := by omega
            have hk7 : (1 : Int) ≤ (m : Int) := by omega
            have hk6 : wrap64 ((m : Int) - 1) = (m : Int) - 1 := by unfold wrap64; omega
            generalize hqy : ltI x y = q at HLS
            have HQY := Aside0.mk hqy
            clear hqy
            go_wp2_with fail
            refine start_ (n := 11) (S := fun w' => Below wr.heap.size wr w') (ds := []) #[false,false,false,false,false,false,false,false,false,false,false] (by kernel_rfl) rfl rfl (below_drew (Below.refl _ _)) (fun hHeld => ?_)
            refine pure_ (i := 0) (N := some 26) (v := ?_) (a' := ?_) #[true,false,false,false,false,false,false,false,false,false,false] rfl rfl (by kernel_rfl) (fun _ _ _ h => h) (Or.inl ⟨by rfl, ?_⟩) ?_ ?_
            rotate_left
            ·intro w'
             go_simp
             with_reducible rfl
            rotate_left
            ·simp only [Act.put, List.setIfInBounds_toArray, List.set_cons_zero, List.set_cons_succ, i64_w, i32_w]
             rfl
            refine pure_ (i := 1) (N := some 27) (v := ?_) (a' := ?_) #[true,true,false,false,false,false,false,false,false,false,false] rfl rfl (by kernel_rfl) (fun _ _ _ h => h) (Or.inl ⟨by rfl, ?_⟩) ?_ ?_
            rotate_left
            ·intro w'
             go_simp
             with_reducible rfl
            rotate_left
            ·simp only [Act.put, List.setIfInBounds_toArray, List.set_cons_zero, List.set_cons_succ, i64_w, i32_w]
             rfl
            refine pure_ (i := 2) (N := some 28) (v := ?_) (a' := ?_) #[true,true,true,false,false,false,false,false,false,false,false] rfl rfl (by kernel_rfl) (fun _ _ _ h => h) (Or.inl ⟨by rfl, ?_⟩) ?_ ?_
            rotate_left
            ·intro w'
             go_simp
             with_reducible rfl
            rotate_left
            ·simp only [Act.put, List.setIfInBounds_toArray, List.set_cons_zero, List.set_cons_succ, i64_w, i32_w]
             rfl
            refine pw_load (i := 3) (N := some 29) (a' := ?_) #[true,true,true,true,false,false,false,false,false,false,false] rfl rfl (by kernel_rfl) (fun _ _ _ _ h => h) _ rfl (by rfl) (b) (o + k * 32) (by rfl) (x) (fun _ h => range_below HX2.out h) hok hHeld ?_ ?_
            rotate_left
            ·simp only [Act.put, List.setIfInBounds_toArray, List.set_cons_zero, List.set_cons_succ, i64_w, i32_w]
             rfl
            refine pure_ (i := 4) (N := some 30) (v := ?_) (a' := ?_) #[true,true,true,true,true,false,false,false,false,false,false] rfl rfl (by kernel_rfl) (fun _ _ _ h => h) (Or.inl ⟨by rfl, ?_⟩) ?_ ?_
            rotate_left
            ·intro w'
             go_simp
             with_reducible rfl
            rotate_left
            ·simp only [Act.put, List.setIfInBounds_toArray, List.set_cons_zero, List.set_cons_succ, i64_w, i32_w]
             rfl
            refine pure_ (i := 5) (N := some 31) (v := ?_) (a' := ?_) #[true,true,true,true,true,true,false,false,false,false,false] rfl rfl (by kernel_rfl) (fun _ _ _ h => h) (Or.inl ⟨by rfl, ?_⟩) ?_ ?_
            rotate_left
            ·intro w'
             go_simp
             with_reducible rfl
            rotate_left
            ·simp only [Act.put, List.setIfInBounds_toArray, List.set_cons_zero, List.set_cons_succ, i64_w, i32_w]
             rfl
            refine pure_ (i := 6) (N := some 32) (v := ?_) (a' := ?_) #[true,true,true,true,true,true,true,false,false,false,false] rfl rfl (by kernel_rfl) (fun _ _ _ h => h) (Or.inl ⟨by rfl, ?_⟩) ?_ ?_
            rotate_left
            ·intro w'
             go_simp
             with_reducible rfl
            rotate_left
            ·simp only [Act.put, List.setIfInBounds_toArray, List.set_cons_zero, List.set_cons_succ, i64_w, i32_w]
             rfl
            refine pure_ (i := 7) (N := some 33) (v := ?_) (a' := ?_) #[true,true,true,true,true,true,true,true,false,false,false] rfl rfl (by kernel_rfl) (fun _ _ _ h => h) (Or.inl ⟨by rfl, ?_⟩) ?_ ?_
            rotate_left
            ·intro w'
             go_simp
             with_reducible rfl
            rotate_left
            ·simp only [Act.put, List.setIfInBounds_toArray, List.set_cons_zero, List.set_cons_succ, i64_w, i32_w]
             rfl
            refine pw_load (i := 8) (N := some 34) (a' := ?_) #[true,true,true,true,true,true,true,true,true,false,false] rfl rfl (by kernel_rfl) (fun _ _ _ _ h => h) _ rfl (by rfl) (b1) (o1 + (m - 1) * 32) (by rfl) (y) (fun _ h => range_below HY.out h) hoky hHeld ?_ ?_
            rotate_left
            ·simp only [Act.put, List.setIfInBounds_toArray, List.set_cons_zero, List.set_cons_succ, i64_w, i32_w]
             rfl
            refine one_ (i := 9) (N := some 35) #[true,true,true,true,true,true,true,true,true,true,false] rfl rfl (by kernel_rfl) (by decide) (fun K hK => ?_)
            refine goes_ Try.func26 (by kernel_rfl) rfl #[valI x, valI y] (by rfl) rfl rfl (by (try simp only [List.map_toArray, List.map_cons, List.map_nil]); first | done | rfl) ?_
            refine (HLS.out _).mono ?_
            rintro e Wc1 ⟨rfl, hbc1⟩
            refine ⟨_, rfl, ?_⟩
            refine hK.out _ _ (below_step hHeld hbc1) (fun hHeld1 => ?_)
            clear hK K
            refine norm_ (a' := ?_) ?_ ?_
            rotate_left
            ·show Act.put _ (some 35) _ = _
             simp only [Act.put, List.setIfInBounds_toArray, List.set_cons_zero, List.set_cons_succ, i64_w, i32_w]
             rfl
            refine pure_ (i := 10) (N := some 7) (v := ?_) (a' := ?_) #[true,true,true,true,true,true,true,true,true,true,true] rfl rfl (by kernel_rfl) (fun _ _ _ h => h) (Or.inl ⟨by rfl, ?_⟩) ?_ ?_
            rotate_left
            ·intro w'
             go_simp
             with_reducible rfl
            rotate_left
            ·simp only [Act.put, List.setIfInBounds_toArray, List.set_cons_zero, List.set_cons_succ, i64_w, i32_w]
             rfl
            refine done_ (by kernel_rfl) ?_
            have HBd := Aside0.mk (below_step HBi.out hHeld1)
            clear hHeld hHeld1 HX2 HC2 HO2 HY
            cases q with
            | true =>
              go_wp2
              go_roundw
              case rel => exact ⟨m - 1, by omega, by go_num, ⟨HM3.out (by rw [HYY.out]; exact HQY.out)⟩, HBd⟩
              case measure => simp [intOf]; omega
            | false =>
              have HM2 : Aside0 (0 < m → ltI x (rdI out (m - 1)) = false) := ⟨HM4.out (by rw [HYY.out]; exact HQY.out)⟩
              have HXV := Aside0.mk (range_below HX1.out HBd.out)
              have HCV := Aside0.mk (Kd.C_below HC1.out HBd.out)
              have HO := Aside0.mk (own_below HO1.out HBd.out)
              have HBV := Aside0.mk (below_step HB1.out HBd.out)
              clear HBd HBi HX1 HC1 HO1 HB1 HM3 HM4 HYY HQY HLS hk2 hk3 hk4 hk5 hk6 hk7
              obtain ⟨p, hp⟩ : ∃ p, p = out.take m := ⟨_, rfl⟩
              obtain ⟨d, hd⟩ : ∃ d, d = out.drop m := ⟨_, rfl⟩
              have hlp : p.length = m := by rw [hp, List.length_take]; omega
              have hld : d.length = out.length - m := by rw [hd]; exact List.length_drop
              obtain ⟨iI, _, hiI, _, hsI, _⟩ := info_app
              have hVs := HBV.out.size
              have hoc : out.length ≤ c := own_cap HO.out
              have hmc : m ≤ c := by omega
              have hmi : (m : Int) ≤ (c : Int) := by omega
              obtain ⟨v1, V1, hr1, ho1, hg1, A1, c1, rfl⟩ := app_ids Wc1 29 (base := Wc1.heap.size) (l1 := []) (own_nil _ _ _ _) (some ⟨b1, o1, none⟩) c p (by rw [hp]; exact Kd.C_take HCV.out hm) (by simp <;> omega) (Nat.le_refl _)
              simp only [List.nil_append, List.length_nil] at hr1 ho1
              have HB1 := Aside0.mk ((Below.refl Wc1.heap.size Wc1).grown hg1 (Nat.le_refl _) (fun j hj => by cases hj))
              have HO1 := Aside0.mk ho1
              have HX1 := Aside0.mk (range_below HXV.out HB1.out)
              have HC1 := Aside0.mk (Kd.C_below HCV.out HB1.out)
              clear ho1 hg1
              obtain ⟨v2, V2, hr2, ho2, hg2, A2, c2, rfl⟩ := app_ids (V1.alloc (.cells (rowI [x]).toArray 23)) 29 (HO1.out.alloc _) (some ⟨V1.heap.size, 0, none⟩) 1 [x] (C_of_blk1 (blk_new V1 (.cells (rowI [x]).toArray 23)) hok) (by simp <;> omega) (by have := HB1.out.size; simp; omega)
              have HB2 := Aside0.mk ((below_alloc HB1.out (.cells (rowI [x]).toArray 23)).grown hg2 (by have := HB1.out.size; simp; omega) (own_base HO1.out))
              have HO2 := Aside0.mk ho2
              have HC2 := Aside0.mk (Kd.C_below HCV.out HB2.out)
              clear ho2 hg2
              obtain ⟨A3, hs3, hC3⟩ : ∃ A3, (∀ W : World, (Instr.slice 29 (.slice (some ⟨b1, o1, none⟩) out.length c) (some (.int .i64 (m : Int))) none none).run Try.prog W = .ok (.slice A3 (out.length - m) (c - m)) W) ∧ Kd.C kI V2 A3 d.length d :=
                ⟨_, fun W => cut_from 29 23 .i64 Try.underlying29 hiI 32 hsI (some ⟨b1, o1, none⟩) out.length c (m : Int) (by omega) (by omega) W, by rw [hd]; exact Kd.C_drop HC2.out hm (own_cap HO.out)⟩
              obtain ⟨v3, V3, hr3, ho3, hg3, A4, c4, rfl⟩ := app_ids V2 29 HO2.out A3 (c - m) d hC3 (by simp <;> omega) (by have := HB2.out.size; omega)
              have HB3 := Aside0.mk (below_step HBV.out (HB2.out.grown hg3 (by have := HB2.out.size; omega) (own_base HO2.out)))
              obtain ⟨r, hrr⟩ : ∃ r, r = p ++ [x] ++ d := ⟨_, rfl⟩
              have HR9 : Aside0 (r = ofI (l.take (k + 1))) := ⟨by rw [HINS.out, ins_at x out m HUP.out HNI.out hm HM1.out HM2.out, hrr, hp, hd]⟩
              rw [← hrr] at ho3 hr3
              have HO3 : Aside0 (V3.ownsRow w.heap.size 23 32 (.slice A4 r.length c4) (ofI (l.take (k + 1))).length (rowI (ofI (l.take (k + 1))))) := ⟨by
                rw [← HR9.out]
                exact own_weaken ho3 hVs⟩
              have hl2 : (p ++ [x]).length = m + 1 := by simp [hlp]
              rw [hlp] at hr1 hr2
              rw [hl2] at hr2 hr3
              rw [show [x].length = 1 from rfl] at hr2
              rw [hld] at hr3
              clear ho3 hg3 hC3 hlp hld hiI hsI hp hd hrr HR9 hl2 HO1 HO2 HC1 HC2 HB1 HB2
              go_wp2_with (first
                | (at_builtin; refine Lib.wpList_append_run _ rfl _ _ _ _ rfl _ _ rfl rfl _ _ hr1 ?_; clear hr1; go_frame)
                | (refine wpl_load _ _ x HX1.out hok (by rfl) _ (by rfl) (by rfl) ?_; go_frame)
                | (refine wpl_build [x] (fun y hy => by rw [List.mem_singleton.1 hy]; exact hok) (by simp) (by simp) 1 rfl (by rfl) _ (by rfl) (by rfl) ?_; go_frame)
                | (at_builtin; refine Lib.wpList_append_run _ rfl _ _ _ _ rfl _ _ rfl rfl _ _ hr2 ?_; clear hr2; go_frame)
                | (at_builtin; refine Lib.wpList_append_run _ rfl _ _ _ _ rfl _ _ rfl rfl _ _ hr3 ?_; clear hr3))
              go_roundw
              (case rel => exact ⟨k + 1, by omega, by go_num, HO3, HB3⟩)
              (case measure => simp [intOf]; omega)
          · have hmn : ¬ (0 : Int) < (m : Int) := by omega
            have HM2 : Aside0 (0 < m → ltI x (rdI out (m - 1)) = false) := ⟨fun h => absurd h hmp⟩
            clear hmp
            have HBV := Aside0.mk (below_step HB1.out HBi.out)
            have HXV := HX2
            have HCV := HC2
            have HO := HO2
            clear HBi HX1 HC1 HO1 HB1 HX2 HC2 HO2
            obtain ⟨p, hp⟩ : ∃ p, p = out.take m := ⟨_, rfl⟩
            obtain ⟨d, hd⟩ : ∃ d, d = out.drop m := ⟨_, rfl⟩
            have hlp : p.length = m := by rw [hp, List.length_take]; omega
            have hld : d.length = out.length - m := by rw [hd]; exact List.length_drop
            obtain ⟨iI, _, hiI, _, hsI, _⟩ := info_app
            have hVs := HBV.out.size
            have hoc : out.length ≤ c := own_cap HO.out
            have hmc : m ≤ c := by omega
            have hmi : (m : Int) ≤ (c : Int) := by omega
            obtain ⟨v1, V1, hr1, ho1, hg1, A1, c1, rfl⟩ := app_ids wr 29 (base := wr.heap.size) (l1 := []) (own_nil _ _ _ _) A c p (by rw [hp]; exact Kd.C_take HCV.out hm) (by simp <;> omega) (Nat.le_refl _)
            simp only [List.nil_append, List.length_nil] at hr1 ho1
            have HB1 := Aside0.mk ((Below.refl wr.heap.size wr).grown hg1 (Nat.le_refl _) (fun j hj => by cases hj))
            have HO1 := Aside0.mk ho1
            have HX1 := Aside0.mk (range_below HXV.out HB1.out)
            have HC1 := Aside0.mk (Kd.C_below HCV.out HB1.out)
            clear ho1 hg1
            obtain ⟨v2, V2, hr2, ho2, hg2, A2, c2, rfl⟩ := app_ids (V1.alloc (.cells (rowI [x]).toArray 23)) 29 (HO1.out.alloc _) (some ⟨V1.heap.size, 0, none⟩) 1 [x] (C_of_blk1 (blk_new V1 (.cells (rowI [x]).toArray 23)) hok) (by simp <;> omega) (by have := HB1.out.size; simp; omega)
            have HB2 := Aside0.mk ((below_alloc HB1.out (.cells (rowI [x]).toArray 23)).grown hg2 (by have := HB1.out.size; simp; omega) (own_base HO1.out))
            have HO2 := Aside0.mk ho2
            have HC2 := Aside0.mk (Kd.C_below HCV.out HB2.out)
            clear ho2 hg2
            obtain ⟨A3, hs3, hC3⟩ : ∃ A3, (∀ W : World, (Instr.slice 29 (.slice A out.length c) (some (.int .i64 (m : Int))) none none).run Try.prog W = .ok (.slice A3 (out.length - m) (c - m)) W) ∧ Kd.C kI V2 A3 d.length d :=
              ⟨_, fun W => cut_from 29 23 .i64 Try.underlying29 hiI 32 hsI A out.length c (m : Int) (by omega) (by omega) W, by rw [hd]; exact Kd.C_drop HC2.out hm (own_cap HO.out)⟩
            obtain ⟨v3, V3, hr3, ho3, hg3, A4, c4, rfl⟩ := app_ids V2 29 HO2.out A3 (c - m) d hC3 (by simp <;> omega) (by have := HB2.out.size; omega)
            have HB3 := Aside0.mk (below_step HBV.out (HB2.out.grown hg3 (by have := HB2.out.size; omega) (own_base HO2.out)))
            obtain ⟨r, hrr⟩ : ∃ r, r = p ++ [x] ++ d := ⟨_, rfl⟩
            have HR9 : Aside0 (r = ofI (l.take (k + 1))) := ⟨by rw [HINS.out, ins_at x out m HUP.out HNI.out hm HM1.out HM2.out, hrr, hp, hd]⟩
            rw [← hrr] at ho3 hr3
            have HO3 : Aside0 (V3.ownsRow w.heap.size 23 32 (.slice A4 r.length c4) (ofI (l.take (k + 1))).length (rowI (ofI (l.take (k + 1))))) := ⟨by
              rw [← HR9.out]
              exact own_weaken ho3 hVs⟩
            have hl2 : (p ++ [x]).length = m + 1 := by simp [hlp]
            rw [hlp] at hr1 hr2
            rw [hl2] at hr2 hr3
            rw [show [x].length = 1 from rfl] at hr2
            rw [hld] at hr3
            clear ho3 hg3 hC3 hlp hld hiI hsI hp hd hrr HR9 hl2 HO1 HO2 HC1 HC2 HB1 HB2
            go_wp2_with (first
              | (at_builtin; refine Lib.wpList_append_run _ rfl _ _ _ _ rfl _ _ rfl rfl _ _ hr1 ?_; clear hr1; go_frame)
              | (refine wpl_load _ _ x HX1.out hok (by rfl) _ (by rfl) (by rfl) ?_; go_frame)
              | (refine wpl_build [x] (fun y hy => by rw [List.mem_singleton.1 hy]; exact hok) (by simp) (by simp) 1 rfl (by rfl) _ (by rfl) (by rfl) ?_; go_frame)
              | (at_builtin; refine Lib.wpList_append_run _ rfl _ _ _ _ rfl _ _ rfl rfl _ _ hr2 ?_; clear hr2; go_frame)
              | (at_builtin; refine Lib.wpList_append_run _ rfl _ _ _ _ rfl _ _ rfl rfl _ _ hr3 ?_; clear hr3))
            go_roundw
            (case rel => exact ⟨k + 1, by omega, by go_num, HO3, HB3⟩)
            (case measure => simp [intOf]; omega)
    · have hkl : k = l.length := by omega
      subst hkl
      have hO2 := hO.out
      rw [List.take_length, ofI_sort] at hO2
      have HO2 := Aside0.mk hO2
      have HE : Aside0 ((ofI (l.take l.length)).length = (sortI l).length) := ⟨by rw [List.take_length, ofI_sort]⟩
      clear hO2
      go_wp2
      go_ret
      refine ret_of_own (base := w.heap.size) (ok_sortI HK.out) ?_ HB.out
      rw [HE.out]
      exact HO2.out
end Go.Proofs.Ytkgjdeicjkibiaa.D
