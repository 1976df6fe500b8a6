/- Several of the walk's texts in one: SHPut, Sx20, SSt. -/
import Derived.OpenShut
import Derived.Maps.RangeWalk
import Derived.Test.YtmcddoolniaehaaGreatMM04
import Derived.Test.YtmcddoolniaehaaGreatMM13
import Derived.Test.YtmcddoolniaehaaGreatMM16
import Derived.Test.YtmcddoolniaehaaGreatMM18
import Derived.Test.YtmcddoolniaehaaGreatMM19
section
namespace Go.Proofs.YtmcddoolniaehaaGreat.S
open Go.RowKit Go.Proofs.YtmcddoolniaehaaGreatW.PrintWords Go.Proofs.YtmcddoolniaehaaGreatW.PrintLast Go.Proofs.YtmcddoolniaehaaGreatW.PrintMore Go.Proofs.YtmcddoolniaehaaGreatW
set_option linter.unusedVariables false
set_option linter.unusedSimpArgs false
def foldI (a : Int) : Int := Go.bits .xor .u64 (IntKind.u64.wrap ((IntKind.u64.wrap a) * 2)) (IntKind.u64.wrap (a / 9223372036854775808))
theorem foldI_range (a : Int) : 0 ≤ foldI a ∧ foldI a < 18446744073709551616 := by
  have h := wf_bits .xor .u64 (IntKind.u64.wrap ((IntKind.u64.wrap a) * 2)) (IntKind.u64.wrap (a / 9223372036854775808))
  simp [Lit.wf, IntKind.min, IntKind.max, IntKind.signed, IntKind.bits] at h
  unfold foldI
  omega
def ctrB (c : S73) : List Int := [c.f0].flatMap textL ++ numL (foldI c.f1).toNat
def regB (r : S47) : List Int := [r.f0, r.f1].flatMap textL ++ [r.f2, r.f3.f0, r.f3.f1].flatMap numI
def pairB (p : S43) : List Int := [p.f0, p.f1].flatMap textL ++ [p.f2.f0, p.f2.f1].flatMap numI
def shortC (l : List S73) : Prop := l.length ≤ 1000 ∧ ∀ c ∈ l, c.f0.size ≤ 1000
def shortR (l : List S47) : Prop := l.length ≤ 1000 ∧ ∀ c ∈ l, c.f0.size ≤ 1000 ∧ c.f1.size ≤ 1000
def shortP (l : List S43) : Prop := l.length ≤ 1000 ∧ ∀ c ∈ l, c.f0.size ≤ 1000 ∧ c.f1.size ≤ 1000
instance (l : List S73) : Decidable (shortC l) := by unfold shortC; infer_instance
instance (l : List S47) : Decidable (shortR l) := by unfold shortR; infer_instance
instance (l : List S43) : Decidable (shortP l) := by unfold shortP; infer_instance
def putS (l0 : List S73) (l1 : List S47) (l2 : List S43) : List Int :=
  ((((([] ++ [(l0.length : Int)].flatMap numI) ++ l0.flatMap ctrB) ++ [(l1.length : Int)].flatMap numI) ++ l1.flatMap regB) ++ [(l2.length : Int)].flatMap numI) ++ l2.flatMap pairB
def state_Put.f (l0_0 : List (S73)) (l0_1 : List (S47)) (l0_2 : List (S43)) : Option (List Int) :=
  if shortC l0_0 ∧ shortR l0_1 ∧ shortP l0_2 then some (putS l0_0 l0_1 l0_2) else none
theorem ctrB_len {c : S73} (h : c.f0.size ≤ 1000) : (ctrB c).length ≤ 4000 := by
  have h1 := textL_short h
  have h2 := numL_ten (n := (foldI c.f1).toNat) (by have := foldI_range c.f1; omega)
  simp only [ctrB, List.flatMap_cons, List.flatMap_nil, List.append_nil, List.length_append]
  omega
theorem regB_len {c : S47} (h : c.f0.size ≤ 1000 ∧ c.f1.size ≤ 1000) : (regB c).length ≤ 4000 := by
  have h1 := textL_short h.1
  have h2 := textL_short h.2
  have h3 := numI_ten c.f2
  have h4 := numI_ten c.f3.f0
  have h5 := numI_ten c.f3.f1
  simp only [regB, List.flatMap_cons, List.flatMap_nil, List.append_nil, List.length_append]
  omega
theorem pairB_len {c : S43} (h : c.f0.size ≤ 1000 ∧ c.f1.size ≤ 1000) : (pairB c).length ≤ 4000 := by
  have h1 := textL_short h.1
  have h2 := textL_short h.2
  have h4 := numI_ten c.f2.f0
  have h5 := numI_ten c.f2.f1
  simp only [pairB, List.flatMap_cons, List.flatMap_nil, List.append_nil, List.length_append]
  omega
theorem info_c : (Tryz.prog.info? 73).map (·.size) = some 2 := by kernel_rfl
theorem info_r : (Tryz.prog.info? 47).map (·.size) = some 5 := by kernel_rfl
theorem info_p : (Tryz.prog.info? 43).map (·.size) = some 4 := by kernel_rfl
theorem flat_lenS {α : Type} (f : α → List Int) : ∀ (l : List α), (∀ x ∈ l, (f x).length ≤ 4000) → (l.flatMap f).length ≤ 4000 * l.length
  | [], _ => by simp
  | x :: l, h => by
    have h1 := flat_lenS f l (fun s hs => h s (List.mem_cons_of_mem _ hs))
    have h2 := h x List.mem_cons_self
    rw [List.flatMap_cons, List.length_append, List.length_cons]
    omega
theorem flat_takeS {α : Type} (f : α → List Int) (l : List α) (k : Nat) (h : ∀ x ∈ l, (f x).length ≤ 4000) (hk : k ≤ l.length) : ((l.take k).flatMap f).length ≤ 4000 * k := by
  have := flat_lenS f (l.take k) (fun x hx => h x (List.mem_of_mem_take hx))
  rw [List.length_take] at this
  omega
theorem flat_snocS {α : Type} (f : α → List Int) (l : List α) (k : Nat) (h : k < l.length) : (l.take (k + 1)).flatMap f = (l.take k).flatMap f ++ f l[k] := by
  rw [List.take_succ_eq_append_getElem h, List.flatMap_append]; simp
set_option maxHeartbeats 4000000 in
set_option maxRecDepth 100000 in
theorem state_Put.calls (A0_0 : Option Addr) (c0_0 : Nat) (l0_0 : List (S73)) (A0_1 : Option Addr) (c0_1 : Nat) (l0_1 : List (S47)) (A0_2 : Option Addr) (c0_2 : Nat) (l0_2 : List (S43)) (r : List Int) (w : World) (hr0_0 : Kd.C k73 w A0_0 l0_0.length l0_0) (hc0_0 : l0_0.length ≤ c0_0) (hr0_1 : Kd.C k47 w A0_1 l0_1.length l0_1) (hc0_1 : l0_1.length ≤ c0_1) (hr0_2 : Kd.C k43 w A0_2 l0_2.length l0_2) (hc0_2 : l0_2.length ≤ c0_2) (h : state_Put.f l0_0 l0_1 l0_2 = some r) :
    Calls Tryz.prog 16 #[.agg #[.slice A0_0 l0_0.length c0_0, .slice A0_1 l0_1.length c0_1, .slice A0_2 l0_2.length c0_2]] w fun e w' => ∃ v0_ : Value, e = .returned (v0_) ∧ Kd.R (Kd.int .u8) 5 w' w.heap.size (fun _ => True) v0_ r ∧ Below w.heap.size w w' := by
  unfold state_Put.f at h
  split at h
  case isFalse => cases h
  case isTrue hh =>
  cases h
  obtain ⟨hs0, hs1, hs2⟩ := hh
  have HC0 := Aside0.mk hr0_0
  have HC1 := Aside0.mk hr0_1
  have HC2 := Aside0.mk hr0_2
  have HS0 := Aside0.mk hs0
  have HS1 := Aside0.mk hs1
  have HS2 := Aside0.mk hs2
  clear hr0_0 hr0_1 hr0_2 hs0 hs1 hs2
  go_enter Tryz.func16, Tryz.ntmps16
  go_wp2_with fail
  have hS1 := blk_new w (.cells #[.slice A0_0 l0_0.length c0_0, .slice A0_1 l0_1.length c0_1, .slice A0_2 l0_2.length c0_2] 26)
  have hb1 := below_alloc (Below.refl w.heap.size w) (.cells #[.slice A0_0 l0_0.length c0_0, .slice A0_1 l0_1.length c0_1, .slice A0_2 l0_2.length c0_2] 26)
  have hsz : (w.alloc (.cells #[.slice A0_0 l0_0.length c0_0, .slice A0_1 l0_1.length c0_1, .slice A0_2 l0_2.length c0_2] 26)).heap.size = w.heap.size + 1 := by simp
  revert hS1 hb1 hsz
  generalize w.alloc (.cells #[.slice A0_0 l0_0.length c0_0, .slice A0_1 l0_1.length c0_1, .slice A0_2 l0_2.length c0_2] 26) = W1
  intro hS1 hb1 hsz
  have hw2 := blk_new W1 (.cells #[.slice none 0 0] 70)
  have hx2 := blk_new (W1.alloc (.cells #[.slice none 0 0] 70)) (.cells #[.int .i64 (l0_0.length : Int)] 3)
  rw [hsz] at hw2
  rw [World.size_alloc, hsz] at hx2
  have hW2 : Wr W1 (w.heap.size + 1) [] ((W1.alloc (.cells #[.slice none 0 0] 70)).alloc (.cells #[.int .i64 (l0_0.length : Int)] 3)) := ⟨_, blk_alloc hw2 _, own_nil _ _ _ _⟩
  have hB2 := below_alloc (below_alloc (Below.refl W1.heap.size W1) (.cells #[.slice none 0 0] 70)) (.cells #[.int .i64 (l0_0.length : Int)] 3)
  have HS := Aside0.mk hS1
  have HW1 := Aside0.mk hb1
  have HSZ := Aside0.mk (show W1.heap.size ≤ w.heap.size + 1 by omega)
  clear hS1 hb1
  refine (numbers_calls W1 (w.heap.size + 1) (w.heap.size + 1 + 1) [(l0_0.length : Int)] [] _ hB2 HSZ.out hW2 hx2 (by simp) (by omega)).mono ?_
  rintro e V1 ⟨rfl, hV1, hBV1, _⟩
  have HV := Aside0.mk hV1
  have HB := Aside0.mk hBV1
  clear hV1 hBV1 hw2 hx2 hW2 hB2 hsz
  obtain ⟨s0, s1, s2⟩ := cells3 (blk_below HS.out HB.out)
  go_wp2_with fail
  go_loopw [21] (fun i wr => ∃ k : Nat, k ≤ l0_0.length ∧ i = .int .i64 k ∧ Aside0 (Wr W1 (w.heap.size + 1) (([] ++ [(l0_0.length : Int)].flatMap numI) ++ (l0_0.take k).flatMap ctrB) wr) ∧ Aside0 (Below W1.heap.size W1 wr)) (fun i _ => l0_0.length - (intOf i).toNat)
  case atStart => exact ⟨0, Nat.zero_le _, rfl, ⟨by simpa using HV.out⟩, HB⟩
  case round =>
    clear HV HB s0 s1 s2
    obtain ⟨k, hk, rfl, HV, HB⟩ := hrel
    have hn0 : l0_0.length ≤ 1000 := HS0.out.1
    by_cases hlt : k < l0_0.length
    · have hk0 : (0 : Int) ≤ (k : Int) := Int.natCast_nonneg _
      have hk1 : (k : Int) < (l0_0.length : Int) := by omega
      obtain ⟨ad, e, hx0, hx1⟩ := at_T73 HC0.out (k : Int) hk0 hk1
      cases e
      have HBw := below_step HW1.out HB.out
      replace hx0 := (HBw.cell (World.block_lt_of_cell? w _ hx0)).trans hx0
      replace hx1 := (HBw.cell (World.block_lt_of_cell? w _ hx1)).trans hx1
      simp only [Int.toNat_natCast, add_plain] at hx0 hx1
      have hrd : rd_T73 l0_0 (k : Int) = l0_0[k] := by simp [rd_T73, List.getD_eq_getElem?_getD, hlt]
      have HT := Aside0.mk (flat_snocS ctrB l0_0 k hlt)
      have HLEN := Aside0.mk (flat_takeS ctrB l0_0 k (fun x hx => ctrB_len (HS0.out.2 x hx)) hk)
      have HSX := Aside0.mk (HS0.out.2 _ (List.getElem_mem hlt))
      rw [hrd] at hx0 hx1
      clear hrd HBw
      revert HV hx0 hx1 HT HLEN HSX
      generalize (l0_0.take k).flatMap ctrB = pre
      generalize l0_0[k] = x
      intro HV hx0 hx1 HT HLEN HSX
      have HL0 : Aside0 (([] ++ [(l0_0.length : Int)].flatMap numI).length ≤ 10) := ⟨by have := numI_ten (l0_0.length : Int); simpa using this⟩
      revert HV HL0
      generalize hout : ([] ++ [(l0_0.length : Int)].flatMap numI) = out
      intro HV HL0
      have HOUT := Aside0.mk hout
      clear hout
      go_wp2_with (first
        | (refine wpl_store_newA 73 wr _ [.string x.f0, .int .i64 x.f1] (by simp [Value.oneCell']) info_c (by rfl) (by rfl) (by rfl) _ _ (by rfl) (by rfl) (by rfl) ?_; intro V2 hb2 hB2 hs2; have c20 : V2.cell? ⟨wr.heap.size, 0, none⟩ = some (.string x.f0) := blk_cell hb2 0; have C2 := Aside0.mk hb2; have HV2 := Aside0.mk (HV.out.below hB2); have HBr2 := Aside0.mk (below_step HB.out hB2); clear hb2 hB2 hs2; go_frame)
        | fail)
      have hx3 := blk_new V2 (.cells #[.string x.f0] 9)
      have hC3 := blk_alloc C2.out (.cells #[.string x.f0] 9)
      have hcb : wr.heap.size ≠ w.heap.size + 1 := by have := HV.out; obtain ⟨_, h, _⟩ := this; have := blk_lt h; omega
      have hgb : V2.heap.size ≠ w.heap.size + 1 := by obtain ⟨_, h, _⟩ := HV2.out; have := blk_lt h; omega
      refine (texts_calls W1 (w.heap.size + 1) V2.heap.size [x.f0] (out ++ pre) _ (by intro s hs; rw [List.mem_singleton.1 hs]; exact HSX.out) (below_alloc HBr2.out _) HSZ.out (HV2.out.below (below_alloc (Below.refl _ V2) _)) hx3 (by have := HL0.out; have := HLEN.out; simp; omega) hgb).mono ?_
      rintro e V3 ⟨rfl, hV3, hB3, hK3⟩
      have C3 := Aside0.mk (hK3 _ _ _ hC3 (by decide) hcb)
      have HV3 := Aside0.mk hV3
      have HB3 := Aside0.mk hB3
      clear hx3 hC3 hgb hV3 hB3 hK3 c20 C2 HV2 HBr2 hx0 hx1
      go_wp2_with fail
      obtain ⟨v, hv, ho⟩ := HV3.out
      obtain ⟨A, c, rfl⟩ := own_slice ho
      obtain ⟨i0, hi, hz0, hz1, hz2⟩ := info_parts infoB
      have HFo := Aside0.mk (fun W : World => enc_Fold.calls x.f1 (foldI x.f1) W rfl)
      obtain ⟨N, hN⟩ : ∃ N, N = numL (foldI x.f1).toNat := ⟨_, rfl⟩
      have HNx : Aside0 (∀ W : World, Calls Tryz.prog 55 #[.int .u64 (foldI x.f1)] W fun e w' => ∃ v, e = .returned v ∧ w'.ownsRow W.heap.size 5 1 v N.length (nums .u8 N) ∧ Below W.heap.size W w') := ⟨fun W => by
        have hf := foldI_range x.f1
        have h := num_calls (foldI x.f1).toNat (by omega) W
        rw [show (((foldI x.f1).toNat : Nat) : Int) = foldI x.f1 by omega, ← hN] at h
        exact h⟩
      have HTEN : Aside0 (N.length ≤ 10) := ⟨by rw [hN]; exact numL_ten (by have := foldI_range x.f1; omega)⟩
      have HPOS : Aside0 (0 < N.length) := ⟨by rw [hN]; exact numL_pos _⟩
      have HCB : Aside0 (ctrB x = [x.f0].flatMap textL ++ N) := ⟨by rw [hN]; rfl⟩
      clear hN
      obtain ⟨out2, hout2⟩ : ∃ out2, out2 = out ++ pre ++ [x.f0].flatMap textL := ⟨_, rfl⟩
      rw [← hout2] at hv ho
      have HL2 : Aside0 (out2.length ≤ 5000000) := ⟨by
        rw [hout2]
        have h1 := textL_short HSX.out
        have := HL0.out
        have := HLEN.out
        simp only [List.length_append, List.flatMap_cons, List.flatMap_nil, List.append_nil] at *
        omega⟩
      have HO2 := Aside0.mk hout2
      have hcv : V3.cell? ⟨w.heap.size + 1, 0, none⟩ = some (.slice A out2.length c) := blk_cell hv 0
      have hc1 : V3.cell? ⟨wr.heap.size, 1, none⟩ = some (.int .i64 x.f1) := blk_cell C3.out 1
      have HVx := Aside0.mk hv
      have HOx := Aside0.mk ho
      clear hv ho HV3 hout2
      go_region_law (first
        | (go_simp; go_at_call 56; (with_reducible refine (HFo.out _).mono ?_); rintro e V4 ⟨rfl, hd4⟩; have hb4 := drawn_below hd4; have HV4 := Aside0.mk (blk_below (blk_drew HVx.out) hb4); have HO4 := Aside0.mk (pw_own_below (own_drew HOx.out) hb4); have HB4 := Aside0.mk (below_step (below_drew HB3.out) hb4); have hcv4 : V4.cell? ⟨w.heap.size + 1, 0, none⟩ = some (.slice A out2.length c) := blk_cell HV4.out 0; clear hb4 hd4)
        | (go_simp; go_at_call 55; (with_reducible refine (HNx.out _).mono ?_); rintro e V5 ⟨vn, rfl, hon, hbn⟩; obtain ⟨ad5, cn, rfl, hnews⟩ := own_news hon HPOS.out; have HNEWS := Aside0.mk hnews; have HV5 := Aside0.mk (blk_below HV4.out hbn); have HO5 := Aside0.mk (pw_own_below HO4.out hbn); have HB5 := Aside0.mk (below_step HB4.out hbn); have hcv5 : V5.cell? ⟨w.heap.size + 1, 0, none⟩ = some (.slice A out2.length c) := blk_cell HV5.out 0; clear hon hbn hnews)
        | (refine step_append_lies _ rfl (.tmp 34) (.tmp 38) 37 rfl W1.heap.size 5 i0 (.int .u8 0) 1 1 Tryz.underlying37 hi hz0 hz1 hz2 (by rfl) (by decide) (.slice A out2.length c) out2.length (nums .u8 out2) (by simp [Act.eval, Act.put]) HO5.out ad5 N.length cn (nums .u8 N) (by simp [Act.eval, Act.put]) (by simp [nums]) HNEWS.out (nums_one _) HPOS.out (by have := HL2.out; have := HTEN.out; unfold maxLen; omega) (by have := HL2.out; have := HTEN.out; omega) HB5.out.size _ rfl ?_; intro g2 cap2 V6 ho6 hg6 _ _; have hne := own_ne HO5.out HV5.out (by decide); have HV6 := Aside0.mk ((hg6.block _ (blk_lt HV5.out) hne).trans HV5.out); have HO6 := Aside0.mk ho6; have HB6 := Aside0.mk (HB5.out.grown hg6 HB5.out.size (own_base HO5.out)); have hcv6 : V6.cell? ⟨w.heap.size + 1, 0, none⟩ = some (.slice A out2.length c) := blk_cell HV6.out 0; have hfv6 := blk_frozen HV6.out 0; clear ho6 hg6 hne))
      all_goals
        have HV7 := Aside0.mk (blk_set HV6.out 0 (.slice (some ⟨g2, 0, none⟩) (out2.length + N.length) cap2))
        simp only [List.setIfInBounds_toArray, List.set_cons_zero] at HV7
        have HO7 := Aside0.mk (own_set HO6.out HV6.out (by decide) 0 (.slice (some ⟨g2, 0, none⟩) (out2.length + N.length) cap2))
        have HB7 := Aside0.mk (below_set (j := 0) (v := .slice (some ⟨g2, 0, none⟩) (out2.length + N.length) cap2) HB6.out HSZ.out)
        have HW7 : Aside0 (Wr W1 (w.heap.size + 1) (out2 ++ N) _) := ⟨_, HV7.out, own_app HO7.out⟩
        have HE : Aside0 (out2 ++ N = out ++ (l0_0.take (k + 1)).flatMap ctrB) := ⟨by rw [HO2.out, HT.out, HCB.out]; simp only [List.append_assoc]⟩
        rw [HE.out] at HW7
        clear HV7 HO7 HV6 HO6 HB6 HVx HOx HV4 HO4 HB4 HV5 HO5 HB5 HNEWS HE HT HLEN HTEN HPOS hcv hcv4 hcv5 hcv6 hfv6 hc1 HNx HFo HV C3 HCB HO2 HL2 HB3 HB
        go_wp2
        go_roundw
        case rel => exact ⟨k + 1, by omega, by go_num, HW7, HB7⟩
        case measure => simp [intOf]; omega
    · have hkl : k = l0_0.length := by omega
      subst hkl
      have HF := HV.out
      rw [List.take_length] at HF
      have HV := Aside0.mk HF
      clear HF
      have HL0 : Aside0 ((([] ++ [(l0_0.length : Int)].flatMap numI) ++ l0_0.flatMap ctrB).length ≤ 4001000) := ⟨by
        have h1 := numI_ten (l0_0.length : Int)
        have h2 := flat_lenS ctrB l0_0 (fun x hx => ctrB_len (HS0.out.2 x hx))
        have h3 := HS0.out.1
        simp only [List.length_append, List.flatMap_cons, List.flatMap_nil, List.append_nil, List.nil_append]
        omega⟩
      revert HV HL0
      generalize hoA : (([] ++ [(l0_0.length : Int)].flatMap numI) ++ l0_0.flatMap ctrB) = outA
      intro HV HL0
      have HOA := Aside0.mk hoA
      clear hoA
      obtain ⟨s0, s1, s2⟩ := cells3 (blk_below HS.out HB.out)
      go_wp2_with fail
      have hz2 := blk_new wr (.cells #[.int .i64 (l0_1.length : Int)] 3)
      have hg0 : wr.heap.size ≠ w.heap.size + 1 := by obtain ⟨_, h, _⟩ := HV.out; have := blk_lt h; omega
      refine (numbers_calls W1 (w.heap.size + 1) wr.heap.size [(l0_1.length : Int)] outA _ (below_alloc HB.out _) HSZ.out (HV.out.below (below_alloc (Below.refl _ wr) _)) hz2 (by have := HL0.out; simp; omega) hg0).mono ?_
      rintro e V1 ⟨rfl, hV1, hBV1, _⟩
      have HV1 := Aside0.mk hV1
      have HB1 := Aside0.mk hBV1
      clear hV1 hBV1 hz2 hg0 HV HB s0 s1 s2
      obtain ⟨s0, s1, s2⟩ := cells3 (blk_below HS.out HB1.out)
      go_wp2_with fail
      go_loopw [52] (fun i wr => ∃ k : Nat, k ≤ l0_1.length ∧ i = .int .i64 k ∧ Aside0 (Wr W1 (w.heap.size + 1) ((outA ++ [(l0_1.length : Int)].flatMap numI) ++ (l0_1.take k).flatMap regB) wr) ∧ Aside0 (Below W1.heap.size W1 wr)) (fun i _ => l0_1.length - (intOf i).toNat)
      case atStart => exact ⟨0, Nat.zero_le _, rfl, ⟨by simpa using HV1.out⟩, HB1⟩
      case round =>
        clear HV1 HB1 s0 s1 s2
        obtain ⟨k, hk, rfl, HV, HB⟩ := hrel
        have hn0 : l0_1.length ≤ 1000 := HS1.out.1
        by_cases hlt : k < l0_1.length
        · have hk0 : (0 : Int) ≤ (k : Int) := Int.natCast_nonneg _
          have hk1 : (k : Int) < (l0_1.length : Int) := by omega
          obtain ⟨ad, e, hy0, hy1, hy2, hy3, hy4⟩ := at_T47 HC1.out (k : Int) hk0 hk1
          cases e
          have HBw := below_step HW1.out HB.out
          replace hy0 := (HBw.cell (World.block_lt_of_cell? w _ hy0)).trans hy0
          replace hy1 := (HBw.cell (World.block_lt_of_cell? w _ hy1)).trans hy1
          replace hy2 := (HBw.cell (World.block_lt_of_cell? w _ hy2)).trans hy2
          replace hy3 := (HBw.cell (World.block_lt_of_cell? w _ hy3)).trans hy3
          replace hy4 := (HBw.cell (World.block_lt_of_cell? w _ hy4)).trans hy4
          simp only [Int.toNat_natCast, add_plain] at hy0 hy1 hy2 hy3 hy4
          have hrd : rd_T47 l0_1 (k : Int) = l0_1[k] := by simp [rd_T47, List.getD_eq_getElem?_getD, hlt]
          have HT := Aside0.mk (flat_snocS regB l0_1 k hlt)
          have HLEN := Aside0.mk (flat_takeS regB l0_1 k (fun x hx => regB_len (HS1.out.2 x hx)) hk)
          have HSX := Aside0.mk (HS1.out.2 _ (List.getElem_mem hlt))
          rw [hrd] at hy0 hy1 hy2 hy3 hy4
          clear hrd HBw
          revert HV hy0 hy1 hy2 hy3 hy4 HT HLEN HSX
          generalize (l0_1.take k).flatMap regB = pre
          generalize l0_1[k] = x
          intro HV hy0 hy1 hy2 hy3 hy4 HT HLEN HSX
          have HL0b : Aside0 ((outA ++ [(l0_1.length : Int)].flatMap numI).length ≤ 4001010) := ⟨by have h1 := numI_ten (l0_1.length : Int); have h2 := HL0.out; simp only [List.length_append, List.flatMap_cons, List.flatMap_nil, List.append_nil] at *; omega⟩
          revert HV HL0b
          generalize hout : (outA ++ [(l0_1.length : Int)].flatMap numI) = out
          intro HV HL0b
          have HOUT := Aside0.mk hout
          clear hout
          go_wp2_with (first
            | (refine wpl_store_newA 47 wr _ [.string x.f0, .string x.f1, .int .i64 x.f2, .int .i64 x.f3.f0, .int .i64 x.f3.f1] (by simp [Value.oneCell']) info_r (by rfl) (by rfl) (by rfl) _ _ (by rfl) (by rfl) (by rfl) ?_; intro V2 hb2 hB2 hs2; have c20 : V2.cell? ⟨wr.heap.size, 0, none⟩ = some (.string x.f0) := blk_cell hb2 0; have c21 : V2.cell? ⟨wr.heap.size, 1, none⟩ = some (.string x.f1) := blk_cell hb2 1; have C2 := Aside0.mk hb2; have HV2 := Aside0.mk (HV.out.below hB2); have HBr2 := Aside0.mk (below_step HB.out hB2); clear hb2 hB2 hs2; go_frame)
            | fail)
          have hz3 := blk_new V2 (.cells #[.string x.f0, .string x.f1] 9)
          have hC3 := blk_alloc C2.out (.cells #[.string x.f0, .string x.f1] 9)
          have hcb : wr.heap.size ≠ w.heap.size + 1 := by obtain ⟨_, h, _⟩ := HV.out; have := blk_lt h; omega
          have hgb : V2.heap.size ≠ w.heap.size + 1 := by obtain ⟨_, h, _⟩ := HV2.out; have := blk_lt h; omega
          refine (texts_calls W1 (w.heap.size + 1) V2.heap.size [x.f0, x.f1] (out ++ pre) _ (by intro s hs; rcases List.mem_cons.1 hs with rfl | hs; exact HSX.out.1; rw [List.mem_singleton.1 hs]; exact HSX.out.2) (below_alloc HBr2.out _) HSZ.out (HV2.out.below (below_alloc (Below.refl _ V2) _)) hz3 (by have := HL0b.out; have := HLEN.out; simp; omega) hgb).mono ?_
          rintro e V3 ⟨rfl, hV3, hB3, hK3⟩
          have C3 := Aside0.mk (hK3 _ _ _ hC3 (by decide) hcb)
          have HV3 := Aside0.mk hV3
          have HB3 := Aside0.mk hB3
          clear hz3 hC3 hgb hV3 hB3 hK3 c20 c21 C2 HV2 HBr2 hy0 hy1 hy2 hy3 hy4
          have c32 : V3.cell? ⟨wr.heap.size, 2, none⟩ = some (.int .i64 x.f2) := blk_cell C3.out 2
          have c33 : V3.cell? ⟨wr.heap.size, 3, none⟩ = some (.int .i64 x.f3.f0) := blk_cell C3.out 3
          have c34 : V3.cell? ⟨wr.heap.size, 4, none⟩ = some (.int .i64 x.f3.f1) := blk_cell C3.out 4
          go_wp2_with fail
          have hz4 := blk_new V3 (.cells #[.int .i64 x.f2, .int .i64 x.f3.f0, .int .i64 x.f3.f1] 3)
          have hg4 : V3.heap.size ≠ w.heap.size + 1 := by obtain ⟨_, h, _⟩ := HV3.out; have := blk_lt h; omega
          refine (numbers_calls W1 (w.heap.size + 1) V3.heap.size [x.f2, x.f3.f0, x.f3.f1] (out ++ pre ++ [x.f0, x.f1].flatMap textL) _ (below_alloc HB3.out _) HSZ.out (HV3.out.below (below_alloc (Below.refl _ V3) _)) hz4 (by have h1 := textL_short HSX.out.1; have h2 := textL_short HSX.out.2; have := HL0b.out; have := HLEN.out; simp only [List.length_append, List.flatMap_cons, List.flatMap_nil, List.append_nil, List.length_cons, List.length_nil] at *; omega) hg4).mono ?_
          rintro e V5 ⟨rfl, hV5, hB5, _⟩
          have HW7 : Aside0 (Wr W1 (w.heap.size + 1) (out ++ (l0_1.take (k + 1)).flatMap regB) V5) := ⟨by rw [HT.out, show regB x = [x.f0, x.f1].flatMap textL ++ [x.f2, x.f3.f0, x.f3.f1].flatMap numI from rfl]; simpa only [List.append_assoc] using hV5⟩
          have HB7 := Aside0.mk hB5
          clear hV5 hB5 hz4 hg4 HV3 HB3 C3 HV HB HT HLEN c32 c33 c34
          go_wp2
          go_roundw
          case rel => exact ⟨k + 1, by omega, by go_num, HW7, HB7⟩
          case measure => simp [intOf]; omega
        · have hkl : k = l0_1.length := by omega
          subst hkl
          have HF := HV.out
          rw [List.take_length] at HF
          have HV := Aside0.mk HF
          clear HF
          have HL0' : Aside0 ((outA ++ [(l0_1.length : Int)].flatMap numI ++ l0_1.flatMap regB).length ≤ 9000000) := ⟨by
            have h1 := numI_ten (l0_1.length : Int)
            have h2 := flat_lenS regB l0_1 (fun x hx => regB_len (HS1.out.2 x hx))
            have h3 := HS1.out.1
            have h4 := HL0.out
            simp only [List.length_append, List.flatMap_cons, List.flatMap_nil, List.append_nil]
            omega⟩
          clear HL0
          revert HV HL0'
          generalize hoB : (outA ++ [(l0_1.length : Int)].flatMap numI ++ l0_1.flatMap regB) = outB
          intro HV HL0
          have HOB := Aside0.mk hoB
          clear hoB
          obtain ⟨s0, s1, s2⟩ := cells3 (blk_below HS.out HB.out)
          go_wp2_with fail
          have hz2 := blk_new wr (.cells #[.int .i64 (l0_2.length : Int)] 3)
          have hg0 : wr.heap.size ≠ w.heap.size + 1 := by obtain ⟨_, h, _⟩ := HV.out; have := blk_lt h; omega
          refine (numbers_calls W1 (w.heap.size + 1) wr.heap.size [(l0_2.length : Int)] outB _ (below_alloc HB.out _) HSZ.out (HV.out.below (below_alloc (Below.refl _ wr) _)) hz2 (by have := HL0.out; simp; omega) hg0).mono ?_
          rintro e V1 ⟨rfl, hV1, hBV1, _⟩
          have HV1 := Aside0.mk hV1
          have HB1 := Aside0.mk hBV1
          clear hV1 hBV1 hz2 hg0 HV HB s0 s1 s2
          obtain ⟨s0, s1, s2⟩ := cells3 (blk_below HS.out HB1.out)
          go_wp2_with fail
          go_loopw [84] (fun i wr => ∃ k : Nat, k ≤ l0_2.length ∧ i = .int .i64 k ∧ Aside0 (Wr W1 (w.heap.size + 1) ((outB ++ [(l0_2.length : Int)].flatMap numI) ++ (l0_2.take k).flatMap pairB) wr) ∧ Aside0 (Below W1.heap.size W1 wr)) (fun i _ => l0_2.length - (intOf i).toNat)
          case atStart => exact ⟨0, Nat.zero_le _, rfl, ⟨by simpa using HV1.out⟩, HB1⟩
          case round =>
            clear HV1 HB1 s0 s1 s2
            obtain ⟨k, hk, rfl, HV, HB⟩ := hrel
            have hn0 : l0_2.length ≤ 1000 := HS2.out.1
            by_cases hlt : k < l0_2.length
            · have hk0 : (0 : Int) ≤ (k : Int) := Int.natCast_nonneg _
              have hk1 : (k : Int) < (l0_2.length : Int) := by omega
              obtain ⟨ad, e, hy0, hy1, hy2, hy3⟩ := at_T43 HC2.out (k : Int) hk0 hk1
              cases e
              have HBw := below_step HW1.out HB.out
              replace hy0 := (HBw.cell (World.block_lt_of_cell? w _ hy0)).trans hy0
              replace hy1 := (HBw.cell (World.block_lt_of_cell? w _ hy1)).trans hy1
              replace hy2 := (HBw.cell (World.block_lt_of_cell? w _ hy2)).trans hy2
              replace hy3 := (HBw.cell (World.block_lt_of_cell? w _ hy3)).trans hy3
              simp only [Int.toNat_natCast, add_plain] at hy0 hy1 hy2 hy3
              have hrd : rd_T43 l0_2 (k : Int) = l0_2[k] := by simp [rd_T43, List.getD_eq_getElem?_getD, hlt]
              have HT := Aside0.mk (flat_snocS pairB l0_2 k hlt)
              have HLEN := Aside0.mk (flat_takeS pairB l0_2 k (fun x hx => pairB_len (HS2.out.2 x hx)) hk)
              have HSX := Aside0.mk (HS2.out.2 _ (List.getElem_mem hlt))
              rw [hrd] at hy0 hy1 hy2 hy3
              clear hrd HBw
              revert HV hy0 hy1 hy2 hy3 HT HLEN HSX
              generalize (l0_2.take k).flatMap pairB = pre
              generalize l0_2[k] = x
              intro HV hy0 hy1 hy2 hy3 HT HLEN HSX
              have HL0b : Aside0 ((outB ++ [(l0_2.length : Int)].flatMap numI).length ≤ 9000010) := ⟨by have h1 := numI_ten (l0_2.length : Int); have h2 := HL0.out; simp only [List.length_append, List.flatMap_cons, List.flatMap_nil, List.append_nil] at *; omega⟩
              revert HV HL0b
              generalize hout : (outB ++ [(l0_2.length : Int)].flatMap numI) = out
              intro HV HL0b
              have HOUT := Aside0.mk hout
              clear hout
              go_wp2_with (first
                | (refine wpl_store_newA 43 wr _ [.string x.f0, .string x.f1, .int .i64 x.f2.f0, .int .i64 x.f2.f1] (by simp [Value.oneCell']) info_p (by rfl) (by rfl) (by rfl) _ _ (by rfl) (by rfl) (by rfl) ?_; intro V2 hb2 hB2 hs2; have c20 : V2.cell? ⟨wr.heap.size, 0, none⟩ = some (.string x.f0) := blk_cell hb2 0; have c21 : V2.cell? ⟨wr.heap.size, 1, none⟩ = some (.string x.f1) := blk_cell hb2 1; have C2 := Aside0.mk hb2; have HV2 := Aside0.mk (HV.out.below hB2); have HBr2 := Aside0.mk (below_step HB.out hB2); clear hb2 hB2 hs2; go_frame)
                | fail)
              have hz3 := blk_new V2 (.cells #[.string x.f0, .string x.f1] 9)
              have hC3 := blk_alloc C2.out (.cells #[.string x.f0, .string x.f1] 9)
              have hcb : wr.heap.size ≠ w.heap.size + 1 := by obtain ⟨_, h, _⟩ := HV.out; have := blk_lt h; omega
              have hgb : V2.heap.size ≠ w.heap.size + 1 := by obtain ⟨_, h, _⟩ := HV2.out; have := blk_lt h; omega
              refine (texts_calls W1 (w.heap.size + 1) V2.heap.size [x.f0, x.f1] (out ++ pre) _ (by intro s hs; rcases List.mem_cons.1 hs with rfl | hs; exact HSX.out.1; rw [List.mem_singleton.1 hs]; exact HSX.out.2) (below_alloc HBr2.out _) HSZ.out (HV2.out.below (below_alloc (Below.refl _ V2) _)) hz3 (by have := HL0b.out; have := HLEN.out; simp; omega) hgb).mono ?_
              rintro e V3 ⟨rfl, hV3, hB3, hK3⟩
              have C3 := Aside0.mk (hK3 _ _ _ hC3 (by decide) hcb)
              have HV3 := Aside0.mk hV3
              have HB3 := Aside0.mk hB3
              clear hz3 hC3 hgb hV3 hB3 hK3 c20 c21 C2 HV2 HBr2 hy0 hy1 hy2 hy3
              have c32 : V3.cell? ⟨wr.heap.size, 2, none⟩ = some (.int .i64 x.f2.f0) := blk_cell C3.out 2
              have c33 : V3.cell? ⟨wr.heap.size, 3, none⟩ = some (.int .i64 x.f2.f1) := blk_cell C3.out 3
              go_wp2_with fail
              have hz4 := blk_new V3 (.cells #[.int .i64 x.f2.f0, .int .i64 x.f2.f1] 3)
              have hg4 : V3.heap.size ≠ w.heap.size + 1 := by obtain ⟨_, h, _⟩ := HV3.out; have := blk_lt h; omega
              refine (numbers_calls W1 (w.heap.size + 1) V3.heap.size [x.f2.f0, x.f2.f1] (out ++ pre ++ [x.f0, x.f1].flatMap textL) _ (below_alloc HB3.out _) HSZ.out (HV3.out.below (below_alloc (Below.refl _ V3) _)) hz4 (by have h1 := textL_short HSX.out.1; have h2 := textL_short HSX.out.2; have := HL0b.out; have := HLEN.out; simp only [List.length_append, List.flatMap_cons, List.flatMap_nil, List.append_nil, List.length_cons, List.length_nil] at *; omega) hg4).mono ?_
              rintro e V5 ⟨rfl, hV5, hB5, _⟩
              have HW7 : Aside0 (Wr W1 (w.heap.size + 1) (out ++ (l0_2.take (k + 1)).flatMap pairB) V5) := ⟨by rw [HT.out, show pairB x = [x.f0, x.f1].flatMap textL ++ [x.f2.f0, x.f2.f1].flatMap numI from rfl]; simpa only [List.append_assoc] using hV5⟩
              have HB7 := Aside0.mk hB5
              clear hV5 hB5 hz4 hg4 HV3 HB3 C3 HV HB HT HLEN c32 c33
              go_wp2
              go_roundw
              case rel => exact ⟨k + 1, by omega, by go_num, HW7, HB7⟩
              case measure => simp [intOf]; omega
            · have hkl : k = l0_2.length := by omega
              subst hkl
              have HF := HV.out
              rw [List.take_length] at HF
              have HV := Aside0.mk HF
              clear HF
              revert HV
              generalize hoC : (outB ++ [(l0_2.length : Int)].flatMap numI ++ l0_2.flatMap pairB) = outC
              intro HV
              have HOC := Aside0.mk hoC
              clear hoC
              obtain ⟨v, hv, ho⟩ := HV.out
              obtain ⟨A, c, rfl⟩ := own_slice ho
              have hcv : wr.cell? ⟨w.heap.size + 1, 0, none⟩ = some (.slice A _ c) := blk_cell hv 0
              have HO := Aside0.mk ho
              clear hv ho HV
              go_wp2
              go_ret
              refine ⟨_, rfl, ?_, below_then HW1.out (by have := HSZ.out; have := below_size HW1.out; omega) HB.out⟩
              rw [show putS l0_0 l0_1 l0_2 = outC by rw [← HOC.out, ← HOB.out, ← HOA.out]; rfl]
              exact Kd.R_of_own (own_less HO.out (below_size HW1.out)) (fun _ _ => trivial)
end Go.Proofs.YtmcddoolniaehaaGreat.S
end
section
namespace Go.Proofs.YtmcddoolniaehaaGreat.S
open Go.RowKit Go.Proofs.YtmcddoolniaehaaGreatW.PrintWords Go.Proofs.YtmcddoolniaehaaGreatW.PrintLast Go.Proofs.YtmcddoolniaehaaGreatW.PrintMore
attribute [local go_sem] max2_int min2_int max_two min_two max_three min_three max_four min_four   -- for this text's walks alone
set_option linter.unusedVariables false
set_option linter.unusedSimpArgs false

def law09_Few.f (k : Nat) (l0_0 : List (S73)) (l0_1 : List (S47)) (l0_2 : List (S43)) : Option (Bool) := (law06_Few.f k l0_0).bind fun t212 => ((law07_Few.f k l0_1).bind fun t213 => ((law08_Few.f k l0_2).bind fun t214 => (if t212 = true then (if t213 = true then (some t214) else (some false)) else (some false))))
theorem law09_Few.mono : ∀ a0 a1 a2 k, LeO (law09_Few.f k a0 a1 a2) (law09_Few.f (k + 1) a0 a1 a2) := by
 intro a0 a1 a2 k
 unfold law09_Few.f
 repeat' first
   | (with_reducible exact law06_Few.mono _ _)
   | (with_reducible exact law07_Few.mono _ _)
   | (with_reducible exact law08_Few.mono _ _)
   | (with_reducible exact LeO.refl _)
   | (with_reducible exact LeO.none _)
   | (with_reducible refine LeO.ite ?_ ?_)
   | (with_reducible refine LeO.bind ?_ (fun _ => ?_))
   | exact law06_Few.mono _ _
   | exact law07_Few.mono _ _
   | exact law08_Few.mono _ _
   | exact LeO.none _
   | refine LeO.ite ?_ ?_
   | refine LeO.bind ?_ (fun _ => ?_)
set_option maxHeartbeats 8000000 in
set_option maxRecDepth 100000 in
theorem law09_Few.calls (k : Nat) (A0_0 : Option Addr) (c0_0 : Nat) (l0_0 : List (S73)) (A0_1 : Option Addr) (c0_1 : Nat) (l0_1 : List (S47)) (A0_2 : Option Addr) (c0_2 : Nat) (l0_2 : List (S43)) (r : Bool) (w : World) (hr0_0 : Kd.C k73 w A0_0 l0_0.length l0_0) (hc0_0 : l0_0.length ≤ c0_0) (hr0_1 : Kd.C k47 w A0_1 l0_1.length l0_1) (hc0_1 : l0_1.length ≤ c0_1) (hr0_2 : Kd.C k43 w A0_2 l0_2.length l0_2) (hc0_2 : l0_2.length ≤ c0_2) (h : law09_Few.f k l0_0 l0_1 l0_2 = some r) :
  Calls Tryz.prog 10 #[.agg #[.slice A0_0 l0_0.length c0_0, .slice A0_1 l0_1.length c0_1, .slice A0_2 l0_2.length c0_2]] w fun e w' => e = .returned (.bool r) ∧ Below w.heap.size w w' := by
 have hu26 := Tryz.underlying26
 have HR0_0 := Aside0.mk hr0_0
 have HC0_0 := Aside0.mk hc0_0
 clear hr0_0 hc0_0
 have HR0_1 := Aside0.mk hr0_1
 have HC0_1 := Aside0.mk hc0_1
 clear hr0_1 hc0_1
 have HR0_2 := Aside0.mk hr0_2
 have HC0_2 := Aside0.mk hc0_2
 clear hr0_2 hc0_2
 have HB := Aside0.mk (Below.refl w.heap.size w)
 have H : ((law06_Few.f k l0_0).bind fun t212 => ((law07_Few.f k l0_1).bind fun t213 => ((law08_Few.f k l0_2).bind fun t214 => (if t212 = true then (if t213 = true then (some t214) else (some false)) else (some false))))) = some r := h
 clear h
 replace H := Option.bind_eq_some_iff.mp H
 obtain ⟨t212, A20, H⟩ := H
 replace H : ((law07_Few.f k l0_1).bind fun t213 => ((law08_Few.f k l0_2).bind fun t214 => (if t212 = true then (if t213 = true then (some t214) else (some false)) else (some false)))) = some r := H
 have A2 := Aside0.mk A20
 clear A20
 replace H := Option.bind_eq_some_iff.mp H
 obtain ⟨t213, A30, H⟩ := H
 replace H : ((law08_Few.f k l0_2).bind fun t214 => (if t212 = true then (if t213 = true then (some t214) else (some false)) else (some false))) = some r := H
 have A3 := Aside0.mk A30
 clear A30
 replace H := Option.bind_eq_some_iff.mp H
 obtain ⟨t214, A40, H⟩ := H
 replace H : (if t212 = true then (if t213 = true then (some t214) else (some false)) else (some false)) = some r := H
 have A4 := Aside0.mk A40
 clear A40
 by_cases c5 : t212 = true
 ·subst c5
  have H1 : (if t213 = true then (some t214) else (some false)) = some r := by rw [if_pos rfl] at H; exact H
  clear H
  have H := H1
  clear H1
  by_cases c6 : t213 = true
  ·subst c6
   have H1 : (some t214) = some r := by rw [if_pos rfl] at H; exact H
   clear H
   have H := H1
   clear H1
   obtain rfl := Option.some.inj H
   go_enter Tryz.func10, Tryz.ntmps10
   go_wp2_with (first | ((with_reducible refine gate_dst (N := 1) rfl ?_); refine box_event ?hg (N := 1) ?hd (cs := #[.slice A0_0 l0_0.length c0_0, .slice A0_1 l0_1.length c0_1, .slice A0_2 l0_2.length c0_2]) (t := 26) ?hr ?_; (case hd => rfl); (case hg => rfl); (case hr => first | (go_simp; done) | (go_simp; rfl)); intro gb211 hg w7 hbox hb; have n0_ := Aside0.mk (below_step (by repeat (first | (with_reducible first | exact HB.out | apply below_alloc | apply pw_below_drewN | apply below_drew1) | exact HB.out)) hb); have n1_ := Aside0.mk (hbox); have n2_ := Aside0.mk ((by rw [hg]; exact (below_size (by repeat (first | (with_reducible first | exact HB.out | apply below_alloc | apply pw_below_drewN | apply below_drew1) | exact HB.out))) : w.heap.size ≤ gb211)); have n3_ := Aside0.mk ((by rw [hg]; exact (below_size (by repeat (first | (with_reducible first | exact HB.out | apply below_alloc | apply pw_below_drewN | apply below_drew1) | exact HB.out))) : w.heap.size ≤ gb211)); clear HB; have HB := n0_; have BK211 := n1_; have GW211 := n2_; have GE211 := n3_; clear n0_ n1_ n2_ n3_; clear hb hbox hg; have hcz8_0 : w7.cell? ⟨gb211, 0, none⟩ = some (.slice A0_0 l0_0.length c0_0) := (blk_cell BK211.out 0).trans rfl; have hcz8_1 : w7.cell? ⟨gb211, 1, none⟩ = some (.slice A0_1 l0_1.length c0_1) := (blk_cell BK211.out 1).trans rfl; have hcz8_2 : w7.cell? ⟨gb211, 2, none⟩ = some (.slice A0_2 l0_2.length c0_2) := (blk_cell BK211.out 2).trans rfl; have hfz8_0 := blk_frozen BK211.out 0; have hfz8_1 := blk_frozen BK211.out 1; have hfz8_2 := blk_frozen BK211.out 2) | ((with_reducible refine gate_callee (f := 24) rfl ?_); refine goesL_ (some 8) rfl rfl Tryz.func24 (by kernel_rfl) rfl #[.slice A0_0 l0_0.length c0_0] rfl (by (try simp only [List.map_toArray, List.map_cons, List.map_nil]); first | done | rfl | (simp only [List.length_drop, List.length_take]; rfl)) ?_; (with_reducible refine (law06_Few.calls k _ _ l0_0 true _ ?side1 ?side2 A2.out).mono ?_); (case side1 => repeat (first | exact (Kd.C_below HR0_0.out HB.out) | (with_reducible refine Kd.C_alloc ?_ _) | (with_reducible refine Kd.C_drewN ?_ _) | (with_reducible refine Kd.C_drew ?_))); (case side2 => exact HC0_0.out); rintro e w' ⟨rfl, ⟨nd, rfl⟩⟩; refine ⟨_, rfl, ?_⟩) | ((with_reducible refine gate_callee (f := 25) rfl ?_); refine goesL_ (some 11) rfl rfl Tryz.func25 (by kernel_rfl) rfl #[.slice A0_1 l0_1.length c0_1] rfl (by (try simp only [List.map_toArray, List.map_cons, List.map_nil]); first | done | rfl | (simp only [List.length_drop, List.length_take]; rfl)) ?_; (with_reducible refine (law07_Few.calls k _ _ l0_1 true _ ?side1 ?side2 A3.out).mono ?_); (case side1 => repeat (first | exact (Kd.C_below HR0_1.out (by repeat (first | (with_reducible first | exact HB.out | apply below_alloc | apply pw_below_drewN | apply below_drew1 | refine below_set ?_ GE211.out) | exact HB.out))) | (with_reducible refine Kd.C_alloc ?_ _) | (with_reducible refine Kd.C_drewN ?_ _) | (with_reducible refine Kd.C_drew ?_))); (case side2 => exact HC0_1.out); rintro e w' ⟨rfl, ⟨nd, rfl⟩⟩; refine ⟨_, rfl, ?_⟩) | ((with_reducible refine gate_callee (f := 26) rfl ?_); refine goesL_ (some 14) rfl rfl Tryz.func26 (by kernel_rfl) rfl #[.slice A0_2 l0_2.length c0_2] rfl (by (try simp only [List.map_toArray, List.map_cons, List.map_nil]); first | done | rfl | (simp only [List.length_drop, List.length_take]; rfl)) ?_; (with_reducible refine (law08_Few.calls k _ _ l0_2 t214 _ ?side1 ?side2 A4.out).mono ?_); (case side1 => repeat (first | exact (Kd.C_below HR0_2.out (by repeat (first | (with_reducible first | exact HB.out | apply below_alloc | apply pw_below_drewN | apply below_drew1 | refine below_set ?_ GE211.out) | exact HB.out))) | (with_reducible refine Kd.C_alloc ?_ _) | (with_reducible refine Kd.C_drewN ?_ _) | (with_reducible refine Kd.C_drew ?_))); (case side2 => exact HC0_2.out); rintro e w' ⟨rfl, ⟨nd, rfl⟩⟩; refine ⟨_, rfl, ?_⟩))
   go_ret
   exact ⟨by first | rfl | (simp [errW_none, errW_some] <;> rfl) | (simp [*, errW_none, errW_some] <;> rfl), by repeat (first | (with_reducible first | exact HB.out | apply below_alloc | apply pw_below_drewN | apply below_drew1 | refine below_set ?_ GE211.out) | exact HB.out)⟩
  ·replace c6 := Bool.eq_false_iff.mpr c6
   subst c6
   have H1 : (some false) = some r := by rw [if_neg (show ¬ (false = true) by decide)] at H; exact H
   clear H
   have H := H1
   clear H1
   obtain rfl := Option.some.inj H
   go_enter Tryz.func10, Tryz.ntmps10
   go_wp2_with (first | ((with_reducible refine gate_dst (N := 1) rfl ?_); refine box_event ?hg (N := 1) ?hd (cs := #[.slice A0_0 l0_0.length c0_0, .slice A0_1 l0_1.length c0_1, .slice A0_2 l0_2.length c0_2]) (t := 26) ?hr ?_; (case hd => rfl); (case hg => rfl); (case hr => first | (go_simp; done) | (go_simp; rfl)); intro gb211 hg w9 hbox hb; have n0_ := Aside0.mk (below_step (by repeat (first | (with_reducible first | exact HB.out | apply below_alloc | apply pw_below_drewN | apply below_drew1) | exact HB.out)) hb); have n1_ := Aside0.mk (hbox); have n2_ := Aside0.mk ((by rw [hg]; exact (below_size (by repeat (first | (with_reducible first | exact HB.out | apply below_alloc | apply pw_below_drewN | apply below_drew1) | exact HB.out))) : w.heap.size ≤ gb211)); have n3_ := Aside0.mk ((by rw [hg]; exact (below_size (by repeat (first | (with_reducible first | exact HB.out | apply below_alloc | apply pw_below_drewN | apply below_drew1) | exact HB.out))) : w.heap.size ≤ gb211)); clear HB; have HB := n0_; have BK211 := n1_; have GW211 := n2_; have GE211 := n3_; clear n0_ n1_ n2_ n3_; clear hb hbox hg; have hcz10_0 : w9.cell? ⟨gb211, 0, none⟩ = some (.slice A0_0 l0_0.length c0_0) := (blk_cell BK211.out 0).trans rfl; have hcz10_1 : w9.cell? ⟨gb211, 1, none⟩ = some (.slice A0_1 l0_1.length c0_1) := (blk_cell BK211.out 1).trans rfl; have hcz10_2 : w9.cell? ⟨gb211, 2, none⟩ = some (.slice A0_2 l0_2.length c0_2) := (blk_cell BK211.out 2).trans rfl; have hfz10_0 := blk_frozen BK211.out 0; have hfz10_1 := blk_frozen BK211.out 1; have hfz10_2 := blk_frozen BK211.out 2) | ((with_reducible refine gate_callee (f := 24) rfl ?_); refine goesL_ (some 8) rfl rfl Tryz.func24 (by kernel_rfl) rfl #[.slice A0_0 l0_0.length c0_0] rfl (by (try simp only [List.map_toArray, List.map_cons, List.map_nil]); first | done | rfl | (simp only [List.length_drop, List.length_take]; rfl)) ?_; (with_reducible refine (law06_Few.calls k _ _ l0_0 true _ ?side1 ?side2 A2.out).mono ?_); (case side1 => repeat (first | exact (Kd.C_below HR0_0.out HB.out) | (with_reducible refine Kd.C_alloc ?_ _) | (with_reducible refine Kd.C_drewN ?_ _) | (with_reducible refine Kd.C_drew ?_))); (case side2 => exact HC0_0.out); rintro e w' ⟨rfl, ⟨nd, rfl⟩⟩; refine ⟨_, rfl, ?_⟩) | ((with_reducible refine gate_callee (f := 25) rfl ?_); refine goesL_ (some 11) rfl rfl Tryz.func25 (by kernel_rfl) rfl #[.slice A0_1 l0_1.length c0_1] rfl (by (try simp only [List.map_toArray, List.map_cons, List.map_nil]); first | done | rfl | (simp only [List.length_drop, List.length_take]; rfl)) ?_; (with_reducible refine (law07_Few.calls k _ _ l0_1 false _ ?side1 ?side2 A3.out).mono ?_); (case side1 => repeat (first | exact (Kd.C_below HR0_1.out (by repeat (first | (with_reducible first | exact HB.out | apply below_alloc | apply pw_below_drewN | apply below_drew1 | refine below_set ?_ GE211.out) | exact HB.out))) | (with_reducible refine Kd.C_alloc ?_ _) | (with_reducible refine Kd.C_drewN ?_ _) | (with_reducible refine Kd.C_drew ?_))); (case side2 => exact HC0_1.out); rintro e w' ⟨rfl, ⟨nd, rfl⟩⟩; refine ⟨_, rfl, ?_⟩) | ((with_reducible refine gate_callee (f := 26) rfl ?_); refine goesL_ (some 14) rfl rfl Tryz.func26 (by kernel_rfl) rfl #[.slice A0_2 l0_2.length c0_2] rfl (by (try simp only [List.map_toArray, List.map_cons, List.map_nil]); first | done | rfl | (simp only [List.length_drop, List.length_take]; rfl)) ?_; (with_reducible refine (law08_Few.calls k _ _ l0_2 t214 _ ?side1 ?side2 A4.out).mono ?_); (case side1 => repeat (first | exact (Kd.C_below HR0_2.out (by repeat (first | (with_reducible first | exact HB.out | apply below_alloc | apply pw_below_drewN | apply below_drew1 | refine below_set ?_ GE211.out) | exact HB.out))) | (with_reducible refine Kd.C_alloc ?_ _) | (with_reducible refine Kd.C_drewN ?_ _) | (with_reducible refine Kd.C_drew ?_))); (case side2 => exact HC0_2.out); rintro e w' ⟨rfl, ⟨nd, rfl⟩⟩; refine ⟨_, rfl, ?_⟩))
   go_ret
   exact ⟨by first | rfl | (simp [errW_none, errW_some] <;> rfl) | (simp [*, errW_none, errW_some] <;> rfl), by repeat (first | (with_reducible first | exact HB.out | apply below_alloc | apply pw_below_drewN | apply below_drew1 | refine below_set ?_ GE211.out) | exact HB.out)⟩
 ·replace c5 := Bool.eq_false_iff.mpr c5
  subst c5
  have H1 : (some false) = some r := by rw [if_neg (show ¬ (false = true) by decide)] at H; exact H
  clear H
  have H := H1
  clear H1
  obtain rfl := Option.some.inj H
  go_enter Tryz.func10, Tryz.ntmps10
  go_wp2_with (first | ((with_reducible refine gate_dst (N := 1) rfl ?_); refine box_event ?hg (N := 1) ?hd (cs := #[.slice A0_0 l0_0.length c0_0, .slice A0_1 l0_1.length c0_1, .slice A0_2 l0_2.length c0_2]) (t := 26) ?hr ?_; (case hd => rfl); (case hg => rfl); (case hr => first | (go_simp; done) | (go_simp; rfl)); intro gb211 hg w11 hbox hb; have n0_ := Aside0.mk (below_step (by repeat (first | (with_reducible first | exact HB.out | apply below_alloc | apply pw_below_drewN | apply below_drew1) | exact HB.out)) hb); have n1_ := Aside0.mk (hbox); have n2_ := Aside0.mk ((by rw [hg]; exact (below_size (by repeat (first | (with_reducible first | exact HB.out | apply below_alloc | apply pw_below_drewN | apply below_drew1) | exact HB.out))) : w.heap.size ≤ gb211)); have n3_ := Aside0.mk ((by rw [hg]; exact (below_size (by repeat (first | (with_reducible first | exact HB.out | apply below_alloc | apply pw_below_drewN | apply below_drew1) | exact HB.out))) : w.heap.size ≤ gb211)); clear HB; have HB := n0_; have BK211 := n1_; have GW211 := n2_; have GE211 := n3_; clear n0_ n1_ n2_ n3_; clear hb hbox hg; have hcz12_0 : w11.cell? ⟨gb211, 0, none⟩ = some (.slice A0_0 l0_0.length c0_0) := (blk_cell BK211.out 0).trans rfl; have hcz12_1 : w11.cell? ⟨gb211, 1, none⟩ = some (.slice A0_1 l0_1.length c0_1) := (blk_cell BK211.out 1).trans rfl; have hcz12_2 : w11.cell? ⟨gb211, 2, none⟩ = some (.slice A0_2 l0_2.length c0_2) := (blk_cell BK211.out 2).trans rfl; have hfz12_0 := blk_frozen BK211.out 0; have hfz12_1 := blk_frozen BK211.out 1; have hfz12_2 := blk_frozen BK211.out 2) | ((with_reducible refine gate_callee (f := 24) rfl ?_); refine goesL_ (some 8) rfl rfl Tryz.func24 (by kernel_rfl) rfl #[.slice A0_0 l0_0.length c0_0] rfl (by (try simp only [List.map_toArray, List.map_cons, List.map_nil]); first | done | rfl | (simp only [List.length_drop, List.length_take]; rfl)) ?_; (with_reducible refine (law06_Few.calls k _ _ l0_0 false _ ?side1 ?side2 A2.out).mono ?_); (case side1 => repeat (first | exact (Kd.C_below HR0_0.out HB.out) | (with_reducible refine Kd.C_alloc ?_ _) | (with_reducible refine Kd.C_drewN ?_ _) | (with_reducible refine Kd.C_drew ?_))); (case side2 => exact HC0_0.out); rintro e w' ⟨rfl, ⟨nd, rfl⟩⟩; refine ⟨_, rfl, ?_⟩) | ((with_reducible refine gate_callee (f := 25) rfl ?_); refine goesL_ (some 11) rfl rfl Tryz.func25 (by kernel_rfl) rfl #[.slice A0_1 l0_1.length c0_1] rfl (by (try simp only [List.map_toArray, List.map_cons, List.map_nil]); first | done | rfl | (simp only [List.length_drop, List.length_take]; rfl)) ?_; (with_reducible refine (law07_Few.calls k _ _ l0_1 t213 _ ?side1 ?side2 A3.out).mono ?_); (case side1 => repeat (first | exact (Kd.C_below HR0_1.out (by repeat (first | (with_reducible first | exact HB.out | apply below_alloc | apply pw_below_drewN | apply below_drew1 | refine below_set ?_ GE211.out) | exact HB.out))) | (with_reducible refine Kd.C_alloc ?_ _) | (with_reducible refine Kd.C_drewN ?_ _) | (with_reducible refine Kd.C_drew ?_))); (case side2 => exact HC0_1.out); rintro e w' ⟨rfl, ⟨nd, rfl⟩⟩; refine ⟨_, rfl, ?_⟩) | ((with_reducible refine gate_callee (f := 26) rfl ?_); refine goesL_ (some 14) rfl rfl Tryz.func26 (by kernel_rfl) rfl #[.slice A0_2 l0_2.length c0_2] rfl (by (try simp only [List.map_toArray, List.map_cons, List.map_nil]); first | done | rfl | (simp only [List.length_drop, List.length_take]; rfl)) ?_; (with_reducible refine (law08_Few.calls k _ _ l0_2 t214 _ ?side1 ?side2 A4.out).mono ?_); (case side1 => repeat (first | exact (Kd.C_below HR0_2.out (by repeat (first | (with_reducible first | exact HB.out | apply below_alloc | apply pw_below_drewN | apply below_drew1 | refine below_set ?_ GE211.out) | exact HB.out))) | (with_reducible refine Kd.C_alloc ?_ _) | (with_reducible refine Kd.C_drewN ?_ _) | (with_reducible refine Kd.C_drew ?_))); (case side2 => exact HC0_2.out); rintro e w' ⟨rfl, ⟨nd, rfl⟩⟩; refine ⟨_, rfl, ?_⟩))
  go_ret
  exact ⟨by first | rfl | (simp [errW_none, errW_some] <;> rfl) | (simp [*, errW_none, errW_some] <;> rfl), by repeat (first | (with_reducible first | exact HB.out | apply below_alloc | apply pw_below_drewN | apply below_drew1 | refine below_set ?_ GE211.out) | exact HB.out)⟩

end Go.Proofs.YtmcddoolniaehaaGreat.S
end
section
namespace Go.Proofs.YtmcddoolniaehaaGreat.S
open Go.RowKit Go.Proofs.YtmcddoolniaehaaGreatW.PrintWords Go.Proofs.YtmcddoolniaehaaGreatW.PrintLast Go.Proofs.YtmcddoolniaehaaGreatW.PrintMore Go.Proofs.YtmcddoolniaehaaGreatW
set_option linter.unusedVariables false
set_option linter.unusedSimpArgs false
section
variable {ops : Array Oper} {rest : List Oper} {op : Oper} {a : Act} {w : World} {Q : Exit → Act → World → Prop}
theorem ld_st {cs : List Value} {s : St} {b : Nat} (H : Aside0 (w.heap[b]? = some (.cells cs.toArray 26 (0, 0)))) (N : Aside0 (StV w cs s)) (hgd : op.guard = none) (x : Operand) (ho : op.op = .load 26 x) (hx : a.eval x = .pointer (some ⟨b, 0, none⟩))
    (h : wpList Tryz.prog ops Q rest (a.put op.dst (.agg cs.toArray)) w) : wpList Tryz.prog ops Q (op :: rest) a w :=
  wpList_load_mid hgd 26 x ho b 0 hx cs _ (range_of_blk (t := 26) H.out) Tryz.underlying26 rfl (by rw [N.out.len]; exact info_state) h
theorem ld_on {cs : List Value} {s : St} {b : Nat} (H : Aside0 (w.heap[b]? = some (.cells cs.toArray 26 (0, 0)))) (N : Aside0 (StV w cs s)) (hw : Region.wanted op (yielded ops a.tmps) = true) (x : Operand) (ho : op.op = .load 26 x) (hx : a.eval x = .pointer (some ⟨b, 0, none⟩))
    (h : wpList Tryz.prog ops Q rest (a.put op.dst (.agg cs.toArray)) w) : wpList Tryz.prog ops Q (op :: rest) a w :=
  wpl_load_on hw 26 x ho b 0 hx cs _ (range_of_blk (t := 26) H.out) Tryz.underlying26 rfl (by rw [N.out.len]; exact info_state) h
theorem info_opS : (Tryz.prog.info? 28).map (·.size) = some 4 := by kernel_rfl
theorem info_evS : (Tryz.prog.info? 30).map (·.size) = some 2 := by kernel_rfl
theorem cells4S {w : World} {g t : Nat} {v0 v1 v2 v3 : Value} (h : w.heap[g]? = some (.cells #[v0, v1, v2, v3] t (0, 0))) : w.cell? ⟨g, 0, none⟩ = some v0 ∧ w.cell? ⟨g, 1, none⟩ = some v1 ∧ w.cell? ⟨g, 2, none⟩ = some v2 ∧ w.cell? ⟨g, 3, none⟩ = some v3 := ⟨blk_cell h 0, blk_cell h 1, blk_cell h 2, blk_cell h 3⟩
theorem ld_op {k n : Int} {x y : ByteArray} {b : Nat} (H : Aside0 (w.heap[b]? = some (.cells #[.int .i64 k, .string x, .string y, .int .i64 n] 28 (0, 0)))) (hgd : op.guard = none) (z : Operand) (ho : op.op = .load 28 z) (hx : a.eval z = .pointer (some ⟨b, 0, none⟩))
    (h : wpList Tryz.prog ops Q rest (a.put op.dst (.agg #[.int .i64 k, .string x, .string y, .int .i64 n])) w) : wpList Tryz.prog ops Q (op :: rest) a w :=
  wpList_load_mid hgd 28 z ho b 0 hx [.int .i64 k, .string x, .string y, .int .i64 n] _ (range_of_blk (t := 28) H.out) Tryz.underlying28 rfl info_opS h
theorem ld_ev {k n : Int} {b : Nat} (H : Aside0 (w.heap[b]? = some (.cells #[.int .i64 k, .int .i64 n] 30 (0, 0)))) (hgd : op.guard = none) (z : Operand) (ho : op.op = .load 30 z) (hx : a.eval z = .pointer (some ⟨b, 0, none⟩))
    (h : wpList Tryz.prog ops Q rest (a.put op.dst (.agg #[.int .i64 k, .int .i64 n])) w) : wpList Tryz.prog ops Q (op :: rest) a w :=
  wpList_load_mid hgd 30 z ho b 0 hx [.int .i64 k, .int .i64 n] _ (range_of_blk (t := 30) H.out) Tryz.underlying30 rfl info_evS h
theorem sv_st {w0 : World} {cs : List Value} {s : St} (N : Aside0 (StV w0 cs s)) (hw : w = w0.alloc (.cells #[.slice none 0 0, .slice none 0 0, .slice none 0 0] 26)) (hgd : op.guard = none) (x y : Operand) (ho : op.op = .store 26 x y)
    (hx : a.eval x = .pointer (some ⟨w0.heap.size, 0, none⟩)) (hy : a.eval y = .agg cs.toArray)
    (h : ∀ W1 : World, W1.heap[w0.heap.size]? = some (.cells cs.toArray 26 (0, 0)) → Below w0.heap.size w0 W1 → W1.heap.size = w0.heap.size + 1 → wpList Tryz.prog ops Q rest (a.put op.dst undef) W1) : wpList Tryz.prog ops Q (op :: rest) a w :=
  wpl_store_newA 26 w0 _ cs N.out.one (by rw [N.out.len]; exact info_state) hw (by rw [N.out.len]; rfl) hgd x y ho hx hy h
end
noncomputable def sameS (a b : St) : Bool := eqB a.c b.c && (eqB a.r b.r && eqB a.p b.p)
theorem sameS_iff {a b : St} : sameS a b = true ↔ a = b := by
  unfold sameS
  simp only [Bool.and_eq_true, eqB_iff]
  obtain ⟨a0, a1, a2⟩ := a
  obtain ⟨b0, b1, b2⟩ := b
  simp
theorem same_calls {W : World} {cs ds : List Value} {a b : St} (hv : StV W cs a) (hw : StV W ds b) (h : FitS 1000 a) : Calls Tryz.prog 20 #[.agg cs.toArray, .agg ds.toArray] W fun e w' => e = .returned (.bool (sameS a b)) ∧ Below W.heap.size W w' := by
  obtain ⟨A0, c0, A1, c1, A2, c2, rfl, h1, h2, h3, h4, h5, h6⟩ := hv
  obtain ⟨B0, d0, B1, d1, B2, d2, rfl, g1, g2, g3, g4, g5, g6⟩ := hw
  refine state_Same.calls 1010 A0 c0 a.c A1 c1 a.r A2 c2 a.p B0 d0 b.c B1 d1 b.r B2 d2 b.p _ W h1 h2 h3 h4 h5 h6 g1 g2 g3 g4 g5 g6 ?_
  obtain ⟨⟨l0, l1, l2⟩, _⟩ := h
  unfold state_Same.f sameS
  rw [eqC_f 1010 a.c b.c (by omega) (by omega), Option.bind_some]
  cases eqB a.c b.c with
  | false => rfl
  | true =>
    rw [if_pos rfl, eqR_f 1010 a.r b.r (by omega) (by omega), Option.bind_some]
    cases eqB a.r b.r with
    | false => rfl
    | true => rw [if_pos rfl, eqP_f 1010 a.p b.p (by omega) (by omega)]; rfl
def fewS (s : St) : Bool := fewC s.c && (fewB s.r && fewP s.p)
theorem few_calls {W : World} {cs : List Value} {s : St} (hv : StV W cs s) : Calls Tryz.prog 10 #[.agg cs.toArray] W fun e w' => e = .returned (.bool (fewS s)) ∧ Below W.heap.size W w' := by
  obtain ⟨A0, c0, A1, c1, A2, c2, rfl, h1, h2, h3, h4, h5, h6⟩ := hv
  refine law09_Few.calls 40 A0 c0 s.c A1 c1 s.r A2 c2 s.p _ W h1 h2 h3 h4 h5 h6 ?_
  unfold law09_Few.f fewS
  rw [fewC_f 40 s.c (by omega), Option.bind_some, few_f 40 s.r (by omega), Option.bind_some, fewP_f 40 s.p (by omega), Option.bind_some]
  cases fewC s.c <;> cases fewB s.r <;> rfl
theorem few_fit {s : St} (h : fewS s = true) (ho : okL s.p) : FitS 30 s := by
  unfold fewS at h
  simp only [Bool.and_eq_true] at h
  exact ⟨⟨fewC_len h.1, few_len h.2.1, fewP_len h.2.2⟩, fewC_size h.1, few_all h.2.1, ho⟩
theorem merge_fit {n : Nat} {base a b : St} (fl : FitS n base) (fa : FitS n a) (fb : FitS n b) : FitS (n + n + n) (mergeS base a b).1 := by
  unfold mergeS
  split
  · obtain ⟨⟨l0, l1, l2⟩, k0, k1, k2⟩ := fl
    obtain ⟨⟨m0, m1, m2⟩, n0, n1, n2⟩ := fa
    obtain ⟨⟨p0, p1, p2⟩, q0, q1, q2⟩ := fb
    have h0 := mergeC_len base.c a.c b.c
    have h1 := mergeO_len a.r b.r
    have h2 := mergeP_len base.p a.p b.p
    exact ⟨⟨by show (mergeC base.c a.c b.c).length ≤ _; omega, by show (mergeO a.r b.r).length ≤ _; omega, by show (mergeP base.p a.p b.p).length ≤ _; omega⟩, mergeC_kS _ _ _, mergeO_small n1 q1, mergeP_ok n2 q2⟩
  · exact ⟨⟨by simp [noS], by simp [noS], by simp [noS]⟩, fun x hx => by simp [noS] at hx, fun x hx => by simp [noS] at hx, fun x hx => by simp [noS] at hx⟩
end Go.Proofs.YtmcddoolniaehaaGreat.S
end
