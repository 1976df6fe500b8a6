/- Several of the walk's texts in one: SHPut, SHSFew, SSt, SSRow, SSd. -/
import Derived.OpenShut
import Derived.Maps.RangeWalk
import Derived.BigQuiet
import Derived.Test.YtmcddoolniaehaaGreatMD04
import Derived.Test.YtmcddoolniaehaaGreatMD05
import Derived.Test.YtmcddoolniaehaaGreatMD13
import Derived.Test.YtmcddoolniaehaaGreatMD16
import Derived.Test.YtmcddoolniaehaaGreatMD18
import Derived.Test.YtmcddoolniaehaaGreatMD19
section
namespace Go.Proofs.YtmcddoolniaehaaGreat.S
open Go.RowKit Go.Proofs.YtmcddoolniaehaaGreatW.PrintWords Go.Proofs.YtmcddoolniaehaaGreatW.PrintLast Go.Proofs.YtmcddoolniaehaaGreatW.PrintMore Go.Proofs.YtmcddoolniaehaaGreatW
set_option linter.unusedVariables false
set_option linter.unusedSimpArgs false
def foldI (a : Int) : Int := Go.bits .xor .u64 (IntKind.u64.wrap ((IntKind.u64.wrap a) * 2)) (IntKind.u64.wrap (a / 9223372036854775808))
theorem foldI_range (a : Int) : 0 ≤ foldI a ∧ foldI a < 18446744073709551616 := by
  have h := wf_bits .xor .u64 (IntKind.u64.wrap ((IntKind.u64.wrap a) * 2)) (IntKind.u64.wrap (a / 9223372036854775808))
  simp [Lit.wf, IntKind.min, IntKind.max, IntKind.signed, IntKind.bits] at h
  unfold foldI
  omega
def ctrB (c : S73) : List Int := [c.f0].flatMap textL ++ numL (foldI c.f1).toNat
def regB (r : S47) : List Int := [r.f0, r.f1].flatMap textL ++ [r.f2, r.f3.f0, r.f3.f1].flatMap numI
def pairB (p : S43) : List Int := [p.f0, p.f1].flatMap textL ++ [p.f2.f0, p.f2.f1].flatMap numI
def shortC (l : List S73) : Prop := l.length ≤ 1000 ∧ ∀ c ∈ l, c.f0.size ≤ 1000
def shortR (l : List S47) : Prop := l.length ≤ 1000 ∧ ∀ c ∈ l, c.f0.size ≤ 1000 ∧ c.f1.size ≤ 1000
def shortP (l : List S43) : Prop := l.length ≤ 1000 ∧ ∀ c ∈ l, c.f0.size ≤ 1000 ∧ c.f1.size ≤ 1000
instance (l : List S73) : Decidable (shortC l) := by unfold shortC; infer_instance
instance (l : List S47) : Decidable (shortR l) := by unfold shortR; infer_instance
instance (l : List S43) : Decidable (shortP l) := by unfold shortP; infer_instance
def putS (l0 : List S73) (l1 : List S47) (l2 : List S43) : List Int :=
  ((((([] ++ [(l0.length : Int)].flatMap numI) ++ l0.flatMap ctrB) ++ [(l1.length : Int)].flatMap numI) ++ l1.flatMap regB) ++ [(l2.length : Int)].flatMap numI) ++ l2.flatMap pairB
def state_Put.f (l0_0 : List (S73)) (l0_1 : List (S47)) (l0_2 : List (S43)) : Option (List Int) :=
  if shortC l0_0 ∧ shortR l0_1 ∧ shortP l0_2 then some (putS l0_0 l0_1 l0_2) else none
theorem ctrB_len {c : S73} (h : c.f0.size ≤ 1000) : (ctrB c).length ≤ 4000 := by
  have h1 := textL_short h
  have h2 := numL_ten (n := (foldI c.f1).toNat) (by have := foldI_range c.f1; omega)
  simp only [ctrB, List.flatMap_cons, List.flatMap_nil, List.append_nil, List.length_append]
  omega
theorem regB_len {c : S47} (h : c.f0.size ≤ 1000 ∧ c.f1.size ≤ 1000) : (regB c).length ≤ 4000 := by
  have h1 := textL_short h.1
  have h2 := textL_short h.2
  have h3 := numI_ten c.f2
  have h4 := numI_ten c.f3.f0
  have h5 := numI_ten c.f3.f1
  simp only [regB, List.flatMap_cons, List.flatMap_nil, List.append_nil, List.length_append]
  omega
theorem pairB_len {c : S43} (h : c.f0.size ≤ 1000 ∧ c.f1.size ≤ 1000) : (pairB c).length ≤ 4000 := by
  have h1 := textL_short h.1
  have h2 := textL_short h.2
  have h4 := numI_ten c.f2.f0
  have h5 := numI_ten c.f2.f1
  simp only [pairB, List.flatMap_cons, List.flatMap_nil, List.append_nil, List.length_append]
  omega
theorem info_c : (Tryz.prog.info? 73).map (·.size) = some 2 := by kernel_rfl
theorem info_r : (Tryz.prog.info? 47).map (·.size) = some 5 := by kernel_rfl
theorem info_p : (Tryz.prog.info? 43).map (·.size) = some 4 := by kernel_rfl
theorem flat_lenS {α : Type} (f : α → List Int) : ∀ (l : List α), (∀ x ∈ l, (f x).length ≤ 4000) → (l.flatMap f).length ≤ 4000 * l.length
  | [], _ => by simp
  | x :: l, h => by
    have h1 := flat_lenS f l (fun s hs => h s (List.mem_cons_of_mem _ hs))
    have h2 := h x List.mem_cons_self
    rw [List.flatMap_cons, List.length_append, List.length_cons]
    omega
theorem flat_takeS {α : Type} (f : α → List Int) (l : List α) (k : Nat) (h : ∀ x ∈ l, (f x).length ≤ 4000) (hk : k ≤ l.length) : ((l.take k).flatMap f).length ≤ 4000 * k := by
  have := flat_lenS f (l.take k) (fun x hx => h x (List.mem_of_mem_take hx))
  rw [List.length_take] at this
  omega
theorem flat_snocS {α : Type} (f : α → List Int) (l : List α) (k : Nat) (h : k < l.length) : (l.take (k + 1)).flatMap f = (l.take k).flatMap f ++ f l[k] := by
  rw [List.take_succ_eq_append_getElem h, List.flatMap_append]; simp
set_option maxHeartbeats 4000000 in
set_option maxRecDepth 100000 in
theorem state_Put.calls (A0_0 : Option Addr) (c0_0 : Nat) (l0_0 : List (S73)) (A0_1 : Option Addr) (c0_1 : Nat) (l0_1 : List (S47)) (A0_2 : Option Addr) (c0_2 : Nat) (l0_2 : List (S43)) (r : List Int) (w : World) (hr0_0 : Kd.C k73 w A0_0 l0_0.length l0_0) (hc0_0 : l0_0.length ≤ c0_0) (hr0_1 : Kd.C k47 w A0_1 l0_1.length l0_1) (hc0_1 : l0_1.length ≤ c0_1) (hr0_2 : Kd.C k43 w A0_2 l0_2.length l0_2) (hc0_2 : l0_2.length ≤ c0_2) (h : state_Put.f l0_0 l0_1 l0_2 = some r) :
    Calls Tryz.prog 16 #[.agg #[.slice A0_0 l0_0.length c0_0, .slice A0_1 l0_1.length c0_1, .slice A0_2 l0_2.length c0_2]] w fun e w' => ∃ v0_ : Value, e = .returned (v0_) ∧ Kd.R (Kd.int .u8) 5 w' w.heap.size (fun _ => True) v0_ r ∧ Below w.heap.size w w' := by
  unfold state_Put.f at h
  split at h
  case isFalse => cases h
  case isTrue hh =>
  cases h
  obtain ⟨hs0, hs1, hs2⟩ := hh
  have HC0 := Aside0.mk hr0_0
  have HC1 := Aside0.mk hr0_1
  have HC2 := Aside0.mk hr0_2
  have HS0 := Aside0.mk hs0
  have HS1 := Aside0.mk hs1
  have HS2 := Aside0.mk hs2
  clear hr0_0 hr0_1 hr0_2 hs0 hs1 hs2
  go_enter Tryz.func16, Tryz.ntmps16
  go_wp2_with fail
  have hS1 := blk_new w (.cells #[.slice A0_0 l0_0.length c0_0, .slice A0_1 l0_1.length c0_1, .slice A0_2 l0_2.length c0_2] 26)
  have hb1 := below_alloc (Below.refl w.heap.size w) (.cells #[.slice A0_0 l0_0.length c0_0, .slice A0_1 l0_1.length c0_1, .slice A0_2 l0_2.length c0_2] 26)
  have hsz : (w.alloc (.cells #[.slice A0_0 l0_0.length c0_0, .slice A0_1 l0_1.length c0_1, .slice A0_2 l0_2.length c0_2] 26)).heap.size = w.heap.size + 1 := by simp
  revert hS1 hb1 hsz
  generalize w.alloc (.cells #[.slice A0_0 l0_0.length c0_0, .slice A0_1 l0_1.length c0_1, .slice A0_2 l0_2.length c0_2] 26) = W1
  intro hS1 hb1 hsz
  have hw2 := blk_new W1 (.cells #[.slice none 0 0] 70)
  have hx2 := blk_new (W1.alloc (.cells #[.slice none 0 0] 70)) (.cells #[.int .i64 (l0_0.length : Int)] 3)
  rw [hsz] at hw2
  rw [World.size_alloc, hsz] at hx2
  have hW2 : Wr W1 (w.heap.size + 1) [] ((W1.alloc (.cells #[.slice none 0 0] 70)).alloc (.cells #[.int .i64 (l0_0.length : Int)] 3)) := ⟨_, blk_alloc hw2 _, own_nil _ _ _ _⟩
  have hB2 := below_alloc (below_alloc (Below.refl W1.heap.size W1) (.cells #[.slice none 0 0] 70)) (.cells #[.int .i64 (l0_0.length : Int)] 3)
  have HS := Aside0.mk hS1
  have HW1 := Aside0.mk hb1
  have HSZ := Aside0.mk (show W1.heap.size ≤ w.heap.size + 1 by omega)
  clear hS1 hb1
  refine (numbers_calls W1 (w.heap.size + 1) (w.heap.size + 1 + 1) [(l0_0.length : Int)] [] _ hB2 HSZ.out hW2 hx2 (by simp) (by omega)).mono ?_
  rintro e V1 ⟨rfl, hV1, hBV1, _⟩
  have HV := Aside0.mk hV1
  have HB := Aside0.mk hBV1
  clear hV1 hBV1 hw2 hx2 hW2 hB2 hsz
  obtain ⟨s0, s1, s2⟩ := cells3 (blk_below HS.out HB.out)
  go_wp2_with fail
  go_loopw [21] (fun i wr => ∃ k : Nat, k ≤ l0_0.length ∧ i = .int .i64 k ∧ Aside0 (Wr W1 (w.heap.size + 1) (([] ++ [(l0_0.length : Int)].flatMap numI) ++ (l0_0.take k).flatMap ctrB) wr) ∧ Aside0 (Below W1.heap.size W1 wr)) (fun i _ => l0_0.length - (intOf i).toNat)
  case atStart => exact ⟨0, Nat.zero_le _, rfl, ⟨by simpa using HV.out⟩, HB⟩
  case round =>
    clear HV HB s0 s1 s2
    obtain ⟨k, hk, rfl, HV, HB⟩ := hrel
    have hn0 : l0_0.length ≤ 1000 := HS0.out.1
    by_cases hlt : k < l0_0.length
    · have hk0 : (0 : Int) ≤ (k : Int) := Int.natCast_nonneg _
      have hk1 : (k : Int) < (l0_0.length : Int) := by omega
      obtain ⟨ad, e, hx0, hx1⟩ := at_T73 HC0.out (k : Int) hk0 hk1
      cases e
      have HBw := below_step HW1.out HB.out
      replace hx0 := (HBw.cell (World.block_lt_of_cell? w _ hx0)).trans hx0
      replace hx1 := (HBw.cell (World.block_lt_of_cell? w _ hx1)).trans hx1
      simp only [Int.toNat_natCast, add_plain] at hx0 hx1
      have hrd : rd_T73 l0_0 (k : Int) = l0_0[k] := by simp [rd_T73, List.getD_eq_getElem?_getD, hlt]
      have HT := Aside0.mk (flat_snocS ctrB l0_0 k hlt)
      have HLEN := Aside0.mk (flat_takeS ctrB l0_0 k (fun x hx => ctrB_len (HS0.out.2 x hx)) hk)
      have HSX := Aside0.mk (HS0.out.2 _ (List.getElem_mem hlt))
      rw [hrd] at hx0 hx1
      clear hrd HBw
      revert HV hx0 hx1 HT HLEN HSX
      generalize (l0_0.take k).flatMap ctrB = pre
      generalize l0_0[k] = x
      intro HV hx0 hx1 HT HLEN HSX
      have HL0 : Aside0 (([] ++ [(l0_0.length : Int)].flatMap numI).length ≤ 10) := ⟨by have := numI_ten (l0_0.length : Int); simpa using this⟩
      revert HV HL0
      generalize hout : ([] ++ [(l0_0.length : Int)].flatMap numI) = out
      intro HV HL0
      have HOUT := Aside0.mk hout
      clear hout
      go_wp2_with (first
        | (refine wpl_store_newA 73 wr _ [.string x.f0, .int .i64 x.f1] (by simp [Value.oneCell']) info_c (by rfl) (by rfl) (by rfl) _ _ (by rfl) (by rfl) (by rfl) ?_; intro V2 hb2 hB2 hs2; have c20 : V2.cell? ⟨wr.heap.size, 0, none⟩ = some (.string x.f0) := blk_cell hb2 0; have C2 := Aside0.mk hb2; have HV2 := Aside0.mk (HV.out.below hB2); have HBr2 := Aside0.mk (below_step HB.out hB2); clear hb2 hB2 hs2; go_frame)
        | fail)
      have hx3 := blk_new V2 (.cells #[.string x.f0] 9)
      have hC3 := blk_alloc C2.out (.cells #[.string x.f0] 9)
      have hcb : wr.heap.size ≠ w.heap.size + 1 := by have := HV.out; obtain ⟨_, h, _⟩ := this; have := blk_lt h; omega
      have hgb : V2.heap.size ≠ w.heap.size + 1 := by obtain ⟨_, h, _⟩ := HV2.out; have := blk_lt h; omega
      refine (texts_calls W1 (w.heap.size + 1) V2.heap.size [x.f0] (out ++ pre) _ (by intro s hs; rw [List.mem_singleton.1 hs]; exact HSX.out) (below_alloc HBr2.out _) HSZ.out (HV2.out.below (below_alloc (Below.refl _ V2) _)) hx3 (by have := HL0.out; have := HLEN.out; simp; omega) hgb).mono ?_
      rintro e V3 ⟨rfl, hV3, hB3, hK3⟩
      have C3 := Aside0.mk (hK3 _ _ _ hC3 (by decide) hcb)
      have HV3 := Aside0.mk hV3
      have HB3 := Aside0.mk hB3
      clear hx3 hC3 hgb hV3 hB3 hK3 c20 C2 HV2 HBr2 hx0 hx1
      go_wp2_with fail
      obtain ⟨v, hv, ho⟩ := HV3.out
      obtain ⟨A, c, rfl⟩ := own_slice ho
      obtain ⟨i0, hi, hz0, hz1, hz2⟩ := info_parts infoB
      have HFo := Aside0.mk (fun W : World => enc_Fold.calls x.f1 (foldI x.f1) W rfl)
      obtain ⟨N, hN⟩ : ∃ N, N = numL (foldI x.f1).toNat := ⟨_, rfl⟩
      have HNx : Aside0 (∀ W : World, Calls Tryz.prog 55 #[.int .u64 (foldI x.f1)] W fun e w' => ∃ v, e = .returned v ∧ w'.ownsRow W.heap.size 5 1 v N.length (nums .u8 N) ∧ Below W.heap.size W w') := ⟨fun W => by
        have hf := foldI_range x.f1
        have h := num_calls (foldI x.f1).toNat (by omega) W
        rw [show (((foldI x.f1).toNat : Nat) : Int) = foldI x.f1 by omega, ← hN] at h
        exact h⟩
      have HTEN : Aside0 (N.length ≤ 10) := ⟨by rw [hN]; exact numL_ten (by have := foldI_range x.f1; omega)⟩
      have HPOS : Aside0 (0 < N.length) := ⟨by rw [hN]; exact numL_pos _⟩
      have HCB : Aside0 (ctrB x = [x.f0].flatMap textL ++ N) := ⟨by rw [hN]; rfl⟩
      clear hN
      obtain ⟨out2, hout2⟩ : ∃ out2, out2 = out ++ pre ++ [x.f0].flatMap textL := ⟨_, rfl⟩
      rw [← hout2] at hv ho
      have HL2 : Aside0 (out2.length ≤ 5000000) := ⟨by
        rw [hout2]
        have h1 := textL_short HSX.out
        have := HL0.out
        have := HLEN.out
        simp only [List.length_append, List.flatMap_cons, List.flatMap_nil, List.append_nil] at *
        omega⟩
      have HO2 := Aside0.mk hout2
      have hcv : V3.cell? ⟨w.heap.size + 1, 0, none⟩ = some (.slice A out2.length c) := blk_cell hv 0
      have hc1 : V3.cell? ⟨wr.heap.size, 1, none⟩ = some (.int .i64 x.f1) := blk_cell C3.out 1
      have HVx := Aside0.mk hv
      have HOx := Aside0.mk ho
      clear hv ho HV3 hout2
      go_region_law (first
        | (go_simp; go_at_call 56; (with_reducible refine (HFo.out _).mono ?_); rintro e V4 ⟨rfl, hd4⟩; have hb4 := drawn_below hd4; have HV4 := Aside0.mk (blk_below (blk_drew HVx.out) hb4); have HO4 := Aside0.mk (pw_own_below (own_drew HOx.out) hb4); have HB4 := Aside0.mk (below_step (below_drew HB3.out) hb4); have hcv4 : V4.cell? ⟨w.heap.size + 1, 0, none⟩ = some (.slice A out2.length c) := blk_cell HV4.out 0; clear hb4 hd4)
        | (go_simp; go_at_call 55; (with_reducible refine (HNx.out _).mono ?_); rintro e V5 ⟨vn, rfl, hon, hbn⟩; obtain ⟨ad5, cn, rfl, hnews⟩ := own_news hon HPOS.out; have HNEWS := Aside0.mk hnews; have HV5 := Aside0.mk (blk_below HV4.out hbn); have HO5 := Aside0.mk (pw_own_below HO4.out hbn); have HB5 := Aside0.mk (below_step HB4.out hbn); have hcv5 : V5.cell? ⟨w.heap.size + 1, 0, none⟩ = some (.slice A out2.length c) := blk_cell HV5.out 0; clear hon hbn hnews)
        | (refine step_append_lies _ rfl (.tmp 34) (.tmp 38) 37 rfl W1.heap.size 5 i0 (.int .u8 0) 1 1 Tryz.underlying37 hi hz0 hz1 hz2 (by rfl) (by decide) (.slice A out2.length c) out2.length (nums .u8 out2) (by simp [Act.eval, Act.put]) HO5.out ad5 N.length cn (nums .u8 N) (by simp [Act.eval, Act.put]) (by simp [nums]) HNEWS.out (nums_one _) HPOS.out (by have := HL2.out; have := HTEN.out; unfold maxLen; omega) (by have := HL2.out; have := HTEN.out; omega) HB5.out.size _ rfl ?_; intro g2 cap2 V6 ho6 hg6 _ _; have hne := own_ne HO5.out HV5.out (by decide); have HV6 := Aside0.mk ((hg6.block _ (blk_lt HV5.out) hne).trans HV5.out); have HO6 := Aside0.mk ho6; have HB6 := Aside0.mk (HB5.out.grown hg6 HB5.out.size (own_base HO5.out)); have hcv6 : V6.cell? ⟨w.heap.size + 1, 0, none⟩ = some (.slice A out2.length c) := blk_cell HV6.out 0; have hfv6 := blk_frozen HV6.out 0; clear ho6 hg6 hne))
      all_goals
        have HV7 := Aside0.mk (blk_set HV6.out 0 (.slice (some ⟨g2, 0, none⟩) (out2.length + N.length) cap2))
        simp only [List.setIfInBounds_toArray, List.set_cons_zero] at HV7
        have HO7 := Aside0.mk (own_set HO6.out HV6.out (by decide) 0 (.slice (some ⟨g2, 0, none⟩) (out2.length + N.length) cap2))
        have HB7 := Aside0.mk (below_set (j := 0) (v := .slice (some ⟨g2, 0, none⟩) (out2.length + N.length) cap2) HB6.out HSZ.out)
        have HW7 : Aside0 (Wr W1 (w.heap.size + 1) (out2 ++ N) _) := ⟨_, HV7.out, own_app HO7.out⟩
        have HE : Aside0 (out2 ++ N = out ++ (l0_0.take (k + 1)).flatMap ctrB) := ⟨by rw [HO2.out, HT.out, HCB.out]; simp only [List.append_assoc]⟩
        rw [HE.out] at HW7
        clear HV7 HO7 HV6 HO6 HB6 HVx HOx HV4 HO4 HB4 HV5 HO5 HB5 HNEWS HE HT HLEN HTEN HPOS hcv hcv4 hcv5 hcv6 hfv6 hc1 HNx HFo HV C3 HCB HO2 HL2 HB3 HB
        go_wp2
        go_roundw
        case rel => exact ⟨k + 1, by omega, by go_num, HW7, HB7⟩
        case measure => simp [intOf]; omega
    · have hkl : k = l0_0.length := by omega
      subst hkl
      have HF := HV.out
      rw [List.take_length] at HF
      have HV := Aside0.mk HF
      clear HF
      have HL0 : Aside0 ((([] ++ [(l0_0.length : Int)].flatMap numI) ++ l0_0.flatMap ctrB).length ≤ 4001000) := ⟨by
        have h1 := numI_ten (l0_0.length : Int)
        have h2 := flat_lenS ctrB l0_0 (fun x hx => ctrB_len (HS0.out.2 x hx))
        have h3 := HS0.out.1
        simp only [List.length_append, List.flatMap_cons, List.flatMap_nil, List.append_nil, List.nil_append]
        omega⟩
      revert HV HL0
      generalize hoA : (([] ++ [(l0_0.length : Int)].flatMap numI) ++ l0_0.flatMap ctrB) = outA
      intro HV HL0
      have HOA := Aside0.mk hoA
      clear hoA
      obtain ⟨s0, s1, s2⟩ := cells3 (blk_below HS.out HB.out)
      go_wp2_with fail
      have hz2 := blk_new wr (.cells #[.int .i64 (l0_1.length : Int)] 3)
      have hg0 : wr.heap.size ≠ w.heap.size + 1 := by obtain ⟨_, h, _⟩ := HV.out; have := blk_lt h; omega
      refine (numbers_calls W1 (w.heap.size + 1) wr.heap.size [(l0_1.length : Int)] outA _ (below_alloc HB.out _) HSZ.out (HV.out.below (below_alloc (Below.refl _ wr) _)) hz2 (by have := HL0.out; simp; omega) hg0).mono ?_
      rintro e V1 ⟨rfl, hV1, hBV1, _⟩
      have HV1 := Aside0.mk hV1
      have HB1 := Aside0.mk hBV1
      clear hV1 hBV1 hz2 hg0 HV HB s0 s1 s2
      obtain ⟨s0, s1, s2⟩ := cells3 (blk_below HS.out HB1.out)
      go_wp2_with fail
      go_loopw [52] (fun i wr => ∃ k : Nat, k ≤ l0_1.length ∧ i = .int .i64 k ∧ Aside0 (Wr W1 (w.heap.size + 1) ((outA ++ [(l0_1.length : Int)].flatMap numI) ++ (l0_1.take k).flatMap regB) wr) ∧ Aside0 (Below W1.heap.size W1 wr)) (fun i _ => l0_1.length - (intOf i).toNat)
      case atStart => exact ⟨0, Nat.zero_le _, rfl, ⟨by simpa using HV1.out⟩, HB1⟩
      case round =>
        clear HV1 HB1 s0 s1 s2
        obtain ⟨k, hk, rfl, HV, HB⟩ := hrel
        have hn0 : l0_1.length ≤ 1000 := HS1.out.1
        by_cases hlt : k < l0_1.length
        · have hk0 : (0 : Int) ≤ (k : Int) := Int.natCast_nonneg _
          have hk1 : (k : Int) < (l0_1.length : Int) := by omega
          obtain ⟨ad, e, hy0, hy1, hy2, hy3, hy4⟩ := at_T47 HC1.out (k : Int) hk0 hk1
          cases e
          have HBw := below_step HW1.out HB.out
          replace hy0 := (HBw.cell (World.block_lt_of_cell? w _ hy0)).trans hy0
          replace hy1 := (HBw.cell (World.block_lt_of_cell? w _ hy1)).trans hy1
          replace hy2 := (HBw.cell (World.block_lt_of_cell? w _ hy2)).trans hy2
          replace hy3 := (HBw.cell (World.block_lt_of_cell? w _ hy3)).trans hy3
          replace hy4 := (HBw.cell (World.block_lt_of_cell? w _ hy4)).trans hy4
          simp only [Int.toNat_natCast, add_plain] at hy0 hy1 hy2 hy3 hy4
          have hrd : rd_T47 l0_1 (k : Int) = l0_1[k] := by simp [rd_T47, List.getD_eq_getElem?_getD, hlt]
          have HT := Aside0.mk (flat_snocS regB l0_1 k hlt)
          have HLEN := Aside0.mk (flat_takeS regB l0_1 k (fun x hx => regB_len (HS1.out.2 x hx)) hk)
          have HSX := Aside0.mk (HS1.out.2 _ (List.getElem_mem hlt))
          rw [hrd] at hy0 hy1 hy2 hy3 hy4
          clear hrd HBw
          revert HV hy0 hy1 hy2 hy3 hy4 HT HLEN HSX
          generalize (l0_1.take k).flatMap regB = pre
          generalize l0_1[k] = x
          intro HV hy0 hy1 hy2 hy3 hy4 HT HLEN HSX
          have HL0b : Aside0 ((outA ++ [(l0_1.length : Int)].flatMap numI).length ≤ 4001010) := ⟨by have h1 := numI_ten (l0_1.length : Int); have h2 := HL0.out; simp only [List.length_append, List.flatMap_cons, List.flatMap_nil, List.append_nil] at *; omega⟩
          revert HV HL0b
          generalize hout : (outA ++ [(l0_1.length : Int)].flatMap numI) = out
          intro HV HL0b
          have HOUT := Aside0.mk hout
          clear hout
          go_wp2_with (first
            | (refine wpl_store_newA 47 wr _ [.string x.f0, .string x.f1, .int .i64 x.f2, .int .i64 x.f3.f0, .int .i64 x.f3.f1] (by simp [Value.oneCell']) info_r (by rfl) (by rfl) (by rfl) _ _ (by rfl) (by rfl) (by rfl) ?_; intro V2 hb2 hB2 hs2; have c20 : V2.cell? ⟨wr.heap.size, 0, none⟩ = some (.string x.f0) := blk_cell hb2 0; have c21 : V2.cell? ⟨wr.heap.size, 1, none⟩ = some (.string x.f1) := blk_cell hb2 1; have C2 := Aside0.mk hb2; have HV2 := Aside0.mk (HV.out.below hB2); have HBr2 := Aside0.mk (below_step HB.out hB2); clear hb2 hB2 hs2; go_frame)
            | fail)
          have hz3 := blk_new V2 (.cells #[.string x.f0, .string x.f1] 9)
          have hC3 := blk_alloc C2.out (.cells #[.string x.f0, .string x.f1] 9)
          have hcb : wr.heap.size ≠ w.heap.size + 1 := by obtain ⟨_, h, _⟩ := HV.out; have := blk_lt h; omega
          have hgb : V2.heap.size ≠ w.heap.size + 1 := by obtain ⟨_, h, _⟩ := HV2.out; have := blk_lt h; omega
          refine (texts_calls W1 (w.heap.size + 1) V2.heap.size [x.f0, x.f1] (out ++ pre) _ (by intro s hs; rcases List.mem_cons.1 hs with rfl | hs; exact HSX.out.1; rw [List.mem_singleton.1 hs]; exact HSX.out.2) (below_alloc HBr2.out _) HSZ.out (HV2.out.below (below_alloc (Below.refl _ V2) _)) hz3 (by have := HL0b.out; have := HLEN.out; simp; omega) hgb).mono ?_
          rintro e V3 ⟨rfl, hV3, hB3, hK3⟩
          have C3 := Aside0.mk (hK3 _ _ _ hC3 (by decide) hcb)
          have HV3 := Aside0.mk hV3
          have HB3 := Aside0.mk hB3
          clear hz3 hC3 hgb hV3 hB3 hK3 c20 c21 C2 HV2 HBr2 hy0 hy1 hy2 hy3 hy4
          have c32 : V3.cell? ⟨wr.heap.size, 2, none⟩ = some (.int .i64 x.f2) := blk_cell C3.out 2
          have c33 : V3.cell? ⟨wr.heap.size, 3, none⟩ = some (.int .i64 x.f3.f0) := blk_cell C3.out 3
          have c34 : V3.cell? ⟨wr.heap.size, 4, none⟩ = some (.int .i64 x.f3.f1) := blk_cell C3.out 4
          go_wp2_with fail
          have hz4 := blk_new V3 (.cells #[.int .i64 x.f2, .int .i64 x.f3.f0, .int .i64 x.f3.f1] 3)
          have hg4 : V3.heap.size ≠ w.heap.size + 1 := by obtain ⟨_, h, _⟩ := HV3.out; have := blk_lt h; omega
          refine (numbers_calls W1 (w.heap.size + 1) V3.heap.size [x.f2, x.f3.f0, x.f3.f1] (out ++ pre ++ [x.f0, x.f1].flatMap textL) _ (below_alloc HB3.out _) HSZ.out (HV3.out.below (below_alloc (Below.refl _ V3) _)) hz4 (by have h1 := textL_short HSX.out.1; have h2 := textL_short HSX.out.2; have := HL0b.out; have := HLEN.out; simp only [List.length_append, List.flatMap_cons, List.flatMap_nil, List.append_nil, List.length_cons, List.length_nil] at *; omega) hg4).mono ?_
          rintro e V5 ⟨rfl, hV5, hB5, _⟩
          have HW7 : Aside0 (Wr W1 (w.heap.size + 1) (out ++ (l0_1.take (k + 1)).flatMap regB) V5) := ⟨by rw [HT.out, show regB x = [x.f0, x.f1].flatMap textL ++ [x.f2, x.f3.f0, x.f3.f1].flatMap numI from rfl]; simpa only [List.append_assoc] using hV5⟩
          have HB7 := Aside0.mk hB5
          clear hV5 hB5 hz4 hg4 HV3 HB3 C3 HV HB HT HLEN c32 c33 c34
          go_wp2
          go_roundw
          case rel => exact ⟨k + 1, by omega, by go_num, HW7, HB7⟩
          case measure => simp [intOf]; omega
        · have hkl : k = l0_1.length := by omega
          subst hkl
          have HF := HV.out
          rw [List.take_length] at HF
          have HV := Aside0.mk HF
          clear HF
          have HL0' : Aside0 ((outA ++ [(l0_1.length : Int)].flatMap numI ++ l0_1.flatMap regB).length ≤ 9000000) := ⟨by
            have h1 := numI_ten (l0_1.length : Int)
            have h2 := flat_lenS regB l0_1 (fun x hx => regB_len (HS1.out.2 x hx))
            have h3 := HS1.out.1
            have h4 := HL0.out
            simp only [List.length_append, List.flatMap_cons, List.flatMap_nil, List.append_nil]
            omega⟩
          clear HL0
          revert HV HL0'
          generalize hoB : (outA ++ [(l0_1.length : Int)].flatMap numI ++ l0_1.flatMap regB) = outB
          intro HV HL0
          have HOB := Aside0.mk hoB
          clear hoB
          obtain ⟨s0, s1, s2⟩ := cells3 (blk_below HS.out HB.out)
          go_wp2_with fail
          have hz2 := blk_new wr (.cells #[.int .i64 (l0_2.length : Int)] 3)
          have hg0 : wr.heap.size ≠ w.heap.size + 1 := by obtain ⟨_, h, _⟩ := HV.out; have := blk_lt h; omega
          refine (numbers_calls W1 (w.heap.size + 1) wr.heap.size [(l0_2.length : Int)] outB _ (below_alloc HB.out _) HSZ.out (HV.out.below (below_alloc (Below.refl _ wr) _)) hz2 (by have := HL0.out; simp; omega) hg0).mono ?_
          rintro e V1 ⟨rfl, hV1, hBV1, _⟩
          have HV1 := Aside0.mk hV1
          have HB1 := Aside0.mk hBV1
          clear hV1 hBV1 hz2 hg0 HV HB s0 s1 s2
          obtain ⟨s0, s1, s2⟩ := cells3 (blk_below HS.out HB1.out)
          go_wp2_with fail
          go_loopw [84] (fun i wr => ∃ k : Nat, k ≤ l0_2.length ∧ i = .int .i64 k ∧ Aside0 (Wr W1 (w.heap.size + 1) ((outB ++ [(l0_2.length : Int)].flatMap numI) ++ (l0_2.take k).flatMap pairB) wr) ∧ Aside0 (Below W1.heap.size W1 wr)) (fun i _ => l0_2.length - (intOf i).toNat)
          case atStart => exact ⟨0, Nat.zero_le _, rfl, ⟨by simpa using HV1.out⟩, HB1⟩
          case round =>
            clear HV1 HB1 s0 s1 s2
            obtain ⟨k, hk, rfl, HV, HB⟩ := hrel
            have hn0 : l0_2.length ≤ 1000 := HS2.out.1
            by_cases hlt : k < l0_2.length
            · have hk0 : (0 : Int) ≤ (k : Int) := Int.natCast_nonneg _
              have hk1 : (k : Int) < (l0_2.length : Int) := by omega
              obtain ⟨ad, e, hy0, hy1, hy2, hy3⟩ := at_T43 HC2.out (k : Int) hk0 hk1
              cases e
              have HBw := below_step HW1.out HB.out
              replace hy0 := (HBw.cell (World.block_lt_of_cell? w _ hy0)).trans hy0
              replace hy1 := (HBw.cell (World.block_lt_of_cell? w _ hy1)).trans hy1
              replace hy2 := (HBw.cell (World.block_lt_of_cell? w _ hy2)).trans hy2
              replace hy3 := (HBw.cell (World.block_lt_of_cell? w _ hy3)).trans hy3
              simp only [Int.toNat_natCast, add_plain] at hy0 hy1 hy2 hy3
              have hrd : rd_T43 l0_2 (k : Int) = l0_2[k] := by simp [rd_T43, List.getD_eq_getElem?_getD, hlt]
              have HT := Aside0.mk (flat_snocS pairB l0_2 k hlt)
              have HLEN := Aside0.mk (flat_takeS pairB l0_2 k (fun x hx => pairB_len (HS2.out.2 x hx)) hk)
              have HSX := Aside0.mk (HS2.out.2 _ (List.getElem_mem hlt))
              rw [hrd] at hy0 hy1 hy2 hy3
              clear hrd HBw
              revert HV hy0 hy1 hy2 hy3 HT HLEN HSX
              generalize (l0_2.take k).flatMap pairB = pre
              generalize l0_2[k] = x
              intro HV hy0 hy1 hy2 hy3 HT HLEN HSX
              have HL0b : Aside0 ((outB ++ [(l0_2.length : Int)].flatMap numI).length ≤ 9000010) := ⟨by have h1 := numI_ten (l0_2.length : Int); have h2 := HL0.out; simp only [List.length_append, List.flatMap_cons, List.flatMap_nil, List.append_nil] at *; omega⟩
              revert HV HL0b
              generalize hout : (outB ++ [(l0_2.length : Int)].flatMap numI) = out
              intro HV HL0b
              have HOUT := Aside0.mk hout
              clear hout
              go_wp2_with (first
                | (refine wpl_store_newA 43 wr _ [.string x.f0, .string x.f1, .int .i64 x.f2.f0, .int .i64 x.f2.f1] (by simp [Value.oneCell']) info_p (by rfl) (by rfl) (by rfl) _ _ (by rfl) (by rfl) (by rfl) ?_; intro V2 hb2 hB2 hs2; have c20 : V2.cell? ⟨wr.heap.size, 0, none⟩ = some (.string x.f0) := blk_cell hb2 0; have c21 : V2.cell? ⟨wr.heap.size, 1, none⟩ = some (.string x.f1) := blk_cell hb2 1; have C2 := Aside0.mk hb2; have HV2 := Aside0.mk (HV.out.below hB2); have HBr2 := Aside0.mk (below_step HB.out hB2); clear hb2 hB2 hs2; go_frame)
                | fail)
              have hz3 := blk_new V2 (.cells #[.string x.f0, .string x.f1] 9)
              have hC3 := blk_alloc C2.out (.cells #[.string x.f0, .string x.f1] 9)
              have hcb : wr.heap.size ≠ w.heap.size + 1 := by obtain ⟨_, h, _⟩ := HV.out; have := blk_lt h; omega
              have hgb : V2.heap.size ≠ w.heap.size + 1 := by obtain ⟨_, h, _⟩ := HV2.out; have := blk_lt h; omega
              refine (texts_calls W1 (w.heap.size + 1) V2.heap.size [x.f0, x.f1] (out ++ pre) _ (by intro s hs; rcases List.mem_cons.1 hs with rfl | hs; exact HSX.out.1; rw [List.mem_singleton.1 hs]; exact HSX.out.2) (below_alloc HBr2.out _) HSZ.out (HV2.out.below (below_alloc (Below.refl _ V2) _)) hz3 (by have := HL0b.out; have := HLEN.out; simp; omega) hgb).mono ?_
              rintro e V3 ⟨rfl, hV3, hB3, hK3⟩
              have C3 := Aside0.mk (hK3 _ _ _ hC3 (by decide) hcb)
              have HV3 := Aside0.mk hV3
              have HB3 := Aside0.mk hB3
              clear hz3 hC3 hgb hV3 hB3 hK3 c20 c21 C2 HV2 HBr2 hy0 hy1 hy2 hy3
              have c32 : V3.cell? ⟨wr.heap.size, 2, none⟩ = some (.int .i64 x.f2.f0) := blk_cell C3.out 2
              have c33 : V3.cell? ⟨wr.heap.size, 3, none⟩ = some (.int .i64 x.f2.f1) := blk_cell C3.out 3
              go_wp2_with fail
              have hz4 := blk_new V3 (.cells #[.int .i64 x.f2.f0, .int .i64 x.f2.f1] 3)
              have hg4 : V3.heap.size ≠ w.heap.size + 1 := by obtain ⟨_, h, _⟩ := HV3.out; have := blk_lt h; omega
              refine (numbers_calls W1 (w.heap.size + 1) V3.heap.size [x.f2.f0, x.f2.f1] (out ++ pre ++ [x.f0, x.f1].flatMap textL) _ (below_alloc HB3.out _) HSZ.out (HV3.out.below (below_alloc (Below.refl _ V3) _)) hz4 (by have h1 := textL_short HSX.out.1; have h2 := textL_short HSX.out.2; have := HL0b.out; have := HLEN.out; simp only [List.length_append, List.flatMap_cons, List.flatMap_nil, List.append_nil, List.length_cons, List.length_nil] at *; omega) hg4).mono ?_
              rintro e V5 ⟨rfl, hV5, hB5, _⟩
              have HW7 : Aside0 (Wr W1 (w.heap.size + 1) (out ++ (l0_2.take (k + 1)).flatMap pairB) V5) := ⟨by rw [HT.out, show pairB x = [x.f0, x.f1].flatMap textL ++ [x.f2.f0, x.f2.f1].flatMap numI from rfl]; simpa only [List.append_assoc] using hV5⟩
              have HB7 := Aside0.mk hB5
              clear hV5 hB5 hz4 hg4 HV3 HB3 C3 HV HB HT HLEN c32 c33
              go_wp2
              go_roundw
              case rel => exact ⟨k + 1, by omega, by go_num, HW7, HB7⟩
              case measure => simp [intOf]; omega
            · have hkl : k = l0_2.length := by omega
              subst hkl
              have HF := HV.out
              rw [List.take_length] at HF
              have HV := Aside0.mk HF
              clear HF
              revert HV
              generalize hoC : (outB ++ [(l0_2.length : Int)].flatMap numI ++ l0_2.flatMap pairB) = outC
              intro HV
              have HOC := Aside0.mk hoC
              clear hoC
              obtain ⟨v, hv, ho⟩ := HV.out
              obtain ⟨A, c, rfl⟩ := own_slice ho
              have hcv : wr.cell? ⟨w.heap.size + 1, 0, none⟩ = some (.slice A _ c) := blk_cell hv 0
              have HO := Aside0.mk ho
              clear hv ho HV
              go_wp2
              go_ret
              refine ⟨_, rfl, ?_, below_then HW1.out (by have := HSZ.out; have := below_size HW1.out; omega) HB.out⟩
              rw [show putS l0_0 l0_1 l0_2 = outC by rw [← HOC.out, ← HOB.out, ← HOA.out]; rfl]
              exact Kd.R_of_own (own_less HO.out (below_size HW1.out)) (fun _ _ => trivial)
end Go.Proofs.YtmcddoolniaehaaGreat.S
end
section
namespace Go.Proofs.YtmcddoolniaehaaGreat.S
open Go.RowKit Go.Proofs.YtmcddoolniaehaaGreatW.PrintWords Go.Proofs.YtmcddoolniaehaaGreatW.PrintLast Go.Proofs.YtmcddoolniaehaaGreatW.PrintMore Go.Proofs.YtmcddoolniaehaaGreatW
set_option linter.unusedVariables false
set_option linter.unusedSimpArgs false
def law09_Few.f (k : Nat) (l0_0 : List (S73)) (l0_1 : List (S47)) (l0_2 : List (S43)) : Option Bool := (law06_Few.f k l0_0).bind fun t0 => ((law07_Few.f k l0_1).bind fun t1 => ((law08_Few.f k l0_2).bind fun t2 => (if t0 = true then (if t1 = true then (some t2) else (some false)) else (some false))))
set_option maxHeartbeats 4000000 in
set_option maxRecDepth 100000 in
theorem law09_Few.calls (k : Nat) (A0_0 : Option Addr) (c0_0 : Nat) (l0_0 : List (S73)) (A0_1 : Option Addr) (c0_1 : Nat) (l0_1 : List (S47)) (A0_2 : Option Addr) (c0_2 : Nat) (l0_2 : List (S43)) (r : Bool) (w : World) (hr0_0 : Kd.C k73 w A0_0 l0_0.length l0_0) (hc0_0 : l0_0.length ≤ c0_0) (hr0_1 : Kd.C k47 w A0_1 l0_1.length l0_1) (hc0_1 : l0_1.length ≤ c0_1) (hr0_2 : Kd.C k43 w A0_2 l0_2.length l0_2) (hc0_2 : l0_2.length ≤ c0_2) (h : law09_Few.f k l0_0 l0_1 l0_2 = some r) :
    Calls Tryz.prog 10 #[.agg #[.slice A0_0 l0_0.length c0_0, .slice A0_1 l0_1.length c0_1, .slice A0_2 l0_2.length c0_2]] w fun e w' => e = .returned (.bool r) ∧ Below w.heap.size w w' := by
  unfold law09_Few.f at h
  obtain ⟨t0, h0, h⟩ := Option.bind_eq_some_iff.mp h
  have K0 := Aside0.mk (fun (W : World) (hb : Below w.heap.size w W) => (law06_Few.calls k A0_0 c0_0 l0_0 t0 W (Kd.C_below hr0_0 hb) hc0_0 h0).mono fun _ _ h => And.intro h.1 (drawn_b h.2))
  obtain ⟨t1, h1, h⟩ := Option.bind_eq_some_iff.mp h
  obtain ⟨t2, h2, h⟩ := Option.bind_eq_some_iff.mp h
  have K1 := Aside0.mk (fun (W : World) (hb : Below w.heap.size w W) => (law07_Few.calls k A0_1 c0_1 l0_1 t1 W (Kd.C_below hr0_1 hb) hc0_1 h1).mono fun _ _ h => And.intro h.1 (drawn_b h.2))
  have K2 := Aside0.mk (fun (W : World) (hb : Below w.heap.size w W) => (law08_Few.calls k A0_2 c0_2 l0_2 t2 W (Kd.C_below hr0_2 hb) hc0_2 h2).mono fun _ _ h => And.intro h.1 (drawn_b h.2))
  clear hr0_0 hc0_0 hr0_1 hc0_1 hr0_2 hc0_2
  have hBX0 := Bx.new (Below.refl w.heap.size w) (.cells #[.slice A0_0 l0_0.length c0_0, .slice A0_1 l0_1.length c0_1, .slice A0_2 l0_2.length c0_2] 26)
  go_enter Tryz.func10, Tryz.ntmps10
  go_wp2_with fail
  revert hBX0
  generalize (w.alloc (.cells #[.slice A0_0 l0_0.length c0_0, .slice A0_1 l0_1.length c0_1, .slice A0_2 l0_2.length c0_2] 26)) = W1
  intro hBX0
  have s00 := (blk_cell hBX0.x 0).trans rfl; have s01 := (blk_cell hBX0.x 1).trans rfl; have s02 := (blk_cell hBX0.x 2).trans rfl
  go_wp2_with fail
  refine (K0.out _ hBX0.b).mono ?_
  rintro e w2 ⟨rfl, hb⟩
  replace hBX0 := hBX0.go hb
  clear hb s00 s01 s02
  have s00 := (blk_cell hBX0.x 0).trans rfl; have s01 := (blk_cell hBX0.x 1).trans rfl; have s02 := (blk_cell hBX0.x 2).trans rfl
  go_wp2_with fail
  refine (K1.out _ hBX0.b).mono ?_
  rintro e w2 ⟨rfl, hb⟩
  replace hBX0 := hBX0.go hb
  clear hb s00 s01 s02
  have s00 := (blk_cell hBX0.x 0).trans rfl; have s01 := (blk_cell hBX0.x 1).trans rfl; have s02 := (blk_cell hBX0.x 2).trans rfl
  go_wp2_with fail
  refine (K2.out _ hBX0.b).mono ?_
  rintro e w2 ⟨rfl, hb⟩
  replace hBX0 := hBX0.go hb
  clear hb s00 s01 s02
  have hr : r = (t0 && (t1 && t2)) := by revert h; cases t0 <;> cases t1 <;> cases t2 <;> simp
  subst hr
  clear h
  cases t0 <;> cases t1 <;> cases t2
  all_goals
    go_wp2
    go_ret
    exact ⟨rfl, hBX0.b⟩
end Go.Proofs.YtmcddoolniaehaaGreat.S
end
section
namespace Go.Proofs.YtmcddoolniaehaaGreat.S
open Go.RowKit Go.Proofs.YtmcddoolniaehaaGreatW.PrintWords Go.Proofs.YtmcddoolniaehaaGreatW.PrintLast Go.Proofs.YtmcddoolniaehaaGreatW.PrintMore Go.Proofs.YtmcddoolniaehaaGreatW
set_option linter.unusedVariables false
set_option linter.unusedSimpArgs false
section
variable {ops : Array Oper} {rest : List Oper} {op : Oper} {a : Act} {w : World} {Q : Exit → Act → World → Prop}
theorem ld_st {cs : List Value} {s : St} {b : Nat} (H : Aside0 (w.heap[b]? = some (.cells cs.toArray 26 (0, 0)))) (N : Aside0 (StV w cs s)) (hgd : op.guard = none) (x : Operand) (ho : op.op = .load 26 x) (hx : a.eval x = .pointer (some ⟨b, 0, none⟩))
    (h : wpList Tryz.prog ops Q rest (a.put op.dst (.agg cs.toArray)) w) : wpList Tryz.prog ops Q (op :: rest) a w :=
  wpList_load_mid hgd 26 x ho b 0 hx cs _ (range_of_blk (t := 26) H.out) Tryz.underlying26 rfl (by rw [N.out.len]; exact info_state) h
theorem ld_on {cs : List Value} {s : St} {b : Nat} (H : Aside0 (w.heap[b]? = some (.cells cs.toArray 26 (0, 0)))) (N : Aside0 (StV w cs s)) (hw : Region.wanted op (yielded ops a.tmps) = true) (x : Operand) (ho : op.op = .load 26 x) (hx : a.eval x = .pointer (some ⟨b, 0, none⟩))
    (h : wpList Tryz.prog ops Q rest (a.put op.dst (.agg cs.toArray)) w) : wpList Tryz.prog ops Q (op :: rest) a w :=
  wpl_load_on hw 26 x ho b 0 hx cs _ (range_of_blk (t := 26) H.out) Tryz.underlying26 rfl (by rw [N.out.len]; exact info_state) h
theorem info_opS : (Tryz.prog.info? 28).map (·.size) = some 4 := by kernel_rfl
theorem info_evS : (Tryz.prog.info? 30).map (·.size) = some 2 := by kernel_rfl
theorem cells4S {w : World} {g t : Nat} {v0 v1 v2 v3 : Value} (h : w.heap[g]? = some (.cells #[v0, v1, v2, v3] t (0, 0))) : w.cell? ⟨g, 0, none⟩ = some v0 ∧ w.cell? ⟨g, 1, none⟩ = some v1 ∧ w.cell? ⟨g, 2, none⟩ = some v2 ∧ w.cell? ⟨g, 3, none⟩ = some v3 := ⟨blk_cell h 0, blk_cell h 1, blk_cell h 2, blk_cell h 3⟩
theorem ld_op {k n : Int} {x y : ByteArray} {b : Nat} (H : Aside0 (w.heap[b]? = some (.cells #[.int .i64 k, .string x, .string y, .int .i64 n] 28 (0, 0)))) (hgd : op.guard = none) (z : Operand) (ho : op.op = .load 28 z) (hx : a.eval z = .pointer (some ⟨b, 0, none⟩))
    (h : wpList Tryz.prog ops Q rest (a.put op.dst (.agg #[.int .i64 k, .string x, .string y, .int .i64 n])) w) : wpList Tryz.prog ops Q (op :: rest) a w :=
  wpList_load_mid hgd 28 z ho b 0 hx [.int .i64 k, .string x, .string y, .int .i64 n] _ (range_of_blk (t := 28) H.out) Tryz.underlying28 rfl info_opS h
theorem ld_ev {k n : Int} {b : Nat} (H : Aside0 (w.heap[b]? = some (.cells #[.int .i64 k, .int .i64 n] 30 (0, 0)))) (hgd : op.guard = none) (z : Operand) (ho : op.op = .load 30 z) (hx : a.eval z = .pointer (some ⟨b, 0, none⟩))
    (h : wpList Tryz.prog ops Q rest (a.put op.dst (.agg #[.int .i64 k, .int .i64 n])) w) : wpList Tryz.prog ops Q (op :: rest) a w :=
  wpList_load_mid hgd 30 z ho b 0 hx [.int .i64 k, .int .i64 n] _ (range_of_blk (t := 30) H.out) Tryz.underlying30 rfl info_evS h
theorem sv_st {w0 : World} {cs : List Value} {s : St} (N : Aside0 (StV w0 cs s)) (hw : w = w0.alloc (.cells #[.slice none 0 0, .slice none 0 0, .slice none 0 0] 26)) (hgd : op.guard = none) (x y : Operand) (ho : op.op = .store 26 x y)
    (hx : a.eval x = .pointer (some ⟨w0.heap.size, 0, none⟩)) (hy : a.eval y = .agg cs.toArray)
    (h : ∀ W1 : World, W1.heap[w0.heap.size]? = some (.cells cs.toArray 26 (0, 0)) → Below w0.heap.size w0 W1 → W1.heap.size = w0.heap.size + 1 → wpList Tryz.prog ops Q rest (a.put op.dst undef) W1) : wpList Tryz.prog ops Q (op :: rest) a w :=
  wpl_store_newA 26 w0 _ cs N.out.one (by rw [N.out.len]; exact info_state) hw (by rw [N.out.len]; rfl) hgd x y ho hx hy h
end
noncomputable def sameS (a b : St) : Bool := eqB a.c b.c && (eqB a.r b.r && eqB a.p b.p)
theorem sameS_iff {a b : St} : sameS a b = true ↔ a = b := by
  unfold sameS
  simp only [Bool.and_eq_true, eqB_iff]
  obtain ⟨a0, a1, a2⟩ := a
  obtain ⟨b0, b1, b2⟩ := b
  simp
theorem same_calls {W : World} {cs ds : List Value} {a b : St} (hv : StV W cs a) (hw : StV W ds b) (h : FitS 1000 a) : Calls Tryz.prog 20 #[.agg cs.toArray, .agg ds.toArray] W fun e w' => e = .returned (.bool (sameS a b)) ∧ Below W.heap.size W w' := by
  obtain ⟨A0, c0, A1, c1, A2, c2, rfl, h1, h2, h3, h4, h5, h6⟩ := hv
  obtain ⟨B0, d0, B1, d1, B2, d2, rfl, g1, g2, g3, g4, g5, g6⟩ := hw
  refine state_Same.calls 1010 A0 c0 a.c A1 c1 a.r A2 c2 a.p B0 d0 b.c B1 d1 b.r B2 d2 b.p _ W h1 h2 h3 h4 h5 h6 g1 g2 g3 g4 g5 g6 ?_
  obtain ⟨⟨l0, l1, l2⟩, _⟩ := h
  unfold state_Same.f sameS
  rw [eqC_f 1010 a.c b.c (by omega) (by omega), Option.bind_some]
  cases eqB a.c b.c with
  | false => rfl
  | true =>
    rw [if_pos rfl, eqR_f 1010 a.r b.r (by omega) (by omega), Option.bind_some]
    cases eqB a.r b.r with
    | false => rfl
    | true => rw [if_pos rfl, eqP_f 1010 a.p b.p (by omega) (by omega)]; rfl
def fewS (s : St) : Bool := fewC s.c && (fewB s.r && fewP s.p)
theorem few_calls {W : World} {cs : List Value} {s : St} (hv : StV W cs s) : Calls Tryz.prog 10 #[.agg cs.toArray] W fun e w' => e = .returned (.bool (fewS s)) ∧ Below W.heap.size W w' := by
  obtain ⟨A0, c0, A1, c1, A2, c2, rfl, h1, h2, h3, h4, h5, h6⟩ := hv
  refine law09_Few.calls 40 A0 c0 s.c A1 c1 s.r A2 c2 s.p _ W h1 h2 h3 h4 h5 h6 ?_
  unfold law09_Few.f fewS
  rw [fewC_f 40 s.c (by omega), Option.bind_some, few_f 40 s.r (by omega), Option.bind_some, fewP_f 40 s.p (by omega), Option.bind_some]
  cases fewC s.c <;> cases fewB s.r <;> rfl
theorem few_fit {s : St} (h : fewS s = true) (ho : okL s.p) : FitS 30 s := by
  unfold fewS at h
  simp only [Bool.and_eq_true] at h
  exact ⟨⟨fewC_len h.1, few_len h.2.1, fewP_len h.2.2⟩, fewC_size h.1, few_all h.2.1, ho⟩
theorem merge_fit {n : Nat} {base a b : St} (fl : FitS n base) (fa : FitS n a) (fb : FitS n b) : FitS (n + n + n) (mergeS base a b).1 := by
  unfold mergeS
  split
  · obtain ⟨⟨l0, l1, l2⟩, k0, k1, k2⟩ := fl
    obtain ⟨⟨m0, m1, m2⟩, n0, n1, n2⟩ := fa
    obtain ⟨⟨p0, p1, p2⟩, q0, q1, q2⟩ := fb
    have h0 := mergeC_len base.c a.c b.c
    have h1 := mergeO_len a.r b.r
    have h2 := mergeP_len base.p a.p b.p
    exact ⟨⟨by show (mergeC base.c a.c b.c).length ≤ _; omega, by show (mergeO a.r b.r).length ≤ _; omega, by show (mergeP base.p a.p b.p).length ≤ _; omega⟩, mergeC_kS _ _ _, mergeO_small n1 q1, mergeP_ok n2 q2⟩
  · exact ⟨⟨by simp [noS], by simp [noS], by simp [noS]⟩, fun x hx => by simp [noS] at hx, fun x hx => by simp [noS] at hx, fun x hx => by simp [noS] at hx⟩
end Go.Proofs.YtmcddoolniaehaaGreat.S
end
section
namespace Go.Proofs.YtmcddoolniaehaaGreat.S
open Go.RowKit Go.ChangeShapes Go.WideShapes Go.ChangeAt Go.Deep Go.Proofs.YtmcddoolniaehaaGreatW.PrintWords Go.Proofs.YtmcddoolniaehaaGreatW.PrintLast Go.Proofs.YtmcddoolniaehaaGreatW.PrintMore Go.Proofs.YtmcddoolniaehaaGreatW
set_option linter.unusedVariables false
set_option linter.unusedSimpArgs false
section
variable {H : Type} {enc : TypeId × Value → H} {w : World} {base : Nat} {spare : Nat → Bool} {held : Bool}
theorem open_rowF {α : Type} [Inhabited α] {d : Kd α} {ok : α → Prop} {t e : TypeId} (hu : Tryz.prog.underlying t = some (.slice e)) (hc : Tryz.prog.cellsOf e = d.sz) (hop : ∀ (fuel : Nat) (cs : List Value) (x : DataW H × List MemPlace), DataW.trod enc Tryz.prog w base spare held fuel e cs = some x → ∃ a, d.K w a cs ∧ ok a)
    {fuel : Nat} {cs : List Value} {x : DataW H × List MemPlace} (hf : DataW.trod enc Tryz.prog w base spare held fuel t cs = some x) : ∃ A cap xs, cs = [.slice A xs.length cap] ∧ xs.length ≤ cap ∧ d.C w A xs.length xs ∧ ∀ x ∈ xs, ok x := by
  rcases open_slice hu hf with ⟨hcs, _⟩ | ⟨a, len, cap, m, n, D, Pl, hcs, _, hl, hm, hmm, _, hx⟩
  · exact ⟨none, 0, [], hcs, Nat.le_refl _, Kd.C_nil d w, fun x hx => by cases hx⟩
  · have hle : len ≤ m := by rw [hmm]; split <;> omega
    obtain ⟨f, hf'⟩ := choose_lt (α := α) (n := len) (p := fun i a' => ∃ cs', w.cells? base (a.add (i * d.sz)) d.sz = some cs' ∧ d.K w a' cs' ∧ ok a') (fun i hi => by
      obtain ⟨cs', h1, h2⟩ := hx i (by omega)
      obtain ⟨a', h3, h4⟩ := hop _ _ _ h2
      rw [hc] at h1
      exact ⟨a', cs', h1, h3, h4⟩)
    have hlen : ((List.range len).map f).length = len := by simp
    refine ⟨some a, cap, (List.range len).map f, by rw [hlen]; exact hcs, by rw [hlen]; exact hl, ⟨rfl, by rw [hlen]; unfold maxLen at hm; omega, fun _ => ⟨a, rfl, fun j p hp => ?_⟩⟩, ?_⟩
    rotate_left
    · intro x hx
      obtain ⟨i, hi, rfl⟩ := List.mem_map.1 hx
      obtain ⟨_, _, _, h⟩ := hf' i (by simpa using hi)
      exact h
    have hj : j < len := by
      have := (List.getElem?_eq_some_iff.1 hp).1
      simpa using this
    have hp' : f j = p := by
      rw [List.getElem?_map, List.getElem?_range hj] at hp
      simpa using hp
    subst hp'
    obtain ⟨cs', h1, h2, _⟩ := hf' j hj
    obtain ⟨_, h5, h6⟩ := World.cells?_some h1
    refine ⟨cs', h5, h2, fun i u hu => ?_⟩
    have hi := (List.getElem?_eq_some_iff.1 hu).1
    rw [← Deep.add_add, h6 i (by omega), hu]
theorem open_op {fuel : Nat} {cs : List Value} {x : DataW H × List MemPlace} (h : DataW.trod enc Tryz.prog w base spare held fuel 28 cs = some x) : ∃ a b c d, cs = [.int .i64 a, .string b, .string c, .int .i64 d] ∧ okI a ∧ okT b ∧ okT c ∧ okI d := by
  obtain ⟨xs, n, _, _, hl, hlen, hf⟩ := DataW.trod_struct Tryz.underlying28 h
  rw [show Tryz.prog.cellsOf 28 = 4 by kernel_rfl] at hl
  have hi : Tryz.prog.cellsOf 3 = 1 := by kernel_rfl
  have hs : Tryz.prog.cellsOf 9 = 1 := by kernel_rfl
  have hlen : xs.length = 4 := hlen
  obtain ⟨c0, c1, c2, c3, rfl⟩ := len4 hl
  obtain ⟨y0, y1, y2, y3, rfl⟩ := len4 hlen
  have h0 := hf 0 _ rfl
  have h1 := hf 1 _ rfl
  have h2 := hf 2 _ rfl
  have h3 := hf 3 _ rfl
  simp only [List.getElem_toArray, List.getElem_cons_zero, List.getElem_cons_succ, hi, hs, List.drop_zero, List.drop_succ_cons, List.take_succ_cons, List.take_zero, List.getElem?_cons_zero, List.getElem?_cons_succ] at h0 h1 h2 h3
  obtain ⟨a, e0, _, w0⟩ := DataW.trod_int Tryz.underlying3 h0
  obtain ⟨b, e1, _, w1⟩ := DataW.trod_string Tryz.underlying9 h1
  obtain ⟨c, e2, _, w2⟩ := DataW.trod_string Tryz.underlying9 h2
  obtain ⟨d, e3, _, w3⟩ := DataW.trod_int Tryz.underlying3 h3
  cases e0; cases e1; cases e2; cases e3
  exact ⟨a, b, c, d, rfl, okI_of w0, w1, w2, okI_of w3⟩
theorem open_stR {fuel : Nat} {cs : List Value} {x : DataW H × List MemPlace} (h : DataW.trod enc Tryz.prog w base spare held fuel 26 cs = some x) : ∃ s : St, StV w cs s ∧ okL s.p ∧ inL s.c ∧ ∀ x ∈ s.r, inR x.f2 ∧ inR x.f3.f0 ∧ inR x.f3.f1 := by
  obtain ⟨xs, n, _, _, hl, hlen, hf⟩ := DataW.trod_struct Tryz.underlying26 h
  rw [show Tryz.prog.cellsOf 26 = 3 by kernel_rfl] at hl
  have hc : Tryz.prog.cellsOf 22 = 1 := by kernel_rfl
  have hr : Tryz.prog.cellsOf 23 = 1 := by kernel_rfl
  have hp : Tryz.prog.cellsOf 24 = 1 := by kernel_rfl
  have hlen : xs.length = 3 := hlen
  obtain ⟨c0, c1, c2, rfl⟩ := len3 hl
  obtain ⟨y0, y1, y2, rfl⟩ := len3 hlen
  have h0 := hf 0 _ rfl
  have h1 := hf 1 _ rfl
  have h2 := hf 2 _ rfl
  simp only [List.getElem_toArray, List.getElem_cons_zero, List.getElem_cons_succ, hc, hr, hp, List.drop_zero, List.drop_succ_cons, List.take_succ_cons, List.take_zero, List.getElem?_cons_zero, List.getElem?_cons_succ] at h0 h1 h2
  obtain ⟨A0, p0, l0, e0, q0, C0, g0⟩ := open_rowF (d := k73) (ok := okCtr) Tryz.underlying22 (by kernel_rfl) (fun _ _ _ h => by obtain ⟨r, rfl, ho⟩ := open_ctr h; exact ⟨r, k73_mk w r, ho⟩) h0
  obtain ⟨A1, p1, l1, e1, q1, C1, g1⟩ := open_rowF (d := k47) (ok := okReg) Tryz.underlying23 (by kernel_rfl) (fun _ _ _ h => by obtain ⟨r, rfl, ho⟩ := open_reg h; exact ⟨r, k47_mk w r, ho⟩) h1
  obtain ⟨A2, p2, l2, e2, q2, C2, g2⟩ := open_rowF (d := k43) (ok := okPair) Tryz.underlying24 (by kernel_rfl) (fun _ _ _ h => by obtain ⟨r, rfl, ho⟩ := open_pair h; exact ⟨r, k43_mk w r, ho⟩) h2
  cases e0; cases e1; cases e2
  exact ⟨⟨l0, l1, l2⟩, ⟨A0, p0, A1, p1, A2, p2, rfl, C0, q0, C1, q1, C2, q2⟩, g2, fun x hx => (g0 x hx).2, fun x hx => (g1 x hx).2.2⟩
theorem open_st {fuel : Nat} {cs : List Value} {x : DataW H × List MemPlace} (h : DataW.trod enc Tryz.prog w base spare held fuel 26 cs = some x) : ∃ s : St, StV w cs s ∧ okL s.p ∧ inL s.c := by
  obtain ⟨s, h1, h2, h3, _⟩ := open_stR h
  exact ⟨s, h1, h2, h3⟩
end
end Go.Proofs.YtmcddoolniaehaaGreat.S
end
section
namespace Go.Proofs.YtmcddoolniaehaaGreat.S
open Go.RowKit Go.Proofs.YtmcddoolniaehaaGreatW.PrintWords Go.Proofs.YtmcddoolniaehaaGreatW.PrintLast Go.Proofs.YtmcddoolniaehaaGreatW.PrintMore Go.Proofs.YtmcddoolniaehaaGreatW
set_option linter.unusedVariables false
set_option linter.unusedSimpArgs false
def eventB (node seq : Int) : Bool := decide (0 ≤ node) && (decide (node < 8) && (decide (0 < seq) && decide (seq ≤ 1048576)))
theorem event_f (node seq : Int) : state_event.f node seq = some (eventB node seq) := by
  unfold state_event.f eventB
  by_cases h0 : node ≥ 0
  · rw [if_pos h0]
    by_cases h1 : node < 8
    · rw [if_pos h1]
      by_cases h2 : seq > 0
      · rw [if_pos h2]; simp [h0, h1, h2]
      · rw [if_neg h2]
        have : ¬ 0 < seq := by omega
        simp [this]
    · rw [if_neg h1]; simp [h1]
  · rw [if_neg h0]
    have : ¬ 0 ≤ node := by omega
    simp [this]
theorem event_in {node seq : Int} (h : eventB node seq = true) : 0 ≤ node ∧ node < 8 ∧ 0 < seq ∧ seq ≤ 1048576 := by
  unfold eventB at h
  simpa using h
def opS (s : St) (k : Int) (key elem : ByteArray) (n node seq gen : Int) : St :=
  if k = 0 then ⟨incO s.c key n, s.r, s.p⟩ else if k = 1 then ⟨s.c, putO s.r ⟨key, elem, gen, ⟨node, seq⟩⟩, s.p⟩ else if k = 2 then ⟨s.c, s.r, addP s.p ⟨key, elem, ⟨node, seq⟩⟩⟩ else ⟨s.c, s.r, delP s.p key elem⟩
def canS (s : St) (k : Int) (key elem : ByteArray) (n node seq gen : Int) : Bool := mayS s && (opB k key elem n && (eventB node seq && decide (1 ≤ gen)))
def doS (s : St) (k : Int) (key elem : ByteArray) (n node seq gen : Int) : St × Int := if canS s k key elem n node seq gen then (opS s k key elem n node seq gen, 0) else (noS, 1)
theorem opB_keys {k : Int} {key elem : ByteArray} {n : Int} (h : opB k key elem n = true) : keyB key.data.toList = true ∧ (k = 0 ∨ k = 1 ∨ k = 2 ∨ k = 3) ∧ (k ≠ 0 → keyB elem.data.toList = true ∧ n = 0) ∧ (k = 0 → incB elem n = true) := by
  have hk := op_known h
  unfold opB at h
  by_cases h0 : k = 0
  · rw [if_pos h0] at h
    simp only [Bool.and_eq_true] at h
    exact ⟨h.1, hk, fun q => absurd h0 q, fun _ => h.2⟩
  · rw [if_neg h0] at h
    split at h
    · unfold nameB at h
      simp only [Bool.and_eq_true, decide_eq_true_eq] at h
      exact ⟨h.1, hk, fun _ => ⟨h.2.2, h.2.1⟩, fun q => absurd q h0⟩
    · cases h
theorem ok_small {a : ByteArray} (h : a.size ≤ 1000) : okT a := by unfold okT maxLen; omega
theorem do_f {s : St} {key elem : ByteArray} (k n node seq gen : Int) (h : FitS 500 s) (h1 : okT key) (h2 : okT elem) :
    state_Do.f s.c s.r s.p k key elem n node seq gen = some ((doS s k key elem n node seq gen).1.c, (doS s k key elem n node seq gen).1.r, (doS s k key elem n node seq gen).1.p, (doS s k key elem n node seq gen).2) := by
  have hl := h.1
  have hd : doFuel s.c s.r s.p = s.c.length + s.r.length + s.p.length + 100 := rfl
  unfold state_Do.f
  rw [mayS_f (doFuel s.c s.r s.p) (h.up (by omega)) (by omega), Option.bind_some, show ops_May.f k key elem n = some (opB k key elem n) by unfold ops_May.f; rw [if_pos ⟨h1, h2⟩], Option.bind_some, event_f, Option.bind_some,
    show state_own.f s.c s.r s.p = some (s.c, s.r, s.p) by unfold state_own.f; rw [if_pos (by omega)], Option.bind_some]
  unfold doS
  by_cases hc : canS s k key elem n node seq gen = true
  · have hc2 := hc
    unfold canS at hc2
    simp only [Bool.and_eq_true, decide_eq_true_eq] at hc2
    obtain ⟨c1, c2, c3, c4⟩ := hc2
    rw [if_pos hc, if_pos ⟨c1, c2, c3, c4⟩]
    have hev := event_in c3
    have hks := key_size (opB_keys c2).1
    unfold opS
    by_cases k0 : k = 0
    · rw [if_pos k0, if_pos k0, inc_f n h.2.1 (by omega) (by omega)]; rfl
    rw [if_neg k0, if_neg k0]
    by_cases k1 : k = 1
    · rw [if_pos k1, if_pos k1]
      have := put_f (doFuel s.c s.r s.p) s.r ⟨key, elem, gen, ⟨node, seq⟩⟩ (by omega) (by omega) (ok_all h.2.2.1) ⟨h1, h2⟩
      rw [show reg_Put.f (doFuel s.c s.r s.p) s.r key elem gen node seq = some (putO s.r ⟨key, elem, gen, ⟨node, seq⟩⟩) from this]; rfl
    rw [if_neg k1, if_neg k1]
    by_cases k2 : k = 2
    · rw [if_pos k2, if_pos k2]
      have := addP_f (l := s.p) (p := ⟨key, elem, ⟨node, seq⟩⟩) h.2.2.2 ⟨h1, h2, ⟨by show -9223372036854775808 ≤ node; omega, by show node ≤ 9223372036854775807; omega⟩, ⟨by show -9223372036854775808 ≤ seq; omega, by show seq ≤ 9223372036854775807; omega⟩⟩ (by omega)
      rw [show pair_Add.f s.p key elem node seq = some (addP s.p ⟨key, elem, ⟨node, seq⟩⟩) from this]; rfl
    · rw [if_neg k2, if_neg k2, delP_f h.2.2.2 (by omega)]; rfl
  · rw [if_neg hc, if_neg (fun ⟨c1, c2, c3, c4⟩ => hc (by unfold canS; simp [c1, c2, c3, c4]))]; rfl
theorem do_calls {W : World} {cs : List Value} {s : St} {key elem : ByteArray} (k n node seq gen : Int) (hv : StV W cs s) (h : FitS 500 s) (h1 : okT key) (h2 : okT elem) :
    Calls Tryz.prog 11 #[.agg cs.toArray, .agg #[.int .i64 k, .string key, .string elem, .int .i64 n], .agg #[.int .i64 node, .int .i64 seq], .int .i64 gen] W fun e w' => ∃ rs : List Value, e = .returned (.tuple #[.agg rs.toArray, .int .i64 (doS s k key elem n node seq gen).2]) ∧ StV w' rs (doS s k key elem n node seq gen).1 ∧ Below W.heap.size W w' := by
  obtain ⟨A0, c0, A1, c1, A2, c2, rfl, g1, g2, g3, g4, g5, g6⟩ := hv
  refine (state_Do.calls A0 c0 s.c A1 c1 s.r A2 c2 s.p k key elem n node seq gen _ _ _ _ W g1 g2 g3 g4 g5 g6 (do_f k n node seq gen h h1 h2)).mono ?_
  rintro e w' ⟨v0, v1, v2, rfl, r0, r1, r2, hb⟩
  exact ⟨[v0, v1, v2], rfl, StV_of r0 r1 r2, hb⟩
theorem do_fit {s : St} {key elem : ByteArray} {n0 : Nat} (k n node seq gen : Int) (h : FitS n0 s) : FitS (n0 + 1) (doS s k key elem n node seq gen).1 := by
  unfold doS
  split
  · rename_i hc
    unfold canS at hc
    simp only [Bool.and_eq_true, decide_eq_true_eq] at hc
    obtain ⟨c1, c2, c3, c4⟩ := hc
    obtain ⟨o1, o2, o3, o4⟩ := opB_keys c2
    have e1 := key_size o1
    have hev := event_in c3
    obtain ⟨⟨l0, l1, l2⟩, q0, q1, q2⟩ := h
    show FitS (n0 + 1) (opS s k key elem n node seq gen)
    unfold opS
    by_cases k0 : k = 0
    · rw [if_pos k0]
      have := incO_len s.c key n
      exact ⟨⟨by show (incO s.c key n).length ≤ _; omega, by show s.r.length ≤ _; omega, by show s.p.length ≤ _; omega⟩, incO_kS _ _ _, q1, q2⟩
    have e2 := key_size (o3 k0).1
    rw [if_neg k0]
    by_cases k1 : k = 1
    · rw [if_pos k1]
      have := putO_len s.r ⟨key, elem, gen, ⟨node, seq⟩⟩
      exact ⟨⟨by show s.c.length ≤ _; omega, by show (putO s.r _).length ≤ _; omega, by show s.p.length ≤ _; omega⟩, q0, putO_small q1 ⟨by show key.size ≤ 100; omega, by show elem.size ≤ 100; omega⟩, q2⟩
    rw [if_neg k1]
    by_cases k2 : k = 2
    · rw [if_pos k2]
      have := addP_len s.p ⟨key, elem, ⟨node, seq⟩⟩
      exact ⟨⟨by show s.c.length ≤ _; omega, by show s.r.length ≤ _; omega, by show (addP s.p _).length ≤ _; omega⟩, q0, q1, addP_ok q2 ⟨ok_small (by show key.size ≤ 1000; omega), ok_small (by show elem.size ≤ 1000; omega), ⟨by show -9223372036854775808 ≤ node; omega, by show node ≤ 9223372036854775807; omega⟩, ⟨by show -9223372036854775808 ≤ seq; omega, by show seq ≤ 9223372036854775807; omega⟩⟩⟩
    · rw [if_neg k2]
      have := delP_len s.p key elem
      exact ⟨⟨by show s.c.length ≤ _; omega, by show s.r.length ≤ _; omega, by show (delP s.p _ _).length ≤ _; omega⟩, q0, q1, delP_ok q2⟩
  · exact ⟨⟨by simp [noS], by simp [noS], by simp [noS]⟩, fun x hx => by simp [noS] at hx, fun x hx => by simp [noS] at hx, fun x hx => by simp [noS] at hx⟩
theorem put_calls2 {W : World} {cs : List Value} {s : St} (hv : StV W cs s) (h : FitS 1000 s) (hp : ∀ x ∈ s.p, x.f0.size ≤ 1000 ∧ x.f1.size ≤ 1000) :
    Calls Tryz.prog 16 #[.agg cs.toArray] W fun e w' => ∃ A c, e = .returned (.slice A (putS s.c s.r s.p).length c) ∧ Kd.R (Kd.int .u8) 5 w' W.heap.size (fun _ => True) (.slice A (putS s.c s.r s.p).length c) (putS s.c s.r s.p) ∧ Below W.heap.size W w' := by
  obtain ⟨A0, c0, A1, c1, A2, c2, rfl, g1, g2, g3, g4, g5, g6⟩ := hv
  obtain ⟨⟨l0, l1, l2⟩, q0, q1, q2⟩ := h
  refine (state_Put.calls A0 c0 s.c A1 c1 s.r A2 c2 s.p _ W g1 g2 g3 g4 g5 g6 (by unfold state_Put.f; rw [if_pos ⟨⟨l0, fun x hx => by have := q0 x hx; omega⟩, ⟨l1, fun x hx => by have := q1 x hx; unfold smallR at this; omega⟩, ⟨l2, hp⟩⟩])).mono ?_
  rintro e w' ⟨v, rfl, hr, hb⟩
  obtain ⟨A, c, rfl, _, _⟩ := Kd.R_reads hr
  exact ⟨A, c, rfl, hr, hb⟩
end Go.Proofs.YtmcddoolniaehaaGreat.S
end
