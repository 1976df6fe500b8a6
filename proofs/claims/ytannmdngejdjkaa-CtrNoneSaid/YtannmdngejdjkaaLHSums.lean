/- ctr.sums.add: counts added to a map. By hand: the loop. -/
import Derived.Test.YtannmdngejdjkaaLMapS
namespace Go.Proofs.Ytannmdngejdjkaa.L
open Go.RowKit Go.Maps Go.Proofs.YtannmdngejdjkaaW.PrintWords Go.Proofs.YtannmdngejdjkaaW.PrintLast Go.Proofs.YtannmdngejdjkaaW.PrintMore Go.Proofs.YtannmdngejdjkaaW
set_option linter.unusedVariables false
set_option linter.unusedSimpArgs false
theorem lawS : Keyed Try.prog 9 := string_keyed Try.underlying9
theorem zeroI (w : World) : (zeroValue 3).run Try.prog w = .ok (.int .i64 0) w := by kernel_rfl
def incM (es : MapL) (k : ByteArray) (n : Int) : MapL := setM es k (wrap64 (getM es k + n))
def addM (t : Int) (es : MapL) (l : List S53) : MapL := l.foldl (fun es c => incM es c.f0 (wrap64 (t * c.f1))) es
abbrev OwnsM (w : World) (gb n : Nat) (es : MapL) : Prop := w.ownsMap Try.prog 9 (plainElem (H := Unit) Try.prog 3) gb n (datM es)
theorem incM_up {es : MapL} (k : ByteArray) (n : Int) (h : es.Pairwise mLt) : (incM es k n).Pairwise mLt := setM_up h
theorem addM_up (t : Int) : ∀ (l : List S53) (es : MapL), es.Pairwise mLt → (addM t es l).Pairwise mLt
  | [], _, h => h
  | c :: l, es, h => addM_up t l _ (incM_up _ _ h)
theorem rdC_at (l : List S53) (k : Nat) (h : k < l.length) : rd_T53 l (k : Int) = l[k] := by
  simp [rd_T53, List.getD_eq_getElem?_getD, List.getElem?_eq_getElem h]
theorem addM_take (t : Int) (es : MapL) (l : List S53) (k : Nat) (h : k < l.length) : addM t es (l.take (k + 1)) = incM (addM t es (l.take k)) (rd_T53 l (k : Nat)).f0 (wrap64 (t * (rd_T53 l (k : Nat)).f1)) := by
  unfold addM
  rw [List.take_succ_eq_append_getElem h, List.foldl_append, rdC_at l k h]; rfl
set_option maxHeartbeats 4000000 in
set_option maxRecDepth 100000 in
theorem sums_add (w0 : World) (gb n : Nat) (es : MapL) (A0 : Option Addr) (c0 : Nat) (l : List S53) (t : Int) (w : World) (hB : Below w0.heap.size w0 w) (hbase : w0.heap.size ≤ gb) (hown : OwnsM w gb n es) (hup : es.Pairwise mLt) (hr0 : Kd.C k53 w0 A0 l.length l) (hlim : n + l.length ≤ maxLen) (hk : ∀ x ∈ l, x.f0.size ≤ maxLen) :
    Calls Try.prog 70 #[.map (some gb), .slice A0 l.length c0, .int .i64 t] w fun e w' => e = .returned (.tuple #[]) ∧ OwnsM w' gb (n + l.length) (addM t es l) ∧ Below w0.heap.size w0 w' := by
  have HR := Aside0.mk hr0
  have HL := Aside0.mk hr0.2.1
  have HO := Aside0.mk hown
  have HB0 := Aside0.mk hB
  have HUP := Aside0.mk hup
  have HK := Aside0.mk hk
  clear hr0 hown hB hup hk
  have hu := Try.underlying53
  have hum := Try.underlying79
  go_enter Try.func70, Try.ntmps70
  go_wp2
  go_loopw [10] (fun i wr => ∃ k : Nat, k ≤ l.length ∧ i = .int .i64 k ∧ Aside0 (OwnsM wr gb (n + k) (addM t es (l.take k))) ∧ Aside0 (Below w0.heap.size w0 wr)) (fun i _ => l.length - (intOf i).toNat)
  case atStart => exact ⟨0, Nat.zero_le _, rfl, ⟨by simpa [addM] using HO.out⟩, HB0⟩
  case round =>
    obtain ⟨k, hk, rfl, hO, HB⟩ := hrel
    by_cases hlt : k < l.length
    · obtain ⟨ad, e, hx0, hx1⟩ := at_T53 HR.out k (by omega) (by omega)
      cases e
      replace hx0 := (HB.out.cell (World.block_lt_of_cell? w0 _ hx0)).trans hx0
      replace hx1 := (HB.out.cell (World.block_lt_of_cell? w0 _ hx1)).trans hx1
      simp only [Int.toNat_natCast, add_plain] at hx0 hx1
      have hl63 := HL.out
      have hkl : (rd_T53 l (k : Nat)).f0.size ≤ maxLen := by rw [rdC_at l k hlt]; exact HK.out _ (List.getElem_mem _)
      have HS := Aside0.mk (addM_take t es l k hlt)
      have HU := Aside0.mk (addM_up t (l.take k) es HUP.out)
      have hglt := hO.out.lt
      have hnk : n + k < maxLen := by omega
      go_wp2_with (first
        | (at_lookup; refine wpList_lookup_own_int _ rfl _ _ 79 rfl 9 3 .i64 lawS Try.underlying79 Try.underlying3 (zeroI _) gb _ _ rfl (hO.out.alloc _) _ _ rfl (Go.WideMaps.keyOf_string_mk Try.underlying9 hkl) ?_; intro c hat hwc; have HC := Aside0.mk hat; clear hat hwc)
        | (at_mapUpdate; refine wpList_mapUpdate_own _ rfl _ _ _ 79 rfl 9 3 lawS Try.underlying79 _ gb _ _ rfl (hO.out.alloc _) hnk _ _ _ rfl rfl (Go.WideMaps.keyOf_string_mk Try.underlying9 hkl) _ [] (plainElem_int Try.underlying3 (wrap64_wf _)) ?_; intro w1 hown1 hgrow1; have HO1 := Aside0.mk hown1; have HG1 := Aside0.mk hgrow1; clear hown1 hgrow1))
      have HO2 : Aside0 (OwnsM w1 gb (n + (k + 1)) (addM t es (l.take (k + 1)))) := by
        have h1 := HO1.out
        have h2 := HC.out
        rw [at_dat] at h2
        injection h2 with h2
        injection h2 with _ h2
        rw [put_dat _ _ HU.out] at h1
        rw [HS.out]
        unfold incM
        rw [h2]
        exact ⟨h1⟩
      have HB2 := Aside0.mk ((below_alloc HB.out _).grown HG1.out (by simp; omega) (fun j hj => by simp at hj; subst hj; exact hbase))
      clear HO1 HG1 HC HS HU hx0 hx1 hO HB HR
      go_roundw
      case rel => exact ⟨k + 1, by omega, by go_num, HO2, HB2⟩
      case measure => simp [intOf]; omega
    · have HE := Aside0.mk (show l.take k = l ∧ k = l.length from ⟨List.take_of_length_le (by omega), by omega⟩)
      go_wp2
      go_end0
      refine ⟨rfl, ?_, HB.out⟩
      have := hO.out
      rw [HE.out.1, HE.out.2] at this
      exact this
end Go.Proofs.Ytannmdngejdjkaa.L
