/- Several of the walk's texts in one: SHCtrSorted, SSq, Shelf, SHKey. -/
import Derived.Maps.RangeWalk
import Derived.Sort.OwnSorted
import Derived.Sort.KeysCollected
import Derived.OwnWalk
import Derived.Deep.RegionHeld3
import Derived.Deep.DeepCutAuto
import Derived.RegionTactic
import Derived.StillTailTactics
import Derived.Shelf.Small.Strs
import Derived.Shelf.Strings.Search1
import Derived.Test.YtmcddoolniaehaaGreatProg
import Derived.Test.YtmcddoolniaehaaGreatMK03
section
namespace Go.Proofs.YtmcddoolniaehaaGreat.S
open Go.RowKit Go.Maps Go.Sort Go.Proofs.YtmcddoolniaehaaGreatW.PrintWords Go.Proofs.YtmcddoolniaehaaGreatW.PrintLast Go.Proofs.YtmcddoolniaehaaGreatW.PrintMore Go.Proofs.YtmcddoolniaehaaGreatW
set_option linter.unusedVariables false
set_option linter.unusedSimpArgs false
set_option maxRecDepth 100000 in
theorem list_clo (key : ByteArray) (n : Int) (w : World) :
    Calls Tryz.prog 112 #[.string key, .int .i64 n] w fun e w' => e = .returned (.tuple #[.agg #[.string key, .int .i64 n], .bool (n != 0)]) ∧ Below w.heap.size w w' := by
  have hu := Tryz.underlying73
  go_enter Tryz.func112, Tryz.ntmps112
  go_wp2
  have hbk := blk_new w (.cells #[.string key, .int .i64 n] 73)
  have hc0 : (w.alloc (.cells #[.string key, .int .i64 n] 73)).cell? ⟨w.heap.size, 0, none⟩ = some (.string key) := blk_cell hbk 0
  have hc1 : (w.alloc (.cells #[.string key, .int .i64 n] 73)).cell? ⟨w.heap.size, 1, none⟩ = some (.int .i64 n) := blk_cell hbk 1
  refine bodyPost_ret (v := .tuple #[.agg #[.string key, .int .i64 n], .bool (n != 0)]) (by simp [results, Tryz.results112, go_sem, hc0, hc1]) rfl ⟨rfl, below_alloc (Below.refl _ _) _⟩
def outM (es : MapL) : List S73 := es.filterMap fun p => if p.2 = 0 then none else some ⟨p.1, p.2⟩
def ctrCells (x : S73) : List Value := [.string x.f0, .int .i64 x.f1]
abbrev ctrRow (l : List S73) : List Value := l.flatMap ctrCells
theorem grown_refl (w : World) (row : Option Nat) : w.grownBy w row := World.grownBy.refl w row
theorem encStr_data (a : ByteArray) : encStr a.data.toList = .string a := by
  unfold encStr; simp
theorem keys_enc (es : MapL) : (keysM es).map encStr = es.map fun p => Value.string p.1 := by
  unfold keysM
  rw [List.map_map]
  exact List.map_congr_left fun p _ => encStr_data p.1
theorem getM_at {es : MapL} (h : es.Pairwise mLt) : ∀ (k : Nat) (hk : k < es.length), getM es es[k].1 = es[k].2 := by
  induction es with
  | nil => intro k hk; simp at hk
  | cons y l ih =>
    intro k hk
    rw [List.pairwise_cons] at h
    cases k with
    | zero => simp [getM]
    | succ k =>
      have hk' : k < l.length := by simpa using hk
      have := h.1 l[k] (List.getElem_mem hk')
      simp only [List.getElem_cons_succ, getM]
      rw [if_neg, ih h.2 k hk']
      intro e
      unfold mLt at this
      rw [e, less_irrefl] at this; cases this
theorem outM_take (es : MapL) (k : Nat) (h : k < es.length) : outM (es.take (k + 1)) = outM (es.take k) ++ (if es[k].2 = 0 then [] else [⟨es[k].1, es[k].2⟩]) := by
  unfold outM
  rw [List.take_succ_eq_append_getElem h, List.filterMap_append]
  congr 1
  simp only [List.filterMap_cons, List.filterMap_nil]
  split <;> simp_all
theorem key_le {w : World} {gb n : Nat} {es : MapL} (h : OwnsM w gb n es) (k : Nat) (hk : k < es.length) : (es[k].1).size ≤ maxLen := by
  have h1 := strKeys_le h Tryz.underlying9 (es[k].1.data.toList) (by
    rw [strKeys_dat]
    exact List.mem_map_of_mem (List.getElem_mem hk))
  simpa using h1
theorem own_below' {w w1 : World} {base : Nat} {e : TypeId} {size n : Nat} {v : Value} {xs : List Value} (h : w.ownsRow base e size v n xs) (hb : Below w.heap.size w w1) : w1.ownsRow base e size v n xs := pw_own_below h hb
theorem map_below {w w1 : World} {gb n : Nat} {es : MapL} (h : OwnsM w gb n es) (hb : Below w.heap.size w w1) : OwnsM w1 gb n es := by
  obtain ⟨es', clock, h1, h2⟩ := h
  exact ⟨es', clock, blk_below h1 hb, h2⟩
theorem cells2_new (w4 : World) (o : Obj) (key : ByteArray) (cv : Int) : ∀ j u, (ctrCells ⟨key, cv⟩)[j]? = some u → ((w4.alloc o).alloc (.cells #[.string key, .int .i64 cv] 73)).cell? ((⟨w4.heap.size + 1, 0, none⟩ : Addr).add j) = some u := by
  have hb : ((w4.alloc o).alloc (.cells #[.string key, .int .i64 cv] 73)).heap[w4.heap.size + 1]? = some (.cells #[.string key, .int .i64 cv] 73 (0, 0)) := by
    have := blk_new (w4.alloc o) (.cells #[.string key, .int .i64 cv] 73)
    simpa using this
  intro j u hj
  match j, hj with
  | 0, hj => simp [ctrCells] at hj; subst hj; exact blk_cell hb 0
  | 1, hj => simp [ctrCells] at hj; subst hj; exact blk_cell hb 1
  | j + 2, hj => simp [ctrCells] at hj
theorem sort_keys (base : Nat) (A : Option Addr) (c : Nat) (ss : List (List UInt8)) (es : MapL) (w : World) (hrow : w.ownsRow base 9 1 (.slice A ss.length c) ss.length (ss.map encStr)) (hperm : ss.Perm (keysM es)) (hup : es.Pairwise mLt) (hlt : es.length < 4611686018427387904) :
    Calls Tryz.prog 121 #[.slice A ss.length c] w fun e w' => e = .returned (.tuple #[]) ∧ w'.ownsRow base 9 1 (.slice A ss.length c) ss.length (es.map fun p => Value.string p.1) ∧ w.grownBy w' (Value.slice A ss.length c).ownBlock := by
  have hlen : ss.length = es.length := by rw [hperm.length_eq]; simp [keysM]
  have hms : (ss.mergeSort fun x y => decide (x ≤ y)) = keysM es := (mergeSort_of_perm hperm).trans (keys_sorted hup)
  rcases Nat.eq_zero_or_pos ss.length with h0 | hpos
  · obtain rfl := List.eq_nil_of_length_eq_zero h0
    obtain rfl := List.eq_nil_of_length_eq_zero (hlen.symm.trans h0)
    refine (Tryz.slices_Sort_string_none A c w).mono ?_
    rintro e w' ⟨rfl, rfl⟩
    exact ⟨rfl, hrow, grown_refl _ _⟩
  · rcases hrow.2 with ⟨hnil, h0⟩ | ⟨g, cap, cur, he, hbase, hb, h1, h2, h3, h4⟩
    · injection hnil with _ hn _; omega
    · cases he
      have hH : Holds encStr w g 0 ss.toArray := holds_of_block hb (by simpa using h4)
      have hgl : g < w.heap.size := blk_lt hb
      refine (Tryz.slices_Sort_string g 0 c ss w hH hgl (by omega)).mono ?_
      rintro e w' ⟨rfl, nn, os, rfl⟩
      have hrow2 := ownsRow_sorted (ss := ss) (ts := ss.mergeSort fun x y => decide (x ≤ y)) (os := os) (n := nn) (List.length_mergeSort ss) hbase hb h1 h2 h3
      refine ⟨rfl, ?_, grownBy_sorted _⟩
      rw [hms, keys_enc] at hrow2
      simpa [hms] using hrow2
set_option maxHeartbeats 4000000 in
set_option maxRecDepth 100000 in
theorem sorted_calls (gb n : Nat) (es : MapL) (w : World) (hown : OwnsM w gb n es) (hup : es.Pairwise mLt) (hlim : es.length * 32 ≤ 140737488355328) :
    Calls Tryz.prog 111 #[.map (some gb), .func (.func 112) #[] #[]] w fun e w' => ∃ v, e = .returned v ∧ w'.ownsRow w.heap.size 73 2 v (outM es).length (ctrRow (outM es)) ∧ Below w.heap.size w w' := by
  obtain ⟨i0, hi, hz0, hz1, hz2⟩ := info_parts (show (Tryz.prog.info? 9).map (fun i => (i.zero, i.size, i.bytes)) = some (some (.string ⟨#[]⟩), 1, 16) by kernel_rfl)
  obtain ⟨j0, hj, hy0, hy1, hy2⟩ := info_parts info73
  have hbl := hown.lt
  have HO := Aside0.mk hown
  have hsz := size_dat es
  have hsize : Maps.size (datM es) = es.length := hsz
  clear hsz hown
  go_enter Tryz.func111, Tryz.ntmps111
  go_wp2_with (first
    | (at_range; refine wpList_range_own _ rfl _ 99 rfl 9 3 lawS Tryz.underlying99 _ gb n _ rfl HO.out ?_; intro w1 hrg0 hg0 hs0))
  go_frame
  go_loopw [5] (fun v wr => ∃ (left : Lit → Bool) (cnt : Nat) (ss : List (List UInt8)), Aside0 (wr.ranges Tryz.prog 9 (plainElem (H := Unit) Tryz.prog 3) gb w.heap.size n (datM es) left cnt) ∧ Aside0 (ss.length + cnt ≤ es.length) ∧
      Aside0 (wr.ownsRow w.heap.size 9 1 v ss.length (ss.map encStr)) ∧ Aside0 (Collected (datM es) left ss) ∧ Aside0 (Below w.heap.size w wr))
    (fun _ wr => wr.rangeLeft gb w.heap.size)
  case atStart => exact ⟨_, _, [], ⟨hrg0⟩, ⟨by simp [hsize]⟩, ⟨own_nil _ _ _ _⟩, ⟨Collected.start _⟩, ⟨(Below.refl _ _).grown hg0 (Nat.le_refl _) (fun j hj => by cases hj)⟩⟩
  case round =>
    clear hrg0 hg0 hs0
    obtain ⟨left, cnt, ss, hrg, hcs, hrow, hC, hnx⟩ := hrel
    obtain ⟨A, c, rfl⟩ := own_slice hrow.out
    go_wp2_with (first
      | (at_next; refine wpList_next_ranges _ rfl _ rfl 9 lawS (plainElem Tryz.prog 3) encStr (Value.int .i64) (fun key kl hk => by obtain ⟨x, hx, _⟩ := Maps.keyOf_str Tryz.underlying9 hk; exact ⟨x, hx⟩) (fun v y hv => by obtain ⟨c, rfl, _⟩ := plainElem_int_inv Tryz.underlying3 hv; exact ⟨c, rfl⟩) gb w.heap.size n _ _ _ rfl hrg.out ?_ ?_))
    · intro hc0 hl0
      have hperm : ss.Perm (keysM es) := by
        have := hC.out.perm HO.out lawS Tryz.underlying9 hl0
        rwa [strKeys_dat] at this
      have hlen : ss.length = es.length := by rw [hperm.length_eq]; simp [keysM]
      have HSK := Aside0.mk (sort_keys w.heap.size A c ss es wr hrow.out hperm hup (by omega))
      have HOr := Aside0.mk (show OwnsM wr gb n es from hrg.out.owns)
      have HROW := Aside0.mk (row_ne_low hrow.out hbl)
      have hsl : ss.length ≤ 9223372036854775807 := by omega
      have HLEN := Aside0.mk hlen
      clear hc0 hl0 hrg hC hcs hperm hlen
      go_wp2_with (first | (go_at_call 121; refine HSK.out.mono ?_; rintro e w3 ⟨rfl, hrow3, hg3⟩))
      have HR3 := Aside0.mk hrow3
      have HO3 := Aside0.mk (HOr.out.kept hg3 HROW.out)
      have HB3 := Aside0.mk (hnx.out.grown hg3 hnx.out.size (own_base hrow.out))
      clear hrow3 hg3 HSK HOr HROW hnx hrow
      have hum := Tryz.underlying99
      go_loopw [7, 26] (fun v i wr => ∃ k : Nat, k ≤ ss.length ∧ i = .int .i64 k ∧ Aside0 (wr.ownsRow w.heap.size 9 1 (.slice A ss.length c) ss.length (es.map fun p => Value.string p.1)) ∧ Aside0 (OwnsM wr gb n es) ∧
        Aside0 (wr.ownsRow w.heap.size 73 2 v (outM (es.take k)).length (ctrRow (outM (es.take k)))) ∧ Aside0 (Below w.heap.size w wr)) (fun _ i _ => ss.length - (intOf i).toNat)
      case atStart => exact ⟨0, Nat.zero_le _, rfl, HR3, HO3, ⟨own_nil _ _ _ _⟩, HB3⟩
      case round =>
        clear HR3 HO3 HB3
        obtain ⟨k, hk, rfl, HK, HM, HV, HB⟩ := hrel
        obtain ⟨A', c', rfl⟩ := own_slice HV.out
        by_cases hlt : k < ss.length
        · obtain ⟨g, c2, e, hgb, hgl⟩ := HK.out.form (by omega)
          cases e
          have hlt2 : k < es.length := by have := HLEN.out; omega
          have hcell : wr.cell? ⟨g, k, none⟩ = some (.string (es[k].1)) := by
            rw [HK.out.cellAt k (by omega)]
            simp [hlt2]
          have hkl : (es[k].1).size ≤ maxLen := key_le HO.out k hlt2
          have HGET := Aside0.mk (getM_at hup k hlt2)
          have HTAKE := Aside0.mk (outM_take es k hlt2)
          generalize hkey : es[k].1 = key at hcell hkl HGET HTAKE
          generalize hval : es[k].2 = val at HGET HTAKE
          clear hkey hval
          go_wp2_with (first
            | (at_lookup; refine wpList_lookup_own_int _ rfl _ _ 99 rfl 9 3 .i64 lawS Tryz.underlying99 Tryz.underlying3 (zeroI _) gb _ _ rfl HM.out _ _ rfl (Go.WideMaps.keyOf_string_mk Tryz.underlying9 hkl) ?_; intro cv hat hwc; have HC := Aside0.mk hat; clear hat hwc))
          refine (list_clo _ _ _).mono ?_
          rintro e w4 ⟨rfl, hb⟩
          obtain rfl : cv = val := by
            have h2 := HC.out
            rw [at_dat] at h2
            injection h2 with h2
            injection h2 with _ h2
            rw [← h2]; exact HGET.out
          have HK4 := Aside0.mk (own_below' HK.out hb)
          have HM4 := Aside0.mk (map_below HM.out hb)
          have HV4 := Aside0.mk (own_below' HV.out hb)
          have HB4 := Aside0.mk (below_step HB.out hb)
          have hsz4 := HB4.out.size
          clear hb HK HM HV HB HC HGET hcell
          by_cases hv : cv = 0
          · have hv2 : (cv != 0) = false := by simp [hv]
            have HT : outM (es.take (k + 1)) = outM (es.take k) := by rw [HTAKE.out, if_pos hv, List.append_nil]
            have HVA : Aside0 ((w4.alloc (.cells #[.string key, .int .i64 cv] 73)).ownsRow w.heap.size 73 2 (.slice A' (outM (es.take k)).length c') (outM (es.take (k + 1))).length (ctrRow (outM (es.take (k + 1))))) := ⟨by rw [HT]; exact HV4.out.alloc _⟩
            clear HT HTAKE hv HV4
            have HK5 := Aside0.mk (HK4.out.alloc (.cells #[.string key, .int .i64 cv] 73))
            have HM5 : Aside0 (OwnsM (w4.alloc (.cells #[.string key, .int .i64 cv] 73)) gb n es) := ⟨HM4.out.alloc _⟩
            have HB5 := Aside0.mk (below_alloc HB4.out (.cells #[.string key, .int .i64 cv] 73))
            clear HK4 HM4 HB4
            go_wp2
            go_roundw
            case rel => exact ⟨k + 1, by omega, by go_num, HK5, HM5, HVA, HB5⟩
            case measure => simp [intOf]; omega
          · have hv2 : (cv != 0) = true := by simp [hv]
            have HT := Aside0.mk (show outM (es.take (k + 1)) = outM (es.take k) ++ [⟨key, cv⟩] by rw [HTAKE.out, if_neg hv])
            clear HTAKE hv
            have hol : (outM (es.take k)).length + 1 ≤ es.length := by
              have h1 : (outM (es.take k)).length ≤ (es.take k).length := List.length_filterMap_le _ _
              have h2 : (es.take k).length = k := by rw [List.length_take]; omega
              omega
            have hob : ((outM (es.take k)).length + 1) * 24 ≤ 140737488355328 := Nat.le_trans (Nat.mul_le_mul_right 24 hol) (by omega)
            have hom : (outM (es.take k)).length + 1 ≤ maxLen := by unfold maxLen; omega
            have hnw := Aside0.mk (cells2_new w4 (.cells #[.string key, .int .i64 cv] 73) key cv)
            have hones : ∀ u ∈ ctrCells ⟨key, cv⟩, u.oneCell' = true := by simp [ctrCells, Value.oneCell']
            have HNE := Aside0.mk (show (Value.slice (some ⟨g, 0, none⟩) ss.length c).ownBlock ≠ (Value.slice A' (outM (es.take k)).length c').ownBlock from fun e => by
              obtain ⟨c1, h1⟩ := own_typed HK4.out g rfl
              obtain ⟨c2, h2⟩ := own_typed HV4.out g e.symm
              rw [h1] at h2
              cases h2)
            have HLOW := Aside0.mk (row_ne_low HV4.out hbl)
            go_wp2_with (first
              | (at_builtin; refine wpList_append_own _ rfl _ _ 22 rfl w.heap.size 73 j0 _ 2 24 Tryz.underlying22 hj hy0 hy1 hy2 rfl (by decide) _ _ _ rfl ((HV4.out.alloc (.cells #[.string key, .int .i64 cv] 73)).alloc (.cells #[.string key, .int .i64 cv] 73)) ⟨w4.heap.size + 1, 0, none⟩ 1 1 (ctrCells ⟨key, cv⟩) rfl rfl hnw.out hones hom hob (by simp; omega) ?_; intro v' w5 hown5 hg5 hnil5; go_frame))
            have HK5 := Aside0.mk (((HK4.out.alloc _).alloc _).kept hg5 (Or.inr HNE.out))
            have HM5 : Aside0 (OwnsM w5 gb n es) := ⟨((HM4.out.alloc _).alloc _).kept hg5 HLOW.out⟩
            have HB5 := Aside0.mk ((below_alloc (below_alloc HB4.out _) _).grown hg5 (by simp; omega) (own_base HV4.out))
            have HV5 : Aside0 (w5.ownsRow w.heap.size 73 2 v' (outM (es.take (k + 1))).length (ctrRow (outM (es.take (k + 1))))) := ⟨by rw [HT.out, List.length_append]; unfold ctrRow; rw [List.flatMap_append]; simpa using hown5⟩
            clear hown5 hg5 hnil5 HK4 HM4 HB4 HV4 HNE HLOW HT
            go_roundw
            case rel => exact ⟨k + 1, by omega, by go_num, HK5, HM5, HV5, HB5⟩
            case measure => simp [intOf]; omega
        · have HT := Aside0.mk (show es.take k = es by rw [List.take_of_length_le (by have := HLEN.out; omega)])
          have H : wr.ownsRow w.heap.size 73 2 (.slice A' (outM (es.take k)).length c') (outM es).length (ctrRow (outM es)) := by
            have := HV.out
            rw [HT.out] at this ⊢
            exact this
          have HF := Aside0.mk H
          clear H HV
          go_wp2
          go_ret
          exact ⟨_, rfl, HF.out, HB.out⟩
    · intro x cv kl yd yp w2 cnt2 hkey hlk hv hat hrg2 hlt hg2 hs2 hen
      obtain ⟨x', ex, rfl, _⟩ := Maps.keyOf_str Tryz.underlying9 hkey
      obtain rfl : x = x' := encStr_inj ex
      have HROW2 := Aside0.mk (hrow.out.kept hg2 (Or.inr (row_ne_iter hrow.out hrg.out).symm))
      have HRG2 := Aside0.mk hrg2
      have HC2 := Aside0.mk (hC.out.step hlk hat)
      have HLT := Aside0.mk hlt
      have HG2 := Aside0.mk hg2
      have hnew : ss.length + 1 ≤ es.length := by have := hcs.out; omega
      have hb16 : (ss.length + 1) * 16 ≤ 140737488355328 := Nat.le_trans (Nat.mul_le_mul_right 16 hnew) (by omega)
      have hml : ss.length + 1 ≤ maxLen := by unfold maxLen; omega
      have hw2 := Nat.le_trans hnx.out.size hg2.size
      clear hs2 hkey hlk hv hat hrg2 hlt hg2 ex hC
      go_wp2_with (first
        | (at_builtin; refine wpList_append_own _ rfl _ _ 50 rfl w.heap.size 9 i0 (.string ⟨#[]⟩) 1 16 Tryz.underlying50 hi hz0 hz1 hz2 rfl (by decide) _ _ _ rfl (HROW2.out.alloc _) ⟨w2.heap.size, 0, none⟩ 1 1 [encStr x] rfl rfl (cell_one_new _ _ _) (by simp [Value.oneCell', encStr]) hml hb16 (by simp; omega) ?_; intro v' w3 hown' hg3 hnil3; go_frame))
      have HRG3 := Aside0.mk ((HRG2.out.alloc _).kept hg3 (row_ne_low HROW2.out hbl) (row_ne_iter HROW2.out HRG2.out))
      have HB3 := Aside0.mk ((below_alloc (hnx.out.grown HG2.out hnx.out.size (fun j hj => by cases hj; exact Nat.le_refl _)) _).grown hg3 (by simp; omega) (own_base HROW2.out))
      have HO3 : Aside0 (w3.ownsRow w.heap.size 9 1 v' (ss ++ [x]).length ((ss ++ [x]).map encStr)) := ⟨by simpa using hown'⟩
      have HN3 : Aside0 ((ss ++ [x]).length + cnt2 ≤ es.length) := ⟨by have := HLT.out; have := hcs.out; simp; omega⟩
      clear hown' hnil3
      go_roundw
      case rel => exact ⟨_, cnt2, ss ++ [x], HRG3, HN3, HO3, HC2, HB3⟩
      case measure => rw [HRG3.out.left_eq, hrg.out.left_eq]; exact HLT.out
end Go.Proofs.YtmcddoolniaehaaGreat.S
end
section
namespace Go.Proofs.YtmcddoolniaehaaGreat.S
open Go.RowKit Go.Proofs.YtmcddoolniaehaaGreatW.PrintWords Go.Proofs.YtmcddoolniaehaaGreatW.PrintLast Go.Proofs.YtmcddoolniaehaaGreatW.PrintMore
abbrev I : Bool := true
abbrev O : Bool := false
theorem sqA {α : Type _} (l : List α) (i : Nat) (a : α) : l.toArray.setIfInBounds i a = (l.set i a).toArray := List.setIfInBounds_toArray ..
theorem sqB {α : Type _} (x : α) (xs : List α) (a : α) : (x :: xs).set 0 a = a :: xs := rfl
theorem sqC {α : Type _} (x : α) (xs : List α) (n : Nat) (a : α) : (x :: xs).set (n + 1) a = x :: xs.set n a := rfl
theorem sqP {P : Program} {ops : Array Oper} {Q : Exit → Act → World → Prop} {md : Region.Mode} {S : World → Prop} {ds : List Nat} {i : Nat} {N : Option Tmp} {oi : Oper} {v : Value} {fuel : Nat} {l : Array Bool} {a : Act} {w : World} {T : Bool × List (List Nat × List Nat)} (l' : Array Bool) (hi : ops[i]? = some oi) (hN : oi.dst = N) (hT : rtab md ops = T)
    (hy : Yields P ops oi v a) {a' : Act} (ha : a.put N v = a')
    (h : wpAnyLast P md ops Q S ds fuel l' a' w) (hc : anyT T l.toList l'.toList i = true := by kernel_rfl) (hQ : ∀ c a w, Q (.panic c) (a.put oi.dst v) w → Q (.panic c) a w := by exact fun _ _ _ h => h) : wpAnyLast P md ops Q S ds (fuel + 1) l a w :=
  pure_ l' hi hN (any_of hT hc) hQ hy ha h
theorem blN {w : World} {g : Nat} {o : Obj} (h : w.heap[g]? = some o) (n : Nat) : (w.drewN n).heap[g]? = some o := h
theorem blD {w : World} {g : Nat} {o : Obj} (h : w.heap[g]? = some o) : w.drew.heap[g]? = some o := h
theorem blA {w : World} {g : Nat} {o : Obj} (h : w.heap[g]? = some o) (o' : Obj) : (w.alloc o').heap[g]? = some o := blk_alloc h o'
end Go.Proofs.YtmcddoolniaehaaGreat.S
end
section
namespace Go.Proofs
open Go.Shelf
def Tryz.lays137_ren : Go.Shelf.Ren := ⟨fun | 137 => 110 | 217 => 120 | 266 => 130 | n => n, fun | 9 => 9 | 5 => 5 | 3 => 3 | n => n, fun | n => n⟩
theorem Tryz.lays137 : Go.Proofs.Lays.n137 Tryz.prog Tryz.lays137_ren := {
  mixed := by kernel_rfl
  f137 := Tryz.func110.trans (congrArg some (by kernel_rfl))
  f217 := Tryz.func120.trans (congrArg some (by kernel_rfl))
  f266 := Tryz.func130.trans (congrArg some (by kernel_rfl))
  t3 := Tryz.underlying3
  a3 := Tryz.isAgg3
  z3 := Tryz.sizeOf3
  v3 := Tryz.zeroValue3
  t5 := Tryz.underlying5
  a5 := Tryz.isAgg5
  z5 := Tryz.sizeOf5
  v5 := Tryz.zeroValue5
  t9 := Tryz.underlying9
  a9 := Tryz.isAgg9
  z9 := Tryz.sizeOf9
  v9 := Tryz.zeroValue9 }
open Go.RowKit in
theorem Tryz.strings_IndexByte (s : ByteArray) (c : Int) (w : World) :
    Calls Tryz.prog 110 #[.string s, .int .u8 c] w fun e w' => e = .returned (.int .i64 (Lib.indexByte s.data.toList c.toNat.toUInt8)) ∧ w' = w := Any.strings_IndexByte Tryz.lays137 s c w
def Tryz.lays217_ren : Go.Shelf.Ren := ⟨fun | 217 => 120 | 266 => 130 | n => n, fun | 9 => 9 | 5 => 5 | 3 => 3 | n => n, fun | n => n⟩
theorem Tryz.lays217 : Go.Proofs.Lays.n217 Tryz.prog Tryz.lays217_ren := {
  mixed := by kernel_rfl
  f217 := Tryz.func120.trans (congrArg some (by kernel_rfl))
  f266 := Tryz.func130.trans (congrArg some (by kernel_rfl))
  t3 := Tryz.underlying3
  a3 := Tryz.isAgg3
  z3 := Tryz.sizeOf3
  v3 := Tryz.zeroValue3
  t5 := Tryz.underlying5
  a5 := Tryz.isAgg5
  z5 := Tryz.sizeOf5
  v5 := Tryz.zeroValue5
  t9 := Tryz.underlying9
  a9 := Tryz.isAgg9
  z9 := Tryz.sizeOf9
  v9 := Tryz.zeroValue9 }
open Go.RowKit Go.Lib in
theorem Tryz.stringslite_IndexByte (s : ByteArray) (c : Int) (w : World) :
    Calls Tryz.prog 120 #[.string s, .int .u8 c] w fun e w' => e = .returned (.int .i64 (Lib.indexByte s.data.toList c.toNat.toUInt8)) ∧ w' = w := Any.stringslite_IndexByte Tryz.lays217 s c w
end Go.Proofs
end
section
namespace Go.Proofs.YtmcddoolniaehaaGreat.S
open Go.RowKit Go.Proofs.YtmcddoolniaehaaGreatW.PrintWords Go.Proofs.YtmcddoolniaehaaGreatW.PrintLast Go.Proofs.YtmcddoolniaehaaGreatW.PrintMore
set_option linter.unusedVariables false
set_option linter.unusedSimpArgs false

def keyChar (c : UInt8) : Bool := decide (97 ≤ c.toNat ∧ c.toNat ≤ 122) || decide (48 ≤ c.toNat ∧ c.toNat ≤ 57)
def keyB (l : List UInt8) : Bool := l.all keyChar && (decide (1 ≤ l.length) && decide (l.length ≤ 8))
def ops_Key.f (a0 : ByteArray) : Option (Bool) := if a0.size ≤ 9223372036854775807 then some (keyB a0.data.toList) else none
def signs : List UInt8 := [97, 98, 99, 100, 101, 102, 103, 104, 105, 106, 107, 108, 109, 110, 111, 112, 113, 114, 115, 116, 117, 118, 119, 120, 121, 122, 48, 49, 50, 51, 52, 53, 54, 55, 56, 57]
theorem signs_all : ∀ n : Fin 256, decide (Lib.indexByte signs (UInt8.ofNat n.1) < 0) = !keyChar (UInt8.ofNat n.1) := by decide +kernel
theorem signs_at (c : UInt8) : decide (Lib.indexByte signs c < 0) = !keyChar c := by
  have h := signs_all ⟨c.toNat, c.toNat_lt⟩
  simpa using h
theorem ops_Key.calls (a0 : ByteArray) (r : Bool) (w : World) (h : ops_Key.f a0 = some r) :
    Calls Tryz.prog 76 #[.string a0] w fun e w' => e = .returned (.bool r) ∧ Drawn0 w w' := by
  have hs : a0.size ≤ 9223372036854775807 := by
    by_cases q : a0.size ≤ 9223372036854775807
    · exact q
    · simp [ops_Key.f, q] at h
  obtain rfl : keyB a0.data.toList = r := by simpa [ops_Key.f, hs] using h
  clear h
  go_enter Tryz.func76, Tryz.ntmps76
  go_wp2
  go_loop [6] (fun i => ∃ k : Nat, k ≤ a0.size ∧ i = .int .i64 k ∧ Aside0 ((a0.data.toList.take k).all keyChar = true)) (fun i => a0.size - (intOf i).toNat)
  case atStart => exact ⟨0, Nat.zero_le _, rfl, ⟨by simp⟩⟩
  case round =>
    obtain ⟨k, hk, rfl, ha⟩ := hrel
    by_cases hlt : k < a0.size
    · have hc := signs_at a0[k]
      have htk : a0.data.toList.take (k + 1) = a0.data.toList.take k ++ [a0[k]] := by
        rw [List.take_succ_eq_append_getElem (by simpa using hlt)]; rfl
      have hmem : a0[k] ∈ a0.data.toList := by
        have : a0[k] = a0.data.toList[k]'(by simpa using hlt) := rfl
        rw [this]; exact List.getElem_mem _
      cases hq : keyChar a0[k] with
      | true =>
        have H1 := Aside0.mk (show (a0.data.toList.take (k + 1)).all keyChar = true by rw [htk, List.all_append, ha.out]; simp [hq])
        rw [hq] at hc
        clear hq htk ha hmem
        have hc2 : decide (Lib.indexByte signs a0[k] < 0) = false := hc
        clear hc
        have H2 := Aside0.mk hc2
        clear hc2
        go_wp2_with fail
        refine (Tryz.strings_IndexByte _ _ _).mono ?_
        rintro e w' ⟨rfl, rfl⟩
        have hc := H2.out
        simp only [signs] at hc
        generalize hn : Lib.indexByte _ _ = n
        have hn0 : decide (n < 0) = false := by rw [← hn]; first | exact hc | (have h2 := of_decide_eq_false hc; simp at h2 ⊢; exact h2)
        clear hc hn H2
        go_wp2
        go_round
        case rel => exact ⟨k + 1, by omega, by go_num, H1⟩
        case measure => simp [intOf]; omega
      | false =>
        have H1 := Aside0.mk (show keyB a0.data.toList = false by
          unfold keyB
          rw [Bool.and_eq_false_iff]
          refine .inl ?_
          rw [List.all_eq_false]
          exact ⟨a0[k], hmem, by simp [hq]⟩)
        rw [hq] at hc
        clear hq htk ha hmem
        have hc2 : decide (Lib.indexByte signs a0[k] < 0) = true := hc
        clear hc
        have H2 := Aside0.mk hc2
        clear hc2
        go_wp2_with fail
        refine (Tryz.strings_IndexByte _ _ _).mono ?_
        rintro e w' ⟨rfl, rfl⟩
        have hc := H2.out
        simp only [signs] at hc
        generalize hn : Lib.indexByte _ _ = n
        have hn0 : decide (n < 0) = true := by rw [← hn]; first | exact hc | (have h2 := of_decide_eq_true hc; simp at h2 ⊢; exact h2)
        clear hc hn H2
        go_wp2
        go_ret
        exact ⟨by rw [H1.out]; rfl, Drawn0.refl _⟩
    · have hk' : k = a0.size := by omega
      have H1 := Aside0.mk (show a0.data.toList.all keyChar = true by
        have := ha.out
        rwa [List.take_of_length_le (by rw [hk']; simp)] at this)
      clear ha
      have HL := Aside0.mk (show a0.data.toList.length = a0.size from data_length a0)
      have he : a0.toList = a0.data.toList := ByteArray.toList_eq a0
      by_cases h0 : a0.size = 0
      · have h1 : a0.data.toList = [] := List.eq_nil_of_length_eq_zero (by rw [data_length]; exact h0)
        have HF := Aside0.mk (show keyB a0.data.toList = false by rw [h1]; rfl)
        have h2 : a0.toList.isEmpty = true := by rw [he, h1]; rfl
        clear h0 h1 hk' he H1 HL
        go_wp2
        go_ret
        exact ⟨by rw [HF.out]; rfl, Drawn0.refl _⟩
      · have h2 : a0.toList.isEmpty = false := by
          rw [he, List.isEmpty_eq_false_iff_exists_mem]
          have : 0 < a0.data.toList.length := by rw [data_length]; omega
          exact ⟨_, List.getElem_mem this⟩
        by_cases h8 : a0.size ≤ 8
        · have HF := Aside0.mk (show keyB a0.data.toList = true by
            unfold keyB
            rw [H1.out, HL.out]
            simp; omega)
          have h9 : decide ((a0.size : Int) ≤ 8) = true := by simp; omega
          clear h0 hk' he H1 HL h8
          go_wp2
          go_ret
          exact ⟨by rw [HF.out]; rfl, Drawn0.refl _⟩
        · have HF := Aside0.mk (show keyB a0.data.toList = false by
            unfold keyB
            rw [HL.out]
            simp; omega)
          have h9 : decide ((a0.size : Int) ≤ 8) = false := by simp; omega
          clear h0 hk' he H1 HL h8
          go_wp2
          go_ret
          exact ⟨by rw [HF.out]; rfl, Drawn0.refl _⟩
end Go.Proofs.YtmcddoolniaehaaGreat.S
end
