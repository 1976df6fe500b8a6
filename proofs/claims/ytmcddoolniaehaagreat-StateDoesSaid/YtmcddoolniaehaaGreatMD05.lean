/- Several of the walk's texts in one: SHCtrSorted, SSq, STake, Shelf, SHKey, SHCMay, SHCtrMay, SHCtrInc. -/
import Derived.Maps.RangeWalk
import Derived.Sort.OwnSorted
import Derived.Sort.KeysCollected
import Derived.OwnWalk
import Derived.Deep.RegionHeld3
import Derived.Deep.DeepCutAuto
import Derived.RegionTactic
import Derived.StillTailTactics
import Derived.Deep.DrawnRows
import Derived.Shelf.Small.Strs
import Derived.Shelf.Strings.Search1
import Derived.Test.YtmcddoolniaehaaGreatProg
import Derived.BigQuiet
import Derived.Test.YtmcddoolniaehaaGreatMD04
section
namespace Go.Proofs.YtmcddoolniaehaaGreat.S
open Go.RowKit Go.Maps Go.Sort Go.Proofs.YtmcddoolniaehaaGreatW.PrintWords Go.Proofs.YtmcddoolniaehaaGreatW.PrintLast Go.Proofs.YtmcddoolniaehaaGreatW.PrintMore Go.Proofs.YtmcddoolniaehaaGreatW
set_option linter.unusedVariables false
set_option linter.unusedSimpArgs false
set_option maxRecDepth 100000 in
theorem list_clo (key : ByteArray) (n : Int) (w : World) :
    Calls Tryz.prog 112 #[.string key, .int .i64 n] w fun e w' => e = .returned (.tuple #[.agg #[.string key, .int .i64 n], .bool (n != 0)]) ∧ Below w.heap.size w w' := by
  have hu := Tryz.underlying73
  go_enter Tryz.func112, Tryz.ntmps112
  go_wp2
  have hbk := blk_new w (.cells #[.string key, .int .i64 n] 73)
  have hc0 : (w.alloc (.cells #[.string key, .int .i64 n] 73)).cell? ⟨w.heap.size, 0, none⟩ = some (.string key) := blk_cell hbk 0
  have hc1 : (w.alloc (.cells #[.string key, .int .i64 n] 73)).cell? ⟨w.heap.size, 1, none⟩ = some (.int .i64 n) := blk_cell hbk 1
  refine bodyPost_ret (v := .tuple #[.agg #[.string key, .int .i64 n], .bool (n != 0)]) (by simp [results, Tryz.results112, go_sem, hc0, hc1]) rfl ⟨rfl, below_alloc (Below.refl _ _) _⟩
def outM (es : MapL) : List S73 := es.filterMap fun p => if p.2 = 0 then none else some ⟨p.1, p.2⟩
def ctrCells (x : S73) : List Value := [.string x.f0, .int .i64 x.f1]
abbrev ctrRow (l : List S73) : List Value := l.flatMap ctrCells
theorem grown_refl (w : World) (row : Option Nat) : w.grownBy w row := World.grownBy.refl w row
theorem encStr_data (a : ByteArray) : encStr a.data.toList = .string a := by
  unfold encStr; simp
theorem keys_enc (es : MapL) : (keysM es).map encStr = es.map fun p => Value.string p.1 := by
  unfold keysM
  rw [List.map_map]
  exact List.map_congr_left fun p _ => encStr_data p.1
theorem getM_at {es : MapL} (h : es.Pairwise mLt) : ∀ (k : Nat) (hk : k < es.length), getM es es[k].1 = es[k].2 := by
  induction es with
  | nil => intro k hk; simp at hk
  | cons y l ih =>
    intro k hk
    rw [List.pairwise_cons] at h
    cases k with
    | zero => simp [getM]
    | succ k =>
      have hk' : k < l.length := by simpa using hk
      have := h.1 l[k] (List.getElem_mem hk')
      simp only [List.getElem_cons_succ, getM]
      rw [if_neg, ih h.2 k hk']
      intro e
      unfold mLt at this
      rw [e, less_irrefl] at this; cases this
theorem outM_take (es : MapL) (k : Nat) (h : k < es.length) : outM (es.take (k + 1)) = outM (es.take k) ++ (if es[k].2 = 0 then [] else [⟨es[k].1, es[k].2⟩]) := by
  unfold outM
  rw [List.take_succ_eq_append_getElem h, List.filterMap_append]
  congr 1
  simp only [List.filterMap_cons, List.filterMap_nil]
  split <;> simp_all
theorem key_le {w : World} {gb n : Nat} {es : MapL} (h : OwnsM w gb n es) (k : Nat) (hk : k < es.length) : (es[k].1).size ≤ maxLen := by
  have h1 := strKeys_le h Tryz.underlying9 (es[k].1.data.toList) (by
    rw [strKeys_dat]
    exact List.mem_map_of_mem (List.getElem_mem hk))
  simpa using h1
theorem own_below' {w w1 : World} {base : Nat} {e : TypeId} {size n : Nat} {v : Value} {xs : List Value} (h : w.ownsRow base e size v n xs) (hb : Below w.heap.size w w1) : w1.ownsRow base e size v n xs := pw_own_below h hb
theorem map_below {w w1 : World} {gb n : Nat} {es : MapL} (h : OwnsM w gb n es) (hb : Below w.heap.size w w1) : OwnsM w1 gb n es := by
  obtain ⟨es', clock, h1, h2⟩ := h
  exact ⟨es', clock, blk_below h1 hb, h2⟩
theorem cells2_new (w4 : World) (o : Obj) (key : ByteArray) (cv : Int) : ∀ j u, (ctrCells ⟨key, cv⟩)[j]? = some u → ((w4.alloc o).alloc (.cells #[.string key, .int .i64 cv] 73)).cell? ((⟨w4.heap.size + 1, 0, none⟩ : Addr).add j) = some u := by
  have hb : ((w4.alloc o).alloc (.cells #[.string key, .int .i64 cv] 73)).heap[w4.heap.size + 1]? = some (.cells #[.string key, .int .i64 cv] 73 (0, 0)) := by
    have := blk_new (w4.alloc o) (.cells #[.string key, .int .i64 cv] 73)
    simpa using this
  intro j u hj
  match j, hj with
  | 0, hj => simp [ctrCells] at hj; subst hj; exact blk_cell hb 0
  | 1, hj => simp [ctrCells] at hj; subst hj; exact blk_cell hb 1
  | j + 2, hj => simp [ctrCells] at hj
theorem sort_keys (base : Nat) (A : Option Addr) (c : Nat) (ss : List (List UInt8)) (es : MapL) (w : World) (hrow : w.ownsRow base 9 1 (.slice A ss.length c) ss.length (ss.map encStr)) (hperm : ss.Perm (keysM es)) (hup : es.Pairwise mLt) (hlt : es.length < 4611686018427387904) :
    Calls Tryz.prog 121 #[.slice A ss.length c] w fun e w' => e = .returned (.tuple #[]) ∧ w'.ownsRow base 9 1 (.slice A ss.length c) ss.length (es.map fun p => Value.string p.1) ∧ w.grownBy w' (Value.slice A ss.length c).ownBlock := by
  have hlen : ss.length = es.length := by rw [hperm.length_eq]; simp [keysM]
  have hms : (ss.mergeSort fun x y => decide (x ≤ y)) = keysM es := (mergeSort_of_perm hperm).trans (keys_sorted hup)
  rcases Nat.eq_zero_or_pos ss.length with h0 | hpos
  · obtain rfl := List.eq_nil_of_length_eq_zero h0
    obtain rfl := List.eq_nil_of_length_eq_zero (hlen.symm.trans h0)
    refine (Tryz.slices_Sort_string_none A c w).mono ?_
    rintro e w' ⟨rfl, rfl⟩
    exact ⟨rfl, hrow, grown_refl _ _⟩
  · rcases hrow.2 with ⟨hnil, h0⟩ | ⟨g, cap, cur, he, hbase, hb, h1, h2, h3, h4⟩
    · injection hnil with _ hn _; omega
    · cases he
      have hH : Holds encStr w g 0 ss.toArray := holds_of_block hb (by simpa using h4)
      have hgl : g < w.heap.size := blk_lt hb
      refine (Tryz.slices_Sort_string g 0 c ss w hH hgl (by omega)).mono ?_
      rintro e w' ⟨rfl, nn, os, rfl⟩
      have hrow2 := ownsRow_sorted (ss := ss) (ts := ss.mergeSort fun x y => decide (x ≤ y)) (os := os) (n := nn) (List.length_mergeSort ss) hbase hb h1 h2 h3
      refine ⟨rfl, ?_, grownBy_sorted _⟩
      rw [hms, keys_enc] at hrow2
      simpa [hms] using hrow2
set_option maxHeartbeats 4000000 in
set_option maxRecDepth 100000 in
theorem sorted_calls (gb n : Nat) (es : MapL) (w : World) (hown : OwnsM w gb n es) (hup : es.Pairwise mLt) (hlim : es.length * 32 ≤ 140737488355328) :
    Calls Tryz.prog 111 #[.map (some gb), .func (.func 112) #[] #[]] w fun e w' => ∃ v, e = .returned v ∧ w'.ownsRow w.heap.size 73 2 v (outM es).length (ctrRow (outM es)) ∧ Below w.heap.size w w' := by
  obtain ⟨i0, hi, hz0, hz1, hz2⟩ := info_parts (show (Tryz.prog.info? 9).map (fun i => (i.zero, i.size, i.bytes)) = some (some (.string ⟨#[]⟩), 1, 16) by kernel_rfl)
  obtain ⟨j0, hj, hy0, hy1, hy2⟩ := info_parts info73
  have hbl := hown.lt
  have HO := Aside0.mk hown
  have hsz := size_dat es
  have hsize : Maps.size (datM es) = es.length := hsz
  clear hsz hown
  go_enter Tryz.func111, Tryz.ntmps111
  go_wp2_with (first
    | (at_range; refine wpList_range_own _ rfl _ 99 rfl 9 3 lawS Tryz.underlying99 _ gb n _ rfl HO.out ?_; intro w1 hrg0 hg0 hs0))
  go_frame
  go_loopw [5] (fun v wr => ∃ (left : Lit → Bool) (cnt : Nat) (ss : List (List UInt8)), Aside0 (wr.ranges Tryz.prog 9 (plainElem (H := Unit) Tryz.prog 3) gb w.heap.size n (datM es) left cnt) ∧ Aside0 (ss.length + cnt ≤ es.length) ∧
      Aside0 (wr.ownsRow w.heap.size 9 1 v ss.length (ss.map encStr)) ∧ Aside0 (Collected (datM es) left ss) ∧ Aside0 (Below w.heap.size w wr))
    (fun _ wr => wr.rangeLeft gb w.heap.size)
  case atStart => exact ⟨_, _, [], ⟨hrg0⟩, ⟨by simp [hsize]⟩, ⟨own_nil _ _ _ _⟩, ⟨Collected.start _⟩, ⟨(Below.refl _ _).grown hg0 (Nat.le_refl _) (fun j hj => by cases hj)⟩⟩
  case round =>
    clear hrg0 hg0 hs0
    obtain ⟨left, cnt, ss, hrg, hcs, hrow, hC, hnx⟩ := hrel
    obtain ⟨A, c, rfl⟩ := own_slice hrow.out
    go_wp2_with (first
      | (at_next; refine wpList_next_ranges _ rfl _ rfl 9 lawS (plainElem Tryz.prog 3) encStr (Value.int .i64) (fun key kl hk => by obtain ⟨x, hx, _⟩ := Maps.keyOf_str Tryz.underlying9 hk; exact ⟨x, hx⟩) (fun v y hv => by obtain ⟨c, rfl, _⟩ := plainElem_int_inv Tryz.underlying3 hv; exact ⟨c, rfl⟩) gb w.heap.size n _ _ _ rfl hrg.out ?_ ?_))
    · intro hc0 hl0
      have hperm : ss.Perm (keysM es) := by
        have := hC.out.perm HO.out lawS Tryz.underlying9 hl0
        rwa [strKeys_dat] at this
      have hlen : ss.length = es.length := by rw [hperm.length_eq]; simp [keysM]
      have HSK := Aside0.mk (sort_keys w.heap.size A c ss es wr hrow.out hperm hup (by omega))
      have HOr := Aside0.mk (show OwnsM wr gb n es from hrg.out.owns)
      have HROW := Aside0.mk (row_ne_low hrow.out hbl)
      have hsl : ss.length ≤ 9223372036854775807 := by omega
      have HLEN := Aside0.mk hlen
      clear hc0 hl0 hrg hC hcs hperm hlen
      go_wp2_with (first | (go_at_call 121; refine HSK.out.mono ?_; rintro e w3 ⟨rfl, hrow3, hg3⟩))
      have HR3 := Aside0.mk hrow3
      have HO3 := Aside0.mk (HOr.out.kept hg3 HROW.out)
      have HB3 := Aside0.mk (hnx.out.grown hg3 hnx.out.size (own_base hrow.out))
      clear hrow3 hg3 HSK HOr HROW hnx hrow
      have hum := Tryz.underlying99
      go_loopw [7, 26] (fun v i wr => ∃ k : Nat, k ≤ ss.length ∧ i = .int .i64 k ∧ Aside0 (wr.ownsRow w.heap.size 9 1 (.slice A ss.length c) ss.length (es.map fun p => Value.string p.1)) ∧ Aside0 (OwnsM wr gb n es) ∧
        Aside0 (wr.ownsRow w.heap.size 73 2 v (outM (es.take k)).length (ctrRow (outM (es.take k)))) ∧ Aside0 (Below w.heap.size w wr)) (fun _ i _ => ss.length - (intOf i).toNat)
      case atStart => exact ⟨0, Nat.zero_le _, rfl, HR3, HO3, ⟨own_nil _ _ _ _⟩, HB3⟩
      case round =>
        clear HR3 HO3 HB3
        obtain ⟨k, hk, rfl, HK, HM, HV, HB⟩ := hrel
        obtain ⟨A', c', rfl⟩ := own_slice HV.out
        by_cases hlt : k < ss.length
        · obtain ⟨g, c2, e, hgb, hgl⟩ := HK.out.form (by omega)
          cases e
          have hlt2 : k < es.length := by have := HLEN.out; omega
          have hcell : wr.cell? ⟨g, k, none⟩ = some (.string (es[k].1)) := by
            rw [HK.out.cellAt k (by omega)]
            simp [hlt2]
          have hkl : (es[k].1).size ≤ maxLen := key_le HO.out k hlt2
          have HGET := Aside0.mk (getM_at hup k hlt2)
          have HTAKE := Aside0.mk (outM_take es k hlt2)
          generalize hkey : es[k].1 = key at hcell hkl HGET HTAKE
          generalize hval : es[k].2 = val at HGET HTAKE
          clear hkey hval
          go_wp2_with (first
            | (at_lookup; refine wpList_lookup_own_int _ rfl _ _ 99 rfl 9 3 .i64 lawS Tryz.underlying99 Tryz.underlying3 (zeroI _) gb _ _ rfl HM.out _ _ rfl (Go.WideMaps.keyOf_string_mk Tryz.underlying9 hkl) ?_; intro cv hat hwc; have HC := Aside0.mk hat; clear hat hwc))
          refine (list_clo _ _ _).mono ?_
          rintro e w4 ⟨rfl, hb⟩
          obtain rfl : cv = val := by
            have h2 := HC.out
            rw [at_dat] at h2
            injection h2 with h2
            injection h2 with _ h2
            rw [← h2]; exact HGET.out
          have HK4 := Aside0.mk (own_below' HK.out hb)
          have HM4 := Aside0.mk (map_below HM.out hb)
          have HV4 := Aside0.mk (own_below' HV.out hb)
          have HB4 := Aside0.mk (below_step HB.out hb)
          have hsz4 := HB4.out.size
          clear hb HK HM HV HB HC HGET hcell
          by_cases hv : cv = 0
          · have hv2 : (cv != 0) = false := by simp [hv]
            have HT : outM (es.take (k + 1)) = outM (es.take k) := by rw [HTAKE.out, if_pos hv, List.append_nil]
            have HVA : Aside0 ((w4.alloc (.cells #[.string key, .int .i64 cv] 73)).ownsRow w.heap.size 73 2 (.slice A' (outM (es.take k)).length c') (outM (es.take (k + 1))).length (ctrRow (outM (es.take (k + 1))))) := ⟨by rw [HT]; exact HV4.out.alloc _⟩
            clear HT HTAKE hv HV4
            have HK5 := Aside0.mk (HK4.out.alloc (.cells #[.string key, .int .i64 cv] 73))
            have HM5 : Aside0 (OwnsM (w4.alloc (.cells #[.string key, .int .i64 cv] 73)) gb n es) := ⟨HM4.out.alloc _⟩
            have HB5 := Aside0.mk (below_alloc HB4.out (.cells #[.string key, .int .i64 cv] 73))
            clear HK4 HM4 HB4
            go_wp2
            go_roundw
            case rel => exact ⟨k + 1, by omega, by go_num, HK5, HM5, HVA, HB5⟩
            case measure => simp [intOf]; omega
          · have hv2 : (cv != 0) = true := by simp [hv]
            have HT := Aside0.mk (show outM (es.take (k + 1)) = outM (es.take k) ++ [⟨key, cv⟩] by rw [HTAKE.out, if_neg hv])
            clear HTAKE hv
            have hol : (outM (es.take k)).length + 1 ≤ es.length := by
              have h1 : (outM (es.take k)).length ≤ (es.take k).length := List.length_filterMap_le _ _
              have h2 : (es.take k).length = k := by rw [List.length_take]; omega
              omega
            have hob : ((outM (es.take k)).length + 1) * 24 ≤ 140737488355328 := Nat.le_trans (Nat.mul_le_mul_right 24 hol) (by omega)
            have hom : (outM (es.take k)).length + 1 ≤ maxLen := by unfold maxLen; omega
            have hnw := Aside0.mk (cells2_new w4 (.cells #[.string key, .int .i64 cv] 73) key cv)
            have hones : ∀ u ∈ ctrCells ⟨key, cv⟩, u.oneCell' = true := by simp [ctrCells, Value.oneCell']
            have HNE := Aside0.mk (show (Value.slice (some ⟨g, 0, none⟩) ss.length c).ownBlock ≠ (Value.slice A' (outM (es.take k)).length c').ownBlock from fun e => by
              obtain ⟨c1, h1⟩ := own_typed HK4.out g rfl
              obtain ⟨c2, h2⟩ := own_typed HV4.out g e.symm
              rw [h1] at h2
              cases h2)
            have HLOW := Aside0.mk (row_ne_low HV4.out hbl)
            go_wp2_with (first
              | (at_builtin; refine wpList_append_own _ rfl _ _ 22 rfl w.heap.size 73 j0 _ 2 24 Tryz.underlying22 hj hy0 hy1 hy2 rfl (by decide) _ _ _ rfl ((HV4.out.alloc (.cells #[.string key, .int .i64 cv] 73)).alloc (.cells #[.string key, .int .i64 cv] 73)) ⟨w4.heap.size + 1, 0, none⟩ 1 1 (ctrCells ⟨key, cv⟩) rfl rfl hnw.out hones hom hob (by simp; omega) ?_; intro v' w5 hown5 hg5 hnil5; go_frame))
            have HK5 := Aside0.mk (((HK4.out.alloc _).alloc _).kept hg5 (Or.inr HNE.out))
            have HM5 : Aside0 (OwnsM w5 gb n es) := ⟨((HM4.out.alloc _).alloc _).kept hg5 HLOW.out⟩
            have HB5 := Aside0.mk ((below_alloc (below_alloc HB4.out _) _).grown hg5 (by simp; omega) (own_base HV4.out))
            have HV5 : Aside0 (w5.ownsRow w.heap.size 73 2 v' (outM (es.take (k + 1))).length (ctrRow (outM (es.take (k + 1))))) := ⟨by rw [HT.out, List.length_append]; unfold ctrRow; rw [List.flatMap_append]; simpa using hown5⟩
            clear hown5 hg5 hnil5 HK4 HM4 HB4 HV4 HNE HLOW HT
            go_roundw
            case rel => exact ⟨k + 1, by omega, by go_num, HK5, HM5, HV5, HB5⟩
            case measure => simp [intOf]; omega
        · have HT := Aside0.mk (show es.take k = es by rw [List.take_of_length_le (by have := HLEN.out; omega)])
          have H : wr.ownsRow w.heap.size 73 2 (.slice A' (outM (es.take k)).length c') (outM es).length (ctrRow (outM es)) := by
            have := HV.out
            rw [HT.out] at this ⊢
            exact this
          have HF := Aside0.mk H
          clear H HV
          go_wp2
          go_ret
          exact ⟨_, rfl, HF.out, HB.out⟩
    · intro x cv kl yd yp w2 cnt2 hkey hlk hv hat hrg2 hlt hg2 hs2 hen
      obtain ⟨x', ex, rfl, _⟩ := Maps.keyOf_str Tryz.underlying9 hkey
      obtain rfl : x = x' := encStr_inj ex
      have HROW2 := Aside0.mk (hrow.out.kept hg2 (Or.inr (row_ne_iter hrow.out hrg.out).symm))
      have HRG2 := Aside0.mk hrg2
      have HC2 := Aside0.mk (hC.out.step hlk hat)
      have HLT := Aside0.mk hlt
      have HG2 := Aside0.mk hg2
      have hnew : ss.length + 1 ≤ es.length := by have := hcs.out; omega
      have hb16 : (ss.length + 1) * 16 ≤ 140737488355328 := Nat.le_trans (Nat.mul_le_mul_right 16 hnew) (by omega)
      have hml : ss.length + 1 ≤ maxLen := by unfold maxLen; omega
      have hw2 := Nat.le_trans hnx.out.size hg2.size
      clear hs2 hkey hlk hv hat hrg2 hlt hg2 ex hC
      go_wp2_with (first
        | (at_builtin; refine wpList_append_own _ rfl _ _ 50 rfl w.heap.size 9 i0 (.string ⟨#[]⟩) 1 16 Tryz.underlying50 hi hz0 hz1 hz2 rfl (by decide) _ _ _ rfl (HROW2.out.alloc _) ⟨w2.heap.size, 0, none⟩ 1 1 [encStr x] rfl rfl (cell_one_new _ _ _) (by simp [Value.oneCell', encStr]) hml hb16 (by simp; omega) ?_; intro v' w3 hown' hg3 hnil3; go_frame))
      have HRG3 := Aside0.mk ((HRG2.out.alloc _).kept hg3 (row_ne_low HROW2.out hbl) (row_ne_iter HROW2.out HRG2.out))
      have HB3 := Aside0.mk ((below_alloc (hnx.out.grown HG2.out hnx.out.size (fun j hj => by cases hj; exact Nat.le_refl _)) _).grown hg3 (by simp; omega) (own_base HROW2.out))
      have HO3 : Aside0 (w3.ownsRow w.heap.size 9 1 v' (ss ++ [x]).length ((ss ++ [x]).map encStr)) := ⟨by simpa using hown'⟩
      have HN3 : Aside0 ((ss ++ [x]).length + cnt2 ≤ es.length) := ⟨by have := HLT.out; have := hcs.out; simp; omega⟩
      clear hown' hnil3
      go_roundw
      case rel => exact ⟨_, cnt2, ss ++ [x], HRG3, HN3, HO3, HC2, HB3⟩
      case measure => rw [HRG3.out.left_eq, hrg.out.left_eq]; exact HLT.out
end Go.Proofs.YtmcddoolniaehaaGreat.S
end
section
namespace Go.Proofs.YtmcddoolniaehaaGreat.S
open Go.RowKit Go.Proofs.YtmcddoolniaehaaGreatW.PrintWords Go.Proofs.YtmcddoolniaehaaGreatW.PrintLast Go.Proofs.YtmcddoolniaehaaGreatW.PrintMore
abbrev I : Bool := true
abbrev O : Bool := false
theorem sqA {α : Type _} (l : List α) (i : Nat) (a : α) : l.toArray.setIfInBounds i a = (l.set i a).toArray := List.setIfInBounds_toArray ..
theorem sqB {α : Type _} (x : α) (xs : List α) (a : α) : (x :: xs).set 0 a = a :: xs := rfl
theorem sqC {α : Type _} (x : α) (xs : List α) (n : Nat) (a : α) : (x :: xs).set (n + 1) a = x :: xs.set n a := rfl
theorem sqP {P : Program} {ops : Array Oper} {Q : Exit → Act → World → Prop} {md : Region.Mode} {S : World → Prop} {ds : List Nat} {i : Nat} {N : Option Tmp} {oi : Oper} {v : Value} {fuel : Nat} {l : Array Bool} {a : Act} {w : World} {T : Bool × List (List Nat × List Nat)} (l' : Array Bool) (hi : ops[i]? = some oi) (hN : oi.dst = N) (hT : rtab md ops = T)
    (hy : Yields P ops oi v a) {a' : Act} (ha : a.put N v = a')
    (h : wpAnyLast P md ops Q S ds fuel l' a' w) (hc : anyT T l.toList l'.toList i = true := by kernel_rfl) (hQ : ∀ c a w, Q (.panic c) (a.put oi.dst v) w → Q (.panic c) a w := by exact fun _ _ _ h => h) : wpAnyLast P md ops Q S ds (fuel + 1) l a w :=
  pure_ l' hi hN (any_of hT hc) hQ hy ha h
theorem blN {w : World} {g : Nat} {o : Obj} (h : w.heap[g]? = some o) (n : Nat) : (w.drewN n).heap[g]? = some o := h
theorem blD {w : World} {g : Nat} {o : Obj} (h : w.heap[g]? = some o) : w.drew.heap[g]? = some o := h
theorem blA {w : World} {g : Nat} {o : Obj} (h : w.heap[g]? = some o) (o' : Obj) : (w.alloc o').heap[g]? = some o := blk_alloc h o'
end Go.Proofs.YtmcddoolniaehaaGreat.S
end
section
namespace Go.Proofs.YtmcddoolniaehaaGreat.S
open Go Go.RowKit Go.Proofs.YtmcddoolniaehaaGreatW.PrintWords Go.Proofs.YtmcddoolniaehaaGreatW.PrintLast
set_option linter.unusedVariables false
section
variable {P : Program} {ops : Array Oper} {Q : Exit → Act → World → Prop} {md : Region.Mode} {S : World → Prop}
def upto (n i : Nat) : Array Bool := ((List.range n).map fun j => decide (j < i)).toArray
theorem upto_set (n i : Nat) : (upto n i).setIfInBounds i true = upto n (i + 1) := by
  unfold upto
  rw [List.setIfInBounds_toArray]
  congr 1
  apply List.ext_getElem (by simp)
  intro k h1 h2
  simp [List.getElem_set]
  by_cases h : i = k
  · subst h; simp
  · simp [h]; omega
theorem upto_zero (n : Nat) : Array.replicate n false = upto n 0 := by
  unfold upto
  apply Array.ext'
  simp
  apply List.ext_getElem (by simp)
  intro k h1 h2
  simp
theorem in_ {id n : Nat} {a : Act} {w : World} (hm : P.follows .mixedOrders = true) (hn : ops.size = n) (hS : S w.drew)
    (h : S w.drew → wpAnyH P .any ops Q S n (upto n 0) a w.drew) : (Code.region id ops true).wp P Q a w :=
  wp_region_held_drew hm hS fun h' => by rw [upto_zero, hn]; exact h h'
theorem run_ {n i N : Nat} {oi : Oper} {v : Value} {fuel : Nat} {a : Act} {w : World} (hi : ops[i]? = some oi) (hN : oi.dst = some N) (hS : S w)
    (hy : ∀ w, S w → (execOp a.eval oi).run P w = .ok (.value v) w) {a' : Act} (ha : a.put (some N) v = a') (h : wpAnyH P md ops Q S fuel (upto n (i + 1)) a' w)
    (hw : Region.wanted oi (yielded ops a.tmps) = true := by rfl) (hs : Region.noSelect ops = true := by kernel_rfl) (hf : Region.free md ops (upto n i) i = true := by kernel_rfl) (hr : (Region.ready md ops (upto n i)).contains i = true := by kernel_rfl)
    (hQ : ∀ c a w, Q (.panic c) (a.put oi.dst v) w → Q (.panic c) a w := by exact fun _ _ _ h => h) : wpAnyH P md ops Q S (fuel + 1) (upto n i) a w :=
  wpAnyH_take hi hs hf hr hQ (Or.inl ⟨hw, hy⟩) hS (by rw [hN, upto_set, ha]; exact h)
theorem skip_ {n i N : Nat} {oi : Oper} {fuel : Nat} {a : Act} {w : World} (hi : ops[i]? = some oi) (hN : oi.dst = some N) (hS : S w)
    {a' : Act} (ha : a.put (some N) undef = a') (h : wpAnyH P md ops Q S fuel (upto n (i + 1)) a' w)
    (hw : Region.wanted oi (yielded ops a.tmps) = false := by rfl) (hs : Region.noSelect ops = true := by kernel_rfl) (hf : Region.free md ops (upto n i) i = true := by kernel_rfl) (hr : (Region.ready md ops (upto n i)).contains i = true := by kernel_rfl)
    (hQ : ∀ c a w, Q (.panic c) (a.put oi.dst undef) w → Q (.panic c) a w := by exact fun _ _ _ h => h) : wpAnyH P md ops Q S (fuel + 1) (upto n i) a w :=
  wpAnyH_take hi hs hf hr hQ (Or.inr ⟨hw, rfl⟩) hS (by rw [hN, upto_set, ha]; exact h)
theorem ask_ {n i N : Nat} {oi : Oper} {fuel : Nat} {a : Act} {w : World} (hi : ops[i]? = some oi) (hN : oi.dst = some N)
    (h : ∀ K' : Act → World → Prop, Shut (∀ a w, S w → (S w → wpAnyH P md ops Q S fuel (upto n (i + 1)) a w) → K' a w) → Oper.wp P oi a w K' Q)
    (hw : Region.wanted oi (yielded ops a.tmps) = true := by rfl) (hr : Region.ready md ops (upto n i) = [i] := by kernel_rfl) : wpAnyH P md ops Q S (fuel + 1) (upto n i) a w :=
  wpAnyH_ready hr (by simp) (AllReadyH.cons hi (fun K hK => by rw [if_pos hw]; rw [upto_set] at hK; exact h K hK) AllReadyH.nil)
end
structure Bx (w : World) (g : Nat) (o : Obj) (w' : World) : Prop where
  b : Below w.heap.size w w'
  x : w'.heap[g]? = some o
theorem Bx.go {w w1 w2 : World} {g : Nat} {o : Obj} (h : Bx w g o w1) (hb : Below w1.heap.size w1 w2) : Bx w g o w2 := ⟨below_step h.b hb, blk_below h.x hb⟩
theorem Bx.drew {w w1 : World} {g : Nat} {o : Obj} (h : Bx w g o w1) : Bx w g o w1.drew := ⟨below_drew h.b, blk_drew h.x⟩
theorem Bx.new {w w1 : World} (h : Below w.heap.size w w1) (o : Obj) : Bx w w1.heap.size o (w1.alloc o) := ⟨below_step h (below_alloc (Below.refl _ w1) o), blk_new _ _⟩
theorem drawn_b {w w1 : World} (h : Drawn0 w w1) : Below w.heap.size w w1 := by
  obtain ⟨m, rfl⟩ := h
  exact pw_below_drewN (Below.refl _ _) m
theorem wrapIn {x : Int} {n : Nat} (h : wrap64 (x - 1) < (n : Int)) (h0 : 0 ≤ wrap64 (x - 1)) : IntKind.i64.wrap (x - 1) = wrap64 (x - 1) := i64_w _
end Go.Proofs.YtmcddoolniaehaaGreat.S
end
section
namespace Go.Proofs
open Go.Shelf
def Tryz.lays137_ren : Go.Shelf.Ren := ⟨fun | 137 => 110 | 217 => 120 | 266 => 130 | n => n, fun | 9 => 9 | 5 => 5 | 3 => 3 | n => n, fun | n => n⟩
theorem Tryz.lays137 : Go.Proofs.Lays.n137 Tryz.prog Tryz.lays137_ren := {
  mixed := by kernel_rfl
  f137 := Tryz.func110.trans (congrArg some (by kernel_rfl))
  f217 := Tryz.func120.trans (congrArg some (by kernel_rfl))
  f266 := Tryz.func130.trans (congrArg some (by kernel_rfl))
  t3 := Tryz.underlying3
  a3 := Tryz.isAgg3
  z3 := Tryz.sizeOf3
  v3 := Tryz.zeroValue3
  t5 := Tryz.underlying5
  a5 := Tryz.isAgg5
  z5 := Tryz.sizeOf5
  v5 := Tryz.zeroValue5
  t9 := Tryz.underlying9
  a9 := Tryz.isAgg9
  z9 := Tryz.sizeOf9
  v9 := Tryz.zeroValue9 }
open Go.RowKit in
theorem Tryz.strings_IndexByte (s : ByteArray) (c : Int) (w : World) :
    Calls Tryz.prog 110 #[.string s, .int .u8 c] w fun e w' => e = .returned (.int .i64 (Lib.indexByte s.data.toList c.toNat.toUInt8)) ∧ w' = w := Any.strings_IndexByte Tryz.lays137 s c w
def Tryz.lays217_ren : Go.Shelf.Ren := ⟨fun | 217 => 120 | 266 => 130 | n => n, fun | 9 => 9 | 5 => 5 | 3 => 3 | n => n, fun | n => n⟩
theorem Tryz.lays217 : Go.Proofs.Lays.n217 Tryz.prog Tryz.lays217_ren := {
  mixed := by kernel_rfl
  f217 := Tryz.func120.trans (congrArg some (by kernel_rfl))
  f266 := Tryz.func130.trans (congrArg some (by kernel_rfl))
  t3 := Tryz.underlying3
  a3 := Tryz.isAgg3
  z3 := Tryz.sizeOf3
  v3 := Tryz.zeroValue3
  t5 := Tryz.underlying5
  a5 := Tryz.isAgg5
  z5 := Tryz.sizeOf5
  v5 := Tryz.zeroValue5
  t9 := Tryz.underlying9
  a9 := Tryz.isAgg9
  z9 := Tryz.sizeOf9
  v9 := Tryz.zeroValue9 }
open Go.RowKit Go.Lib in
theorem Tryz.stringslite_IndexByte (s : ByteArray) (c : Int) (w : World) :
    Calls Tryz.prog 120 #[.string s, .int .u8 c] w fun e w' => e = .returned (.int .i64 (Lib.indexByte s.data.toList c.toNat.toUInt8)) ∧ w' = w := Any.stringslite_IndexByte Tryz.lays217 s c w
end Go.Proofs
end
section
namespace Go.Proofs.YtmcddoolniaehaaGreat.S
open Go.RowKit Go.Proofs.YtmcddoolniaehaaGreatW.PrintWords Go.Proofs.YtmcddoolniaehaaGreatW.PrintLast Go.Proofs.YtmcddoolniaehaaGreatW.PrintMore
set_option linter.unusedVariables false
set_option linter.unusedSimpArgs false

def keyChar (c : UInt8) : Bool := decide (97 ≤ c.toNat ∧ c.toNat ≤ 122) || decide (48 ≤ c.toNat ∧ c.toNat ≤ 57)
def keyB (l : List UInt8) : Bool := l.all keyChar && (decide (1 ≤ l.length) && decide (l.length ≤ 8))
def ops_Key.f (a0 : ByteArray) : Option (Bool) := if a0.size ≤ 9223372036854775807 then some (keyB a0.data.toList) else none
def signs : List UInt8 := [97, 98, 99, 100, 101, 102, 103, 104, 105, 106, 107, 108, 109, 110, 111, 112, 113, 114, 115, 116, 117, 118, 119, 120, 121, 122, 48, 49, 50, 51, 52, 53, 54, 55, 56, 57]
theorem signs_all : ∀ n : Fin 256, decide (Lib.indexByte signs (UInt8.ofNat n.1) < 0) = !keyChar (UInt8.ofNat n.1) := by decide +kernel
theorem signs_at (c : UInt8) : decide (Lib.indexByte signs c < 0) = !keyChar c := by
  have h := signs_all ⟨c.toNat, c.toNat_lt⟩
  simpa using h
theorem ops_Key.calls (a0 : ByteArray) (r : Bool) (w : World) (h : ops_Key.f a0 = some r) :
    Calls Tryz.prog 76 #[.string a0] w fun e w' => e = .returned (.bool r) ∧ Drawn0 w w' := by
  have hs : a0.size ≤ 9223372036854775807 := by
    by_cases q : a0.size ≤ 9223372036854775807
    · exact q
    · simp [ops_Key.f, q] at h
  obtain rfl : keyB a0.data.toList = r := by simpa [ops_Key.f, hs] using h
  clear h
  go_enter Tryz.func76, Tryz.ntmps76
  go_wp2
  go_loop [6] (fun i => ∃ k : Nat, k ≤ a0.size ∧ i = .int .i64 k ∧ Aside0 ((a0.data.toList.take k).all keyChar = true)) (fun i => a0.size - (intOf i).toNat)
  case atStart => exact ⟨0, Nat.zero_le _, rfl, ⟨by simp⟩⟩
  case round =>
    obtain ⟨k, hk, rfl, ha⟩ := hrel
    by_cases hlt : k < a0.size
    · have hc := signs_at a0[k]
      have htk : a0.data.toList.take (k + 1) = a0.data.toList.take k ++ [a0[k]] := by
        rw [List.take_succ_eq_append_getElem (by simpa using hlt)]; rfl
      have hmem : a0[k] ∈ a0.data.toList := by
        have : a0[k] = a0.data.toList[k]'(by simpa using hlt) := rfl
        rw [this]; exact List.getElem_mem _
      cases hq : keyChar a0[k] with
      | true =>
        have H1 := Aside0.mk (show (a0.data.toList.take (k + 1)).all keyChar = true by rw [htk, List.all_append, ha.out]; simp [hq])
        rw [hq] at hc
        clear hq htk ha hmem
        have hc2 : decide (Lib.indexByte signs a0[k] < 0) = false := hc
        clear hc
        have H2 := Aside0.mk hc2
        clear hc2
        go_wp2_with fail
        refine (Tryz.strings_IndexByte _ _ _).mono ?_
        rintro e w' ⟨rfl, rfl⟩
        have hc := H2.out
        simp only [signs] at hc
        generalize hn : Lib.indexByte _ _ = n
        have hn0 : decide (n < 0) = false := by rw [← hn]; first | exact hc | (have h2 := of_decide_eq_false hc; simp at h2 ⊢; exact h2)
        clear hc hn H2
        go_wp2
        go_round
        case rel => exact ⟨k + 1, by omega, by go_num, H1⟩
        case measure => simp [intOf]; omega
      | false =>
        have H1 := Aside0.mk (show keyB a0.data.toList = false by
          unfold keyB
          rw [Bool.and_eq_false_iff]
          refine .inl ?_
          rw [List.all_eq_false]
          exact ⟨a0[k], hmem, by simp [hq]⟩)
        rw [hq] at hc
        clear hq htk ha hmem
        have hc2 : decide (Lib.indexByte signs a0[k] < 0) = true := hc
        clear hc
        have H2 := Aside0.mk hc2
        clear hc2
        go_wp2_with fail
        refine (Tryz.strings_IndexByte _ _ _).mono ?_
        rintro e w' ⟨rfl, rfl⟩
        have hc := H2.out
        simp only [signs] at hc
        generalize hn : Lib.indexByte _ _ = n
        have hn0 : decide (n < 0) = true := by rw [← hn]; first | exact hc | (have h2 := of_decide_eq_true hc; simp at h2 ⊢; exact h2)
        clear hc hn H2
        go_wp2
        go_ret
        exact ⟨by rw [H1.out]; rfl, Drawn0.refl _⟩
    · have hk' : k = a0.size := by omega
      have H1 := Aside0.mk (show a0.data.toList.all keyChar = true by
        have := ha.out
        rwa [List.take_of_length_le (by rw [hk']; simp)] at this)
      clear ha
      have HL := Aside0.mk (show a0.data.toList.length = a0.size from data_length a0)
      have he : a0.toList = a0.data.toList := ByteArray.toList_eq a0
      by_cases h0 : a0.size = 0
      · have h1 : a0.data.toList = [] := List.eq_nil_of_length_eq_zero (by rw [data_length]; exact h0)
        have HF := Aside0.mk (show keyB a0.data.toList = false by rw [h1]; rfl)
        have h2 : a0.toList.isEmpty = true := by rw [he, h1]; rfl
        clear h0 h1 hk' he H1 HL
        go_wp2
        go_ret
        exact ⟨by rw [HF.out]; rfl, Drawn0.refl _⟩
      · have h2 : a0.toList.isEmpty = false := by
          rw [he, List.isEmpty_eq_false_iff_exists_mem]
          have : 0 < a0.data.toList.length := by rw [data_length]; omega
          exact ⟨_, List.getElem_mem this⟩
        by_cases h8 : a0.size ≤ 8
        · have HF := Aside0.mk (show keyB a0.data.toList = true by
            unfold keyB
            rw [H1.out, HL.out]
            simp; omega)
          have h9 : decide ((a0.size : Int) ≤ 8) = true := by simp; omega
          clear h0 hk' he H1 HL h8
          go_wp2
          go_ret
          exact ⟨by rw [HF.out]; rfl, Drawn0.refl _⟩
        · have HF := Aside0.mk (show keyB a0.data.toList = false by
            unfold keyB
            rw [HL.out]
            simp; omega)
          have h9 : decide ((a0.size : Int) ≤ 8) = false := by simp; omega
          clear h0 hk' he H1 HL h8
          go_wp2
          go_ret
          exact ⟨by rw [HF.out]; rfl, Drawn0.refl _⟩
end Go.Proofs.YtmcddoolniaehaaGreat.S
end
section
namespace Go.Proofs.YtmcddoolniaehaaGreat.S
open Go.RowKit Go.Proofs.YtmcddoolniaehaaGreatW.PrintWords Go.Proofs.YtmcddoolniaehaaGreatW.PrintLast Go.Proofs.YtmcddoolniaehaaGreatW.PrintMore Go.Proofs.YtmcddoolniaehaaGreatW
attribute [local go_sem ↓] Go.wp_at_zero Go.wp_at_succ
set_option linter.unusedVariables false
set_option linter.unusedSimpArgs false
def ctr_May.l0 : Nat → List (S73) → List (S73) → Int → Int → Option (Bool)
 | 0, _, _, _, _ => none
 | k + 1, x0, x5, x6, x7 => if x7 < x6 then (if 0 ≤ x7 then (if x7 < (x5.length : Int) then ((ops_Key.f ((rd_T73 x5 x7).f0)).bind fun t103 => (if t103 = true then (if ((rd_T73 x5 x7).f1) = 0 then (some false) else (if x7 > 0 then (if 0 ≤ (wrap64 (x7 - 1)) then (if (wrap64 (x7 - 1)) < (x0.length : Int) then (if ((Op.bytesLess (((rd_T73 x0 (wrap64 (x7 - 1))).f0).toList) (((rd_T73 x5 x7).f0).toList)) = true) then (ctr_May.l0 k x0 x5 x6 (wrap64 (x7 + 1))) else (some false)) else (none)) else (none)) else (ctr_May.l0 k x0 x5 x6 (wrap64 (x7 + 1))))) else (some false))) else (none)) else (none)) else (some true)
def ctr_May.f (k : Nat) (l0 : List (S73)) : Option (Bool) := ctr_May.l0 k l0 l0 (l0.length : Int) 0
theorem ctr_May.mono_l : ∀ k, (∀ y0 y1 y2 y3, LeO (ctr_May.l0 k y0 y1 y2 y3) (ctr_May.l0 (k + 1) y0 y1 y2 y3))
 | 0 => fun _ _ _ _ r h => by simp [ctr_May.l0] at h
 | k + 1 => by
  have ih0 := ctr_May.mono_l k
  ·intro y0 y1 y2 y3
   unfold ctr_May.l0
   repeat' first
   | (with_reducible exact ih0 _ _ _ _)
   | (with_reducible exact LeO.refl _)
   | (with_reducible exact LeO.none _)
   | (with_reducible refine LeO.ite ?_ ?_)
   | (with_reducible refine LeO.bind ?_ (fun _ => ?_))
   | exact ih0 _ _ _ _
   | exact LeO.none _
   | refine LeO.ite ?_ ?_
   | refine LeO.bind ?_ (fun _ => ?_)
theorem ctr_May.mono : ∀ a0 k, LeO (ctr_May.f k a0) (ctr_May.f (k + 1) a0) := by
 intro a0 k
 have ih0 := ctr_May.mono_l k
 unfold ctr_May.f
 repeat' first
   | (with_reducible exact ih0 _ _ _ _)
   | (with_reducible exact LeO.refl _)
   | (with_reducible exact LeO.none _)
   | (with_reducible refine LeO.ite ?_ ?_)
   | (with_reducible refine LeO.bind ?_ (fun _ => ?_))
   | exact ih0 _ _ _ _
   | exact LeO.none _
   | refine LeO.ite ?_ ?_
   | refine LeO.bind ?_ (fun _ => ?_)
theorem ctr_May.step {k1 : Nat} {l0 : List (S73)} {x : Int} {r : Bool} (H : ctr_May.l0 (k1 + 1) l0 l0 (l0.length : Int) x = some r) (c2 : x < (l0.length : Int)) :
    0 ≤ x ∧ (∃ t, ops_Key.f (rd_T73 l0 x).f0 = some t ∧ (t = false ∧ r = false ∨ t = true ∧ (((rd_T73 l0 x).f1 == 0) = true ∧ r = false ∨ ((rd_T73 l0 x).f1 == 0) = false ∧ (decide (0 < x) = false ∧ ctr_May.l0 k1 l0 l0 (l0.length : Int) (wrap64 (x + 1)) = some r ∨ decide (0 < x) = true ∧ 0 ≤ wrap64 (x - 1) ∧ wrap64 (x - 1) < (l0.length : Int) ∧ ∃ b, Op.bytesLess (rd_T73 l0 (wrap64 (x - 1))).f0.toList (rd_T73 l0 x).f0.toList = b ∧ (b = true ∧ ctr_May.l0 k1 l0 l0 (l0.length : Int) (wrap64 (x + 1)) = some r ∨ b = false ∧ r = false))))) := by
  simp only [ctr_May.l0] at H
  rw [if_pos c2] at H
  by_cases c3 : 0 ≤ x
  rotate_left
  · rw [if_neg c3] at H; cases H
  rw [if_pos c3, if_pos c2] at H
  refine ⟨c3, ?_⟩
  obtain ⟨t, h1, H⟩ := Option.bind_eq_some_iff.mp H
  refine ⟨t, h1, ?_⟩
  rcases t with _ | _
  · exact .inl ⟨rfl, by simpa using H.symm⟩
  rw [if_pos rfl] at H
  refine .inr ⟨rfl, ?_⟩
  by_cases z : (rd_T73 l0 x).f1 = 0
  · rw [if_pos z] at H; exact .inl ⟨beq_iff_eq.mpr z, by simpa using H.symm⟩
  rw [if_neg z] at H
  refine .inr ⟨beq_eq_false_iff_ne.mpr z, ?_⟩
  by_cases z : 0 < x
  rotate_left
  · rw [if_neg z] at H; exact .inl ⟨decide_eq_false z, H⟩
  rw [if_pos z] at H
  by_cases c9 : 0 ≤ wrap64 (x - 1)
  rotate_left
  · rw [if_neg c9] at H; cases H
  rw [if_pos c9] at H
  by_cases c10 : wrap64 (x - 1) < (l0.length : Int)
  rotate_left
  · rw [if_neg c10] at H; cases H
  rw [if_pos c10] at H
  refine .inr ⟨decide_eq_true z, c9, c10, _, rfl, ?_⟩
  cases hb : Op.bytesLess (rd_T73 l0 (wrap64 (x - 1))).f0.toList (rd_T73 l0 x).f0.toList with
  | true => rw [hb, if_pos rfl] at H; exact .inl ⟨rfl, H⟩
  | false => rw [hb] at H; exact .inr ⟨rfl, by simpa using H.symm⟩
set_option maxHeartbeats 8000000 in
set_option maxRecDepth 100000 in
theorem ctr_May.calls (k : Nat) (A0 : Option Addr) (c0 : Nat) (l0 : List (S73)) (r : Bool) (w : World) (hr0 : Kd.C k73 w A0 l0.length l0) (hc0 : l0.length ≤ c0) (h : ctr_May.f k l0 = some r) :
    Calls Tryz.prog 50 #[.slice A0 l0.length c0] w fun e w' => e = .returned (.bool r) ∧ Below w.heap.size w w' := by
  have hu := Tryz.underlying73
  have HR := Aside0.mk hr0
  have H' := Aside0.mk (show ctr_May.l0 k l0 l0 (l0.length : Int) 0 = some r from h)
  clear hr0 hc0 h
  go_enter Tryz.func50, Tryz.ntmps50
  go_wp2
  go_loopg [7] k (fun kq v w' => ∃ x : Int, v = .int .i64 x ∧ Aside0 (ctr_May.l0 kq l0 l0 (l0.length : Int) x = some r) ∧ Aside0 (kq ≤ k) ∧ Aside0 (Below w.heap.size w w'))
  case atStart => exact ⟨0, rfl, H', ⟨Nat.le_refl _⟩, ⟨Below.refl _ _⟩⟩
  case round =>
    clear H'
    obtain ⟨x, rfl, HA, HK1, HB⟩ := hrel
    cases gk with
    | zero => exact absurd HA.out (by simp [ctr_May.l0])
    | succ k1 =>
      by_cases c2 : x < (l0.length : Int)
      · obtain ⟨c3, H⟩ := ctr_May.step HA.out c2
        obtain ⟨ad, e, hx0, hx1⟩ := at_T73 HR.out x c3 c2
        cases e
        replace hx0 := (HB.out.cell (World.block_lt_of_cell? w _ hx0)).trans hx0; replace hx1 := (HB.out.cell (World.block_lt_of_cell? w _ hx1)).trans hx1
        have H0 := Aside0.mk H
        clear H HA
        generalize rd_T73 l0 x = e at *
        have p1 := eq_true c3
        have q1 := eq_true c2
        go_wp2_with fail
        have hBX := Aside0.mk (Bx.new HB.out (.cells #[.string e.f0, .int .i64 e.f1] 73))
        revert hBX
        generalize wr.alloc (.cells #[.string e.f0, .int .i64 e.f1] 73) = W0
        generalize wr.heap.size = g0
        intro hBX
        clear p1 q1 hx0 hx1 HB
        obtain ⟨t, hK1, H⟩ := H0.out
        have K1 := Aside0.mk (fun W : World => (ops_Key.calls _ _ W hK1).mono fun _ _ h => And.intro h.1 (drawn_b h.2))
        clear hK1 H0
        rcases H with ⟨rfl, rfl⟩ | ⟨rfl, ⟨z, rfl⟩ | ⟨z, ⟨xb, H⟩ | ⟨xb, y0, y1, b, hb, H⟩⟩⟩
        rotate_right
        · have hji := wrapIn y1 y0
          generalize wrap64 (x - 1) = j at *
          obtain ⟨ad2, e2, hy0, hy1⟩ := at_T73 HR.out j y0 y1
          cases e2
          generalize rd_T73 l0 j = y at *
          have y2 := eq_true y0
          have y3 := eq_true y1
          refine in_ (n := 24) (S := Bx w g0 _) (by kernel_rfl) rfl hBX.out.drew (fun hHeld => ?_)
          repeat (first
            | (refine run_ (v := ?_) (a' := ?_) rfl rfl hHeld ?_ ?_ ?_; rotate_left; (focus (intro w2 hs; have s0 := (blk_cell hs.x 0).trans rfl; have s1 := (blk_cell hs.x 1).trans rfl; have u0 := (hs.b.cell (World.block_lt_of_cell? w _ hy0)).trans hy0; go_simp; with_reducible rfl)); rotate_left; (focus (simp only [Act.put, sqA, sqB, sqC] <;> rfl)))
            | (refine skip_ (a' := ?_) rfl rfl hHeld ?_ ?_; rotate_left; (focus (simp only [Act.put, sqA, sqB, sqC] <;> rfl)))
            | (refine ask_ rfl rfl (fun K hK => ?_); go_simp; (first | (go_at_call 76; with_reducible refine (K1.out _).mono ?_)); rintro e1 w1 ⟨rfl, hb⟩; replace hHeld := hHeld.go hb; go_wp2_with fail; refine hK.out _ _ hHeld (fun _ => ?_); clear hK K hb; try simp only [Act.put, sqA, sqB, sqC]))
          refine wpAnyH_done (by kernel_rfl) ?_ _
          rcases H with ⟨rfl, H⟩ | ⟨rfl, rfl⟩
          all_goals first | (go_wp2; go_ret; exact ⟨rfl, hHeld.b⟩) | (go_wp2; go_roundg k1; (case measure => have := HK1.out; omega); (case rel => exact ⟨wrap64 (x + 1), rfl, ⟨H⟩, ⟨by have := HK1.out; omega⟩, ⟨hHeld.b⟩⟩))
        all_goals
          refine in_ (n := 24) (S := Bx w g0 _) (by kernel_rfl) rfl hBX.out.drew (fun hHeld => ?_)
          repeat (first
            | (refine run_ (v := ?_) (a' := ?_) rfl rfl hHeld ?_ ?_ ?_; rotate_left; (focus (intro w2 hs; have s0 := (blk_cell hs.x 0).trans rfl; have s1 := (blk_cell hs.x 1).trans rfl; go_simp; with_reducible rfl)); rotate_left; (focus (simp only [Act.put, sqA, sqB, sqC] <;> rfl)))
            | (refine skip_ (a' := ?_) rfl rfl hHeld ?_ ?_; rotate_left; (focus (simp only [Act.put, sqA, sqB, sqC] <;> rfl)))
            | (refine ask_ rfl rfl (fun K hK => ?_); go_simp; (first | (go_at_call 76; with_reducible refine (K1.out _).mono ?_)); rintro e1 w1 ⟨rfl, hb⟩; replace hHeld := hHeld.go hb; go_wp2_with fail; refine hK.out _ _ hHeld (fun _ => ?_); clear hK K hb; try simp only [Act.put, sqA, sqB, sqC]))
          refine wpAnyH_done (by kernel_rfl) ?_ _
          first | (go_wp2; go_ret; exact ⟨rfl, hHeld.b⟩) | (go_wp2; go_roundg k1; (case measure => have := HK1.out; omega); (case rel => exact ⟨wrap64 (x + 1), rfl, ⟨H⟩, ⟨by have := HK1.out; omega⟩, ⟨hHeld.b⟩⟩))
      · have q1 := decide_eq_false c2
        have H := HA.out
        simp only [ctr_May.l0] at H
        rw [if_neg c2] at H
        cases H
        go_wp2
        go_ret
        exact ⟨rfl, HB.out⟩
end Go.Proofs.YtmcddoolniaehaaGreat.S
end
section
namespace Go.Proofs.YtmcddoolniaehaaGreat.S
open Go.RowKit Go.Proofs.YtmcddoolniaehaaGreatW.PrintWords Go.Proofs.YtmcddoolniaehaaGreatW.PrintLast Go.Proofs.YtmcddoolniaehaaGreatW.PrintMore Go.Proofs.YtmcddoolniaehaaGreatW
set_option linter.unusedVariables false
set_option linter.unusedSimpArgs false
abbrev Ct := S73
theorem wrapS {n : Nat} (h : n < 4611686018427387904) : wrap64 ((n : Int) + 1) = ((n + 1 : Nat) : Int) := by unfold wrap64; omega
theorem wrapP {n : Nat} (h : n < 4611686018427387904) : wrap64 (((n + 1 : Nat) : Int) - 1) = (n : Int) := by unfold wrap64; omega
theorem rdC_mid (pre suf : List Ct) (x : Ct) : rd_T73 (pre ++ x :: suf) ((pre.length : Nat) : Int) = x := by
  simp [rd_T73, List.getD_eq_getElem?_getD]
theorem lenS {α : Type} (pre : List α) (x : α) : (pre ++ [x]).length = pre.length + 1 := by simp
theorem appS {α : Type} (pre suf : List α) (x : α) : (pre ++ [x]) ++ suf = pre ++ x :: suf := by simp
def kSmall (a : ByteArray) : Bool := decide (a.size ≤ 140737488351232)
theorem keyS {a : ByteArray} (h : kSmall a = true) : ops_Key.f a = some (keyB a.data.toList) := by
  unfold ops_Key.f
  unfold kSmall at h
  rw [if_pos (by simp at h; omega)]
def oneC (c : Ct) : Bool := keyB c.f0.data.toList && decide (c.f1 ≠ 0)
def mayCP : Option Ct → List Ct → Bool
  | _, [] => true
  | p, x :: l => oneC x && ((match p with | none => true | some y => Op.bytesLess y.f0.toList x.f0.toList) && mayCP (some x) l)
def mayC (l : List Ct) : Bool := mayCP none l
def cLt (x y : Ct) : Prop := Op.bytesLess x.f0.toList y.f0.toList = true
theorem mayC_loop : ∀ (suf pre : List Ct) (k : Nat), suf.length < k → (pre ++ suf).length < 4611686018427387904 → (∀ x ∈ suf, kSmall x.f0 = true) →
    ctr_May.l0 k (pre ++ suf) (pre ++ suf) (((pre ++ suf).length : Nat) : Int) ((pre.length : Nat) : Int) = some (mayCP pre.getLast? suf)
  | suf, pre, 0, hk, _, _ => by omega
  | [], pre, k + 1, _, _, _ => by
    simp only [ctr_May.l0]
    rw [if_neg (by simp)]
    rfl
  | x :: suf, pre, k + 1, hk, hl, ho => by
    have hlt : ((pre.length : Nat) : Int) < (((pre ++ x :: suf).length : Nat) : Int) := by simp; omega
    have hpl : pre.length < 4611686018427387904 := by simp at hl; omega
    have ih := mayC_loop suf (pre ++ [x]) k (by simp at hk; omega) (by simpa using hl) (fun y hy => ho y (List.mem_cons_of_mem _ hy))
    rw [appS, List.getLast?_concat, lenS] at ih
    simp only [ctr_May.l0]
    rw [if_pos hlt, if_pos (by omega), if_pos hlt, rdC_mid, keyS (ho x List.mem_cons_self), Option.bind_some, wrapS hpl]
    unfold mayCP oneC
    cases h1 : keyB x.f0.data.toList with
    | false => rfl
    | true =>
      simp only [if_true, Bool.true_and]
      by_cases h0 : x.f1 = 0
      · rw [if_pos h0]; simp [h0]
      · rw [if_neg h0]
        simp only [ne_eq, h0, not_false_eq_true, decide_true, Bool.true_and]
        rcases List.eq_nil_or_concat pre with rfl | ⟨p, y, rfl⟩
        · rw [if_neg (by simp)]
          simpa using ih
        · rw [List.concat_eq_append] at *
          have hw : wrap64 ((((p ++ [y]).length : Nat) : Int) - 1) = ((p.length : Nat) : Int) := by
            rw [List.length_append, List.length_singleton]; exact wrapP (by simp at hpl; omega)
          rw [if_pos (by simp), hw, if_pos (by omega), if_pos (by simp; omega), appS, rdC_mid, List.getLast?_concat]
          rw [appS] at ih
          cases h2 : Op.bytesLess y.f0.toList x.f0.toList with
          | false => simp [h2]
          | true =>
            simp only [if_true]
            rw [ih, h2]; rfl
theorem mayC_f (k : Nat) (l : List Ct) (hk : l.length < k) (hl : l.length < 4611686018427387904) (ho : ∀ x ∈ l, kSmall x.f0 = true) : ctr_May.f k l = some (mayC l) := by
  have := mayC_loop l [] k hk (by simpa using hl) ho
  simpa [ctr_May.f, mayC] using this
theorem mayCP_iff : ∀ (l : List Ct) (p : Option Ct), mayCP p l = true ↔ (∀ x ∈ l, oneC x = true) ∧ (p.toList ++ l).Pairwise cLt
  | [], none => by simp [mayCP]
  | [], some y => by simp [mayCP]
  | x :: l, none => by
    have ih := mayCP_iff l (some x)
    unfold mayCP
    simp only [Bool.true_and, Bool.and_eq_true, ih, List.mem_cons, forall_eq_or_imp, Option.toList, List.nil_append, List.cons_append]
    exact and_assoc.symm
  | x :: l, some y => by
    have ih := mayCP_iff l (some x)
    unfold mayCP
    simp only [Bool.and_eq_true, ih, List.mem_cons, forall_eq_or_imp, Option.toList, List.nil_append, List.cons_append]
    constructor
    · rintro ⟨h1, h2, h3, h4⟩
      refine ⟨⟨h1, h3⟩, ?_⟩
      rw [List.pairwise_cons]
      refine ⟨fun z hz => ?_, h4⟩
      rcases List.mem_cons.1 hz with rfl | hz
      · exact h2
      · exact less_trans h2 ((List.pairwise_cons.1 h4).1 z hz)
    · rintro ⟨⟨h1, h3⟩, h4⟩
      rw [List.pairwise_cons] at h4
      exact ⟨h1, h4.1 x List.mem_cons_self, h3, h4.2⟩
theorem mayC_iff (l : List Ct) : mayC l = true ↔ (∀ x ∈ l, oneC x = true) ∧ l.Pairwise cLt := by
  have := mayCP_iff l none
  simpa [mayC] using this
theorem setM_len (es : MapL) (k : ByteArray) (n : Int) : (setM es k n).length ≤ es.length + 1 := by
  induction es with
  | nil => simp [setM]
  | cons y l ih =>
    unfold setM
    split
    · simp; exact ih
    · split <;> simp
theorem addM_len (t : Int) : ∀ (l : List Ct) (es : MapL), (addM t es l).length ≤ es.length + l.length
  | [], es => by simp [addM]
  | c :: l, es => by
    have h1 := addM_len t l (incM es c.f0 (wrap64 (t * c.f1)))
    have h2 := setM_len es c.f0 (wrap64 (getM es c.f0 + wrap64 (t * c.f1)))
    show (addM t (incM es c.f0 (wrap64 (t * c.f1))) l).length ≤ _
    unfold incM at *
    simp only [List.length_cons]
    omega
end Go.Proofs.YtmcddoolniaehaaGreat.S
end
section
namespace Go.Proofs.YtmcddoolniaehaaGreat.S
open Go.RowKit Go.Maps Go.Sort Go.Proofs.YtmcddoolniaehaaGreatW.PrintWords Go.Proofs.YtmcddoolniaehaaGreatW.PrintLast Go.Proofs.YtmcddoolniaehaaGreatW.PrintMore Go.Proofs.YtmcddoolniaehaaGreatW
set_option linter.unusedVariables false
set_option linter.unusedSimpArgs false
theorem own_lower' {w : World} {base base' : Nat} {e : TypeId} {size n : Nat} {v : Value} {xs : List Value} (h : w.ownsRow base e size v n xs) (hb : base' ≤ base) : w.ownsRow base' e size v n xs := by
  obtain ⟨h1, h2⟩ := h
  refine ⟨h1, ?_⟩
  rcases h2 with h2 | ⟨g, cap, cur, rfl, hg, hh, r⟩
  · exact .inl h2
  · exact .inr ⟨g, cap, cur, rfl, Nat.le_trans hb hg, hh, r⟩
theorem ctrCells_length (x : S73) : (ctrCells x).length = k73.sz := rfl
theorem R_ctr {w : World} {base : Nat} {v : Value} {xs : List S73} (h : w.ownsRow base 73 2 v xs.length (ctrRow xs)) : k73.R 73 w base (fun _ => True) v xs :=
  R_of_cells (d := k73) (enc := ctrCells) ctrCells_length (fun w base ok x => k73_mkM w base ok x) h (fun _ _ => trivial)
set_option maxHeartbeats 1000000 in
set_option maxRecDepth 100000 in
theorem list_calls (gb n : Nat) (es : MapL) (w : World) (hown : OwnsM w gb n es) (hup : es.Pairwise mLt) (hlim : es.length * 32 ≤ 140737488355328) :
    Calls Tryz.prog 81 #[.map (some gb)] w fun e w' => ∃ v, e = .returned v ∧ w'.ownsRow w.heap.size 73 2 v (outM es).length (ctrRow (outM es)) ∧ Below w.heap.size w w' := by
  have H := Aside0.mk (sorted_calls gb n es w hown hup hlim)
  clear hown hup hlim
  go_enter Tryz.func81, Tryz.ntmps81
  go_wp2_with fail
  refine H.out.mono ?_
  rintro e w1 ⟨v, rfl, ho, hb⟩
  obtain ⟨A', c', rfl⟩ := own_slice ho
  have HO := Aside0.mk ho
  have HB := Aside0.mk hb
  clear ho hb
  go_wp2
  go_ret
  exact ⟨_, rfl, HO.out, HB.out⟩
def smallC (l : List Ct) : Bool := decide ((l.length + 1) * 256 ≤ 140737488351232) && l.all (fun x => kSmall x.f0)
theorem smallC_len {l : List Ct} (h : smallC l = true) : (l.length + 1) * 256 ≤ 140737488351232 := by
  unfold smallC at h; simp at h; exact h.1
theorem smallC_all {l : List Ct} (h : smallC l = true) : ∀ x ∈ l, kSmall x.f0 = true := by
  unfold smallC at h; simp at h; exact h.2
theorem kSmall_le {a : ByteArray} (h : kSmall a = true) : a.size ≤ maxLen := by
  unfold kSmall at h; simp at h; unfold maxLen; omega
def incO (l : List Ct) (key : ByteArray) (n : Int) : List Ct := if mayC l && keyB key.data.toList then outM (incM (addM 1 [] l) key n) else []
def ctr_Inc.f (l0 : List (S73)) (a1 : ByteArray) (a2 : Int) : Option ((List (S73))) :=
  if smallC l0 = true ∧ kSmall a1 = true then some (incO l0 a1 a2) else none
set_option maxHeartbeats 4000000 in
set_option maxRecDepth 100000 in
theorem ctr_Inc.calls (A0 : Option Addr) (c0 : Nat) (l0 : List (S73)) (a1 : ByteArray) (a2 : Int) (r : List (S73)) (w : World) (hr0 : Kd.C k73 w A0 l0.length l0) (hc0 : l0.length ≤ c0) (h : ctr_Inc.f l0 a1 a2 = some r) :
    Calls Tryz.prog 31 #[.slice A0 l0.length c0, .string a1, .int .i64 a2] w fun e w' => ∃ v0_ : Value, e = .returned (v0_) ∧ Kd.R k73 73 w' w.heap.size (fun _ => True) v0_ r ∧ Below w.heap.size w w' := by
  unfold ctr_Inc.f at h
  split at h
  case isFalse => cases h
  case isTrue hh =>
  cases h
  have hlen := smallC_len hh.1
  have hl64 : l0.length < 4611686018427387904 := by omega
  have HMAY := Aside0.mk (ctr_May.calls (l0.length + 1) A0 c0 l0 (mayC l0) w hr0 hc0 (mayC_f (l0.length + 1) l0 (by omega) hl64 (smallC_all hh.1)))
  have HKEY := Aside0.mk (fun (W : World) => ops_Key.calls a1 _ W (keyS hh.2))
  have HR := Aside0.mk hr0
  have HS := Aside0.mk (smallC_all hh.1)
  have HA := Aside0.mk (kSmall_le hh.2)
  clear hr0 hh
  have hum := Tryz.underlying100
  have hmm := @run_makeMap Tryz.prog
  go_enter Tryz.func31, Tryz.ntmps31
  go_wp2_with fail
  refine HMAY.out.mono ?_
  rintro e w1 ⟨rfl, hb1⟩
  have HB1 := Aside0.mk hb1
  clear hb1 HMAY
  cases hm : mayC l0 with
  | false =>
    have HI := Aside0.mk (show incO l0 a1 a2 = [] by simp [incO, hm])
    clear hm
    go_wp2
    go_ret
    exact ⟨_, rfl, by rw [HI.out]; exact Kd.R_nil _ _ _ _ _, HB1.out⟩
  | true =>
    go_wp2_with fail
    refine (HKEY.out _).mono ?_
    rintro e w2 ⟨rfl, hd2⟩
    have HB2 := Aside0.mk (below_then HB1.out HB1.out.size (Drawn0.below hd2))
    clear hd2 HB1 HKEY
    cases hkb : keyB a1.data.toList with
    | false =>
      have HI := Aside0.mk (show incO l0 a1 a2 = [] by simp [incO, hkb])
      clear hm hkb
      go_wp2
      go_ret
      exact ⟨_, rfl, by rw [HI.out]; exact Kd.R_nil _ _ _ _ _, HB2.out⟩
    | true =>
      have HI := Aside0.mk (show incO l0 a1 a2 = outM (incM (addM 1 [] l0) a1 a2) by simp [incO, hkb, hm])
      clear hm hkb
      have hw2 := HB2.out.size
      have hlm : 0 + l0.length ≤ maxLen := by unfold maxLen; omega
      have HADD := Aside0.mk (sums_add w w2.heap.size 0 [] A0 c0 l0 1 (w2.alloc (.map #[] 0)) (below_alloc HB2.out _) hw2 (World.ownsMap_made w2 Tryz.prog 9 (plainElem (H := Unit) Tryz.prog 3)) List.Pairwise.nil HR.out hlm (fun x hx => kSmall_le (HS.out x hx)))
      go_wp2_with fail
      refine HADD.out.mono ?_
      rintro e w3 ⟨rfl, ho3, hb3⟩
      have HO3 := Aside0.mk ho3
      have HB3 := Aside0.mk hb3
      have hkl := HA.out
      have hn3 : 0 + l0.length < maxLen := by unfold maxLen; omega
      have hlenA := addM_len 1 l0 []
      have HUPA := Aside0.mk (addM_up 1 l0 [] List.Pairwise.nil)
      clear ho3 hb3 HADD hmm
      go_wp2_with (first
        | (at_lookup; refine wpList_lookup_own_int _ rfl _ _ 100 rfl 9 3 .i64 lawS Tryz.underlying100 Tryz.underlying3 (zeroI _) w2.heap.size _ _ rfl HO3.out _ _ rfl (Go.WideMaps.keyOf_string_mk Tryz.underlying9 hkl) ?_; intro c hat hwc; have HC := Aside0.mk hat; clear hat hwc)
        | (at_mapUpdate; refine wpList_mapUpdate_own _ rfl _ _ _ 100 rfl 9 3 lawS Tryz.underlying100 _ w2.heap.size _ _ rfl HO3.out hn3 _ _ _ rfl rfl (Go.WideMaps.keyOf_string_mk Tryz.underlying9 hkl) _ [] (plainElem_int Tryz.underlying3 (wrap64_wf _)) ?_; intro w4 hown4 hgrow4; have HO4 := Aside0.mk hown4; have HG4 := Aside0.mk hgrow4; clear hown4 hgrow4))
      have HO5 : Aside0 (OwnsM w4 w2.heap.size (0 + l0.length + 1) (incM (addM 1 [] l0) a1 a2)) := by
        have h1 := HO4.out
        have h2 := HC.out
        rw [at_dat] at h2
        injection h2 with h2
        injection h2 with _ h2
        rw [put_dat _ _ HUPA.out] at h1
        unfold incM
        rw [h2]
        exact ⟨h1⟩
      have HB5 := Aside0.mk (HB3.out.grown HG4.out HB3.out.size (fun j hj => by simp at hj; subst hj; exact hw2))
      have hlenI : (incM (addM 1 [] l0) a1 a2).length * 32 ≤ 140737488355328 := by
        have h1 := setM_len (addM 1 [] l0) a1 (wrap64 (getM (addM 1 [] l0) a1 + a2))
        have h2 : (incM (addM 1 [] l0) a1 a2).length ≤ l0.length + 1 := by
          unfold incM
          simp only [List.length_nil] at hlenA
          omega
        exact Nat.le_trans (Nat.mul_le_mul_right 32 h2) (by omega)
      have HL := Aside0.mk (list_calls w2.heap.size _ (incM (addM 1 [] l0) a1 a2) w4 HO5.out (incM_up _ _ HUPA.out) hlenI)
      clear HO4 HG4 HC HO3 HB3 HO5 hlenA hlenI
      go_wp2_with fail
      refine HL.out.mono ?_
      rintro e w5 ⟨v, rfl, ho5, hb5⟩
      obtain ⟨A', c', rfl⟩ := own_slice ho5
      have HO6 := Aside0.mk (own_lower' ho5 HB5.out.size)
      have HB6 := Aside0.mk (below_step HB5.out hb5)
      clear ho5 hb5 HL HB5
      go_wp2
      go_ret
      exact ⟨_, rfl, by rw [HI.out]; exact R_ctr HO6.out, HB6.out⟩
end Go.Proofs.YtmcddoolniaehaaGreat.S
end
