/- Several of the walk's texts in one: SHPairElems, Sx17, SPP, SEqs, SSt0. -/
import Derived.Sort.OwnSorted
import Derived.Maps.RangeWalk
import Derived.Test.YtmcddoolniaehaaGreatMD04
import Derived.Test.YtmcddoolniaehaaGreatMD09
import Derived.Test.YtmcddoolniaehaaGreatMD12
import Derived.Test.YtmcddoolniaehaaGreatMD13
import Derived.Test.YtmcddoolniaehaaGreatMD15
import Derived.Test.YtmcddoolniaehaaGreatMD16
import Derived.Test.YtmcddoolniaehaaGreatMD17
section
namespace Go.Proofs.YtmcddoolniaehaaGreat.S
open Go.RowKit Go.Sort Go.Proofs.YtmcddoolniaehaaGreatW.PrintWords Go.Proofs.YtmcddoolniaehaaGreatW.PrintLast Go.Proofs.YtmcddoolniaehaaGreatW.PrintMore Go.Proofs.YtmcddoolniaehaaGreatW
set_option linter.unusedVariables false
set_option linter.unusedSimpArgs false
theorem enc_data (a : ByteArray) : encStr a.data.toList = .string a := by
  unfold encStr; simp
def keyIs (key : ByteArray) (x : Pr) : Bool := x.f0.toList == key.toList
def elemL (l : List Pr) (key : ByteArray) : List (List UInt8) := (l.filter (keyIs key)).map fun x => x.f1.data.toList
def elemsP (l : List Pr) (key : ByteArray) : List ByteArray := (Lib.compact (elemL l key)).map fun b => ⟨b.toArray⟩
def pair_Elems.f (l0 : List (S43)) (a1 : ByteArray) : Option (List ByteArray) :=
  if smallP l0 = true then some (elemsP l0 a1) else none
theorem own_short {w : World} {base n c m : Nat} {A : Option Addr} {e : TypeId} {xs : List Value} (h : w.ownsRow base e 1 (.slice A n c) n xs) (hm : m ≤ n) (hp : 0 < n) : w.ownsRow base e 1 (.slice A m c) m (xs.take m) := by
  obtain ⟨h1, h2⟩ := h
  rcases h2 with ⟨h2, _⟩ | ⟨g, cap, cur, h2, hg, hh, h3, h4, h5, h6⟩
  · injection h2 with _ h2; omega
  · cases h2
    refine ⟨by rw [List.length_take, h1]; omega, .inr ⟨g, c, cur, rfl, hg, hh, by omega, h4, h5, ?_⟩⟩
    rw [← h6, List.take_take]
    congr 1
    omega
theorem elemL_take (l : List Pr) (key : ByteArray) (k : Nat) (h : k < l.length) : elemL (l.take (k + 1)) key = elemL (l.take k) key ++ (if keyIs key (rd_T43 l (k : Nat)) = true then [(rd_T43 l (k : Nat)).f1.data.toList] else []) := by
  unfold elemL
  rw [List.take_succ_eq_append_getElem h, List.filter_append, List.map_append, rdP_at l k h]
  congr 1
  cases hq : keyIs key l[k] <;> simp [hq]
theorem elemL_len (l : List Pr) (key : ByteArray) : (elemL l key).length ≤ l.length := by
  unfold elemL
  rw [List.length_map]; exact List.length_filter_le _ _
theorem compact_len (zs : List (List UInt8)) : (Lib.compact zs).length ≤ zs.length := by
  unfold Lib.compact Lib.compactUpTo
  rw [List.length_map]
  exact Nat.le_trans (List.length_filter_le _ _) (by simp)
theorem compact_own (base : Nat) (A : Option Addr) (c : Nat) (zs : List (List UInt8)) (w : World) (ho : w.ownsRow base 9 1 (.slice A zs.length c) zs.length (zs.map encStr)) (hm : zs.length ≤ 9223372036854775807) :
    Calls Tryz.prog 72 #[.slice A zs.length c] w fun e w' => ∃ A' c', e = .returned (.slice A' (Lib.compact zs).length c') ∧ w'.ownsRow base 9 1 (.slice A' (Lib.compact zs).length c') (Lib.compact zs).length ((Lib.compact zs).map encStr) ∧ w.grownBy w' (Value.slice A zs.length c).ownBlock := by
  rcases Nat.eq_zero_or_pos zs.length with h0 | hpos
  · obtain rfl := List.eq_nil_of_length_eq_zero h0
    refine (Tryz.slices_Compact_string_empty A c w).mono ?_
    rintro e w' ⟨rfl, rfl⟩
    exact ⟨A, c, rfl, ho, World.grownBy.refl _ _⟩
  · rcases ho.2 with ⟨hnil, h0⟩ | ⟨g, cap, cur, he, hbase, hb, h1, h2, h3, h4⟩
    · injection hnil with _ hn _; omega
    · cases he
      have hH : Holds encStr w g 0 zs.toArray := holds_of_block hb (by simpa using h4)
      refine (Tryz.slices_Compact_string g 0 c zs w hH hm h1).mono ?_
      rintro e w' ⟨rfl, q, rfl⟩
      have hl := compact_len zs
      have hrow := ownsRow_sorted (ss := zs) (ts := Lib.compact zs ++ List.replicate (zs.length - (Lib.compact zs).length) []) (os := #[]) (n := q) (by simp; omega) hbase hb h1 h2 h3
      rw [grow_empty] at hrow
      have hg := grownBy_sorted (w := w) (g := g) (n := q) (os := #[]) (Lib.compact zs ++ List.replicate (zs.length - (Lib.compact zs).length) []).toArray
      rw [grow_empty] at hg
      refine ⟨_, _, rfl, ?_, hg⟩
      have := own_short hrow hl hpos
      rw [List.map_append, List.take_append_of_le_length (by simp), List.take_of_length_le (by simp)] at this
      exact this
theorem cell_one2 (w4 : World) (o : Obj) (a : ByteArray) : ∀ j u, ([encStr a.data.toList] : List Value)[j]? = some u → ((w4.alloc o).alloc (.cells #[.string a] 9)).cell? ((⟨w4.heap.size + 1, 0, none⟩ : Addr).add j) = some u := by
  have hb : ((w4.alloc o).alloc (.cells #[.string a] 9)).heap[w4.heap.size + 1]? = some (.cells #[.string a] 9 (0, 0)) := by
    have := blk_new (w4.alloc o) (.cells #[.string a] 9)
    simpa using this
  intro j u hj
  rw [add_plain, blk_cell hb j]
  match j, hj with
  | 0, hj => rw [enc_data] at hj; exact hj
  | j + 1, hj => simp at hj
theorem R_texts {w : World} {base : Nat} {A : Option Addr} {c : Nat} {zs : List (List UInt8)} (h : w.ownsRow base 9 1 (.slice A zs.length c) zs.length (zs.map encStr)) : Kd.R Kd.string 9 w base (fun _ => True) (.slice A zs.length c) (zs.map fun b => (⟨b.toArray⟩ : ByteArray)) := by
  have e : (zs.map fun b => (⟨b.toArray⟩ : ByteArray)).flatMap (fun a => [Value.string a]) = zs.map encStr := by
    rw [← List.map_eq_flatMap, List.map_map]
    rfl
  refine R_of_cells (d := Kd.string) (enc := fun a => [Value.string a]) (fun _ => rfl) (fun _ _ _ _ => rfl) ?_ (fun _ _ => trivial)
  rw [e, List.length_map]
  exact h
set_option maxHeartbeats 4000000 in
set_option maxRecDepth 100000 in
theorem pair_Elems.calls (A0 : Option Addr) (c0 : Nat) (l0 : List (S43)) (a1 : ByteArray) (r : List ByteArray) (w : World) (hr0 : Kd.C k43 w A0 l0.length l0) (hc0 : l0.length ≤ c0) (h : pair_Elems.f l0 a1 = some r) :
    Calls Tryz.prog 22 #[.slice A0 l0.length c0, .string a1] w fun e w' => ∃ v0_ : Value, e = .returned (v0_) ∧ Kd.R Kd.string 9 w' w.heap.size (fun _ => True) v0_ r ∧ Below w.heap.size w w' := by
  unfold pair_Elems.f at h
  split at h
  case isFalse => cases h
  case isTrue hh =>
  cases h
  have hlen := smallP_len hh
  obtain ⟨i0, hi, hz0, hz1, hz2⟩ := info_parts (show (Tryz.prog.info? 9).map (fun i => (i.zero, i.size, i.bytes)) = some (some (.string ⟨#[]⟩), 1, 16) by kernel_rfl)
  have HR := Aside0.mk hr0
  have hl63 := hr0.2.1
  have hu := Tryz.underlying43
  clear hr0 hh
  go_enter Tryz.func22, Tryz.ntmps22
  go_wp2
  go_loopw [5, 10] (fun v i wr => ∃ (k : Nat) (ss : List (List UInt8)), k ≤ l0.length ∧ i = .int .i64 k ∧ Aside0 (ss = elemL (l0.take k) a1) ∧ Aside0 (wr.ownsRow w.heap.size 9 1 v ss.length (ss.map encStr)) ∧ Aside0 (Below w.heap.size w wr)) (fun _ i _ => l0.length - (intOf i).toNat)
  case atStart => exact ⟨0, [], Nat.zero_le _, rfl, ⟨rfl⟩, ⟨own_nil _ _ _ _⟩, ⟨Below.refl _ _⟩⟩
  case round =>
    obtain ⟨k, ss, hk, rfl, hS, hO, HB⟩ := hrel
    obtain ⟨A, c, rfl⟩ := own_slice hO.out
    by_cases hlt : k < l0.length
    · obtain ⟨ad, e, hx0, hx1, hx2, hx3⟩ := at_T43 HR.out k (by omega) (by omega)
      cases e
      replace hx0 := (HB.out.cell (World.block_lt_of_cell? w _ hx0)).trans hx0
      replace hx1 := (HB.out.cell (World.block_lt_of_cell? w _ hx1)).trans hx1
      replace hx2 := (HB.out.cell (World.block_lt_of_cell? w _ hx2)).trans hx2
      replace hx3 := (HB.out.cell (World.block_lt_of_cell? w _ hx3)).trans hx3
      simp only [Int.toNat_natCast] at hx0 hx1 hx2 hx3
      have HT := Aside0.mk (elemL_take l0 a1 k hlt)
      generalize rd_T43 l0 (k : Nat) = x at hx0 hx1 hx2 hx3 HT
      have hsl : ss.length ≤ k := by
        have := elemL_len (l0.take k) a1
        rw [← hS.out, List.length_take] at this
        omega
      cases hq : (x.f0.toList == a1.toList) with
      | true =>
        have HS2 : Aside0 (ss ++ [x.f1.data.toList] = elemL (l0.take (k + 1)) a1) := ⟨by rw [HT.out, ← hS.out]; simp [keyIs, hq]⟩
        have hb16 : (ss.length + 1) * 16 ≤ 140737488355328 := by omega
        have hml : ss.length + 1 ≤ maxLen := by unfold maxLen; omega
        have hnw := Aside0.mk (cell_one2 wr (.cells #[.string x.f0, .string x.f1, .int .i64 x.f2.f0, .int .i64 x.f2.f1] 43) x.f1)
        have hwsz := HB.out.size
        clear HT hS
        go_wp2_with (first
          | (at_builtin; refine wpList_append_own _ rfl _ _ 50 rfl w.heap.size 9 i0 (.string ⟨#[]⟩) 1 16 Tryz.underlying50 hi hz0 hz1 hz2 rfl (by decide) _ _ _ rfl ((hO.out.alloc _).alloc _) ⟨wr.heap.size + 1, 0, none⟩ 1 1 [encStr x.f1.data.toList] rfl rfl hnw.out (by simp [Value.oneCell', encStr]) hml hb16 (by simp; omega) ?_; intro v' w3 hown' hg3 hnil3; go_frame))
        have HB3 := Aside0.mk ((below_alloc (below_alloc HB.out _) _).grown hg3 (by simp; omega) (own_base hO.out))
        have HO3 : Aside0 (w3.ownsRow w.heap.size 9 1 v' (ss ++ [x.f1.data.toList]).length ((ss ++ [x.f1.data.toList]).map encStr)) := ⟨by simpa using hown'⟩
        clear hown' hg3 hnil3 hO HB hnw
        go_roundw
        case rel => exact ⟨k + 1, _, by omega, by go_num, HS2, HO3, HB3⟩
        case measure => simp [intOf]; omega
      | false =>
        have HS2 : Aside0 (ss = elemL (l0.take (k + 1)) a1) := ⟨by rw [HT.out, ← hS.out]; simp [keyIs, hq]⟩
        have HO3 := Aside0.mk (hO.out.alloc (.cells #[.string x.f0, .string x.f1, .int .i64 x.f2.f0, .int .i64 x.f2.f1] 43))
        have HB3 := Aside0.mk (below_alloc HB.out (.cells #[.string x.f0, .string x.f1, .int .i64 x.f2.f0, .int .i64 x.f2.f1] 43))
        clear HT hS hO HB
        go_wp2
        go_roundw
        case rel => exact ⟨k + 1, ss, by omega, by go_num, HS2, HO3, HB3⟩
        case measure => simp [intOf]; omega
    · have hsl : ss.length ≤ l0.length := by
        have := elemL_len (l0.take k) a1
        rw [← hS.out, List.length_take] at this
        omega
      have HC := Aside0.mk (compact_own w.heap.size A c ss wr hO.out (by omega))
      have HE := Aside0.mk (show elemL l0 a1 = ss by rw [hS.out, List.take_of_length_le (by omega)])
      have HOB := Aside0.mk (own_base hO.out)
      clear hO hS
      go_wp2_with fail
      refine HC.out.mono ?_
      rintro e w3 ⟨A3, c3, rfl, ho3, hg3⟩
      have HB3 := Aside0.mk (HB.out.grown hg3 HB.out.size HOB.out)
      have HO3 := Aside0.mk ho3
      clear ho3 hg3
      go_wp2
      go_ret
      refine ⟨_, rfl, ?_, HB3.out⟩
      have e1 : elemsP l0 a1 = (Lib.compact ss).map fun b => ⟨b.toArray⟩ := by unfold elemsP; rw [HE.out]
      rw [e1]
      exact R_texts HO3.out
end Go.Proofs.YtmcddoolniaehaaGreat.S
end
section
namespace Go.Proofs.YtmcddoolniaehaaGreat.S
open Go.RowKit Go.Proofs.YtmcddoolniaehaaGreatW.PrintWords Go.Proofs.YtmcddoolniaehaaGreatW.PrintLast Go.Proofs.YtmcddoolniaehaaGreatW.PrintMore
attribute [local go_sem] max2_int min2_int max_two min_two max_three min_three max_four min_four   -- for this text's walks alone
set_option linter.unusedVariables false
set_option linter.unusedSimpArgs false

def law08_Few.l0 : Nat → List (S43) → Int → Option (Bool)
 | 0, _, _ => none
 | k + 1, x0, x3 => if x3 < (x0.length : Int) then (if 0 ≤ x3 then (if (((rd_T43 x0 x3).f0).size : Int) > 100 then (some false) else (if (((rd_T43 x0 x3).f1).size : Int) > 100 then (some false) else (law08_Few.l0 k x0 (wrap64 (x3 + 1))))) else (none)) else (some true)
def law08_Few.f (k : Nat) (l0 : List (S43)) : Option (Bool) := if (l0.length : Int) > 30 then (some false) else (law08_Few.l0 k l0 0)
theorem law08_Few.mono_l : ∀ k, (∀ y0 y1, LeO (law08_Few.l0 k y0 y1) (law08_Few.l0 (k + 1) y0 y1))
 | 0 => fun _ _ r h => by simp [law08_Few.l0] at h
 | k + 1 => by
  have ih0 := law08_Few.mono_l k
  ·intro y0 y1
   unfold law08_Few.l0
   repeat' first
   | (with_reducible exact ih0 _ _)
   | (with_reducible exact LeO.refl _)
   | (with_reducible exact LeO.none _)
   | (with_reducible refine LeO.ite ?_ ?_)
   | (with_reducible refine LeO.bind ?_ (fun _ => ?_))
   | exact ih0 _ _
   | exact LeO.none _
   | refine LeO.ite ?_ ?_
   | refine LeO.bind ?_ (fun _ => ?_)
theorem law08_Few.mono : ∀ a0 k, LeO (law08_Few.f k a0) (law08_Few.f (k + 1) a0) := by
 intro a0 k
 have ih0 := law08_Few.mono_l k
 unfold law08_Few.f
 repeat' first
   | (with_reducible exact ih0 _ _)
   | (with_reducible exact LeO.refl _)
   | (with_reducible exact LeO.none _)
   | (with_reducible refine LeO.ite ?_ ?_)
   | (with_reducible refine LeO.bind ?_ (fun _ => ?_))
   | exact ih0 _ _
   | exact LeO.none _
   | refine LeO.ite ?_ ?_
   | refine LeO.bind ?_ (fun _ => ?_)
set_option maxHeartbeats 8000000 in
set_option maxRecDepth 100000 in
theorem law08_Few.calls (k : Nat) (A0 : Option Addr) (c0 : Nat) (l0 : List (S43)) (r : Bool) (w : World) (hr0 : Kd.C k43 w A0 l0.length l0) (hc0 : l0.length ≤ c0) (h : law08_Few.f k l0 = some r) :
  Calls Tryz.prog 26 #[.slice A0 l0.length c0] w fun e w' => e = .returned (.bool r) ∧ Drawn0 w w' := by
 have HR0 := Aside0.mk hr0
 have HC0 := Aside0.mk hc0
 clear hr0 hc0
 have H : (if (l0.length : Int) > 30 then (some false) else (law08_Few.l0 k l0 0)) = some r := h
 clear h
 by_cases c2 : (l0.length : Int) > 30
 ·rw [if_pos c2] at H
  have c2b0 : decide (30 < (l0.length : Int)) = true := decide_eq_true c2
  have c2b1 : decide (30 < l0.length) = true := decide_eq_true (by omega)
  clear c2
  obtain rfl := Option.some.inj H
  go_enter Tryz.func26, Tryz.ntmps26
  go_wp2
  go_ret
  exact ⟨by first | rfl | (simp; done) | (simp [*]; done), by repeat (first | exact Drawn0.refl _ | apply Drawn0.step)⟩
 ·rw [if_neg c2] at H
  have c2b0 : decide (30 < (l0.length : Int)) = false := decide_eq_false c2
  have c2b1 : decide (30 < l0.length) = false := decide_eq_false (by omega)
  clear c2
  have H' := Aside0.mk H
  clear H
  go_enter Tryz.func26, Tryz.ntmps26
  go_wp2
  go_loopg [3] k (fun kq v3 w' => ∃ (x3_1 : Int), v3 = .int .i64 x3_1 ∧ Aside0 (law08_Few.l0 kq l0 x3_1 = some r) ∧ Aside0 (kq ≤ k) ∧ Drawn0 w w')
  case atStart => exact ⟨(0), (by first | rfl | (simp; done) | (simp [*]; done)), H', ⟨Nat.le_refl _⟩, by repeat (first | exact Drawn0.refl _ | apply Drawn0.step)⟩
  case round =>
   clear H'
   try clear c2
   try clear c2b0
   try clear c2b1
   try clear p2
   obtain ⟨x3_1, rfl, HA, HK1, ⟨m1, rfl⟩⟩ := hrel
   cases gk with
   | zero => exact absurd HA.out (by simp [law08_Few.l0])
   | succ k1 =>
    have H := HA.out
    clear HA
    simp only [law08_Few.l0] at H
    by_cases c3 : x3_1 < (l0.length : Int)
    ·rw [if_pos c3] at H
     have c3b0 : decide (x3_1 < (l0.length : Int)) = true := decide_eq_true c3
     clear c3
     by_cases c4 : 0 ≤ x3_1
     ·rw [if_pos c4] at H
      have c4b0 : decide (0 ≤ x3_1) = true := decide_eq_true c4
      clear c4
      by_cases c5 : (((rd_T43 l0 x3_1).f0).size : Int) > 100
      ·rw [if_pos c5] at H
       have c5b0 : decide (100 < (((rd_T43 l0 x3_1).f0).size : Int)) = true := decide_eq_true c5
       have c5b1 : decide (100 < ((rd_T43 l0 x3_1).f0).size) = true := decide_eq_true (by omega)
       clear c5
       obtain rfl := Option.some.inj H
       have p200 : 0 ≤ (x3_1 : Int) := of_decide_eq_true (by first | (with_reducible assumption) | assumption)
       have q200 : x3_1 < (l0.length : Int) := of_decide_eq_true (by first | (with_reducible assumption) | assumption)
       obtain ⟨ad200, e200, hx200_0, hx200_1, hx200_2, hx200_3⟩ := at_T43 HR0.out x3_1 p200 q200
       cases e200
       replace p200 := eq_true p200
       replace q200 := eq_true q200
       go_wp2
       go_ret
       exact ⟨by first | rfl | (simp; done) | (simp [*]; done), by repeat (first | exact Drawn0.refl _ | apply Drawn0.step)⟩
      ·rw [if_neg c5] at H
       have c5b0 : decide (100 < (((rd_T43 l0 x3_1).f0).size : Int)) = false := decide_eq_false c5
       have c5b1 : decide (100 < ((rd_T43 l0 x3_1).f0).size) = false := decide_eq_false (by omega)
       clear c5
       by_cases c6 : (((rd_T43 l0 x3_1).f1).size : Int) > 100
       ·rw [if_pos c6] at H
        have c6b0 : decide (100 < (((rd_T43 l0 x3_1).f1).size : Int)) = true := decide_eq_true c6
        have c6b1 : decide (100 < ((rd_T43 l0 x3_1).f1).size) = true := decide_eq_true (by omega)
        clear c6
        obtain rfl := Option.some.inj H
        have p200 : 0 ≤ (x3_1 : Int) := of_decide_eq_true (by first | (with_reducible assumption) | assumption)
        have q200 : x3_1 < (l0.length : Int) := of_decide_eq_true (by first | (with_reducible assumption) | assumption)
        obtain ⟨ad200, e200, hx200_0, hx200_1, hx200_2, hx200_3⟩ := at_T43 HR0.out x3_1 p200 q200
        cases e200
        replace p200 := eq_true p200
        replace q200 := eq_true q200
        have p201 : 0 ≤ (x3_1 : Int) := of_decide_eq_true (by first | (with_reducible assumption) | assumption)
        have q201 : x3_1 < (l0.length : Int) := of_decide_eq_true (by first | (with_reducible assumption) | assumption)
        obtain ⟨ad201, e201, hx201_0, hx201_1, hx201_2, hx201_3⟩ := at_T43 HR0.out x3_1 p201 q201
        obtain rfl : ad200 = ad201 := (by injection e201)
        replace p201 := eq_true p201
        replace q201 := eq_true q201
        go_wp2
        go_ret
        exact ⟨by first | rfl | (simp; done) | (simp [*]; done), by repeat (first | exact Drawn0.refl _ | apply Drawn0.step)⟩
       ·rw [if_neg c6] at H
        have c6b0 : decide (100 < (((rd_T43 l0 x3_1).f1).size : Int)) = false := decide_eq_false c6
        have c6b1 : decide (100 < ((rd_T43 l0 x3_1).f1).size) = false := decide_eq_false (by omega)
        clear c6
        have H' := Aside0.mk H
        clear H
        have p200 : 0 ≤ (x3_1 : Int) := of_decide_eq_true (by first | (with_reducible assumption) | assumption)
        have q200 : x3_1 < (l0.length : Int) := of_decide_eq_true (by first | (with_reducible assumption) | assumption)
        obtain ⟨ad200, e200, hx200_0, hx200_1, hx200_2, hx200_3⟩ := at_T43 HR0.out x3_1 p200 q200
        cases e200
        replace p200 := eq_true p200
        replace q200 := eq_true q200
        have p201 : 0 ≤ (x3_1 : Int) := of_decide_eq_true (by first | (with_reducible assumption) | assumption)
        have q201 : x3_1 < (l0.length : Int) := of_decide_eq_true (by first | (with_reducible assumption) | assumption)
        obtain ⟨ad201, e201, hx201_0, hx201_1, hx201_2, hx201_3⟩ := at_T43 HR0.out x3_1 p201 q201
        obtain rfl : ad200 = ad201 := (by injection e201)
        replace p201 := eq_true p201
        replace q201 := eq_true q201
        go_wp2
        go_roundg k1
        case measure => have := HK1.out; omega
        case rel => exact ⟨(wrap64 (x3_1 + 1)), (by first | rfl | (simp; done) | (simp [*]; done)), H', ⟨by have := HK1.out; omega⟩, by repeat (first | exact Drawn0.refl _ | apply Drawn0.step)⟩
     ·rw [if_neg c4] at H
      exact absurd H (by simp)
    ·rw [if_neg c3] at H
     have c3b0 : decide (x3_1 < (l0.length : Int)) = false := decide_eq_false c3
     clear c3
     obtain rfl := Option.some.inj H
     go_wp2
     go_ret
     exact ⟨by first | rfl | (simp; done) | (simp [*]; done), by repeat (first | exact Drawn0.refl _ | apply Drawn0.step)⟩

end Go.Proofs.YtmcddoolniaehaaGreat.S
end
section
namespace Go.Proofs.YtmcddoolniaehaaGreat.S
open Go.RowKit Go.Sort Go.Proofs.YtmcddoolniaehaaGreatW.PrintWords Go.Proofs.YtmcddoolniaehaaGreatW.PrintLast Go.Proofs.YtmcddoolniaehaaGreatW.PrintMore Go.Proofs.YtmcddoolniaehaaGreatW
set_option linter.unusedVariables false
set_option linter.unusedSimpArgs false
abbrev okL (l : List Pr) : Prop := ∀ x ∈ l, okPair x
theorem getQ_fold : ∀ (l : List Pr) (es : MapQ) (B : Nat), (∀ q, 0 ≤ getQ es q ∧ getQ es q ≤ B) → B + l.length < 4611686018427387904 → okL l → ∀ p, okPair p →
    (0 < getQ (l.foldl incQ es) p ↔ (0 < getQ es p ∨ p ∈ l))
  | [], es, B, _, _, _, p, _ => by simp
  | x :: l, es, B, hB, hl, ho, p, hp => by
    have h1 : ∀ q, 0 ≤ getQ (incQ es x) q ∧ getQ (incQ es x) q ≤ (B + 1 : Nat) := by
      intro q
      unfold incQ
      rw [getQ_set]
      have := hB x
      have := hB q
      simp at hl
      split
      · unfold wrap64; omega
      · omega
    have ih := getQ_fold l (incQ es x) (B + 1) h1 (by simp at hl; omega) (fun y hy => ho y (List.mem_cons_of_mem _ hy)) p hp
    show 0 < getQ (l.foldl incQ (incQ es x)) p ↔ _
    rw [ih, List.mem_cons]
    have hx := hB x
    have e : 0 < getQ (incQ es x) p ↔ (0 < getQ es p ∨ p = x) := by
      unfold incQ
      rw [getQ_set]
      by_cases hk : kbP p = kbP x
      · have := kbP_inj hp (ho x List.mem_cons_self) hk
        rw [if_pos hk]
        simp at hl
        constructor
        · intro _; exact .inr this
        · intro _; unfold wrap64; omega
      · rw [if_neg hk]
        constructor
        · exact .inl
        · rintro (h | h)
          · exact h
          · exact absurd (by rw [h]) hk
    rw [e]
    constructor
    · rintro ((h | h) | h)
      · exact .inl h
      · exact .inr (.inl h)
      · exact .inr (.inr h)
    · rintro (h | h | h)
      · exact .inl (.inl h)
      · exact .inl (.inr h)
      · exact .inr h
theorem inP_iff {l : List Pr} (ho : okL l) (hl : l.length < 1000000) {p : Pr} (hp : okPair p) : inP l p = true ↔ p ∈ l := by
  unfold inP
  rw [decide_eq_true_eq]
  have := getQ_fold l [] 0 (fun q => by simp [getQ]) (by omega) ho p hp
  rw [show ofQ l = l.foldl incQ [] from rfl, this]
  simp [getQ]
theorem keys_mem {l : List Pr} (ho : okL l) {p : Pr} : p ∈ (ofQ l).map Prod.fst ↔ p ∈ l := by
  constructor
  · intro h
    obtain ⟨q, hq, rfl⟩ := List.mem_map.1 h
    exact ofQ_keys l q hq
  · have hset : ∀ (es : MapQ) (k : Pr) (n : Int) (q : Pr), okPair k → okPair q → q ∈ es.map Prod.fst → q ∈ (setQ es k n).map Prod.fst := by
      intro es k n q hk hq
      induction es with
      | nil => simp
      | cons y l ih =>
        intro h
        unfold setQ
        rw [List.map_cons, List.mem_cons] at h
        split
        · rw [List.map_cons, List.mem_cons]
          rcases h with h | h
          · exact .inl h
          · exact .inr (ih h)
        · split
          · rename_i he
            rw [List.map_cons, List.mem_cons]
            rcases h with h | h
            · left
              rw [← h] at he
              exact kbP_inj hq hk he
            · exact .inr h
          · rw [List.map_cons, List.mem_cons, List.map_cons, List.mem_cons]
            rcases h with h | h
            · exact .inr (.inl h)
            · exact .inr (.inr h)
    have hself : ∀ (es : MapQ) (k : Pr) (n : Int), k ∈ (setQ es k n).map Prod.fst := by
      intro es k n
      induction es with
      | nil => simp [setQ]
      | cons y l ih =>
        unfold setQ
        split
        · rw [List.map_cons, List.mem_cons]; exact .inr ih
        · split <;> simp
    have hfold : ∀ (l : List Pr) (es : MapQ), okL l → okPair p → (p ∈ es.map Prod.fst ∨ p ∈ l) → p ∈ (l.foldl incQ es).map Prod.fst := by
      intro l
      induction l with
      | nil => intro es _ _ h; rcases h with h | h; exact h; cases h
      | cons x l ih =>
        intro es ho hp h
        refine ih (incQ es x) (fun y hy => ho y (List.mem_cons_of_mem _ hy)) hp ?_
        rcases h with h | h
        · exact .inl (hset es x _ p (ho x List.mem_cons_self) hp h)
        · rcases List.mem_cons.1 h with rfl | h
          · exact .inl (hself es _ _)
          · exact .inr h
    intro h
    exact hfold l [] ho (ho p h) (.inr h)
theorem setP_mem {l : List Pr} (ho : okL l) {p : Pr} : p ∈ setP l ↔ p ∈ l := by
  unfold setP sortP
  rw [List.mem_mergeSort, keys_mem ho]
theorem setP_ok {l : List Pr} (ho : okL l) : okL (setP l) := fun x hx => ho x ((setP_mem ho).1 hx)
theorem setP_nodup (l : List Pr) : (setP l).Nodup := (List.mergeSort_perm _ _).nodup_iff.2 (keysQ_nodup (ofQ_up l))
theorem setP_up (l : List Pr) : (setP l).Pairwise pLt := by
  have h1 := sortP_pair ((ofQ l).map Prod.fst)
  have h2 : (setP l).Pairwise (· ≠ ·) := setP_nodup l
  have h3 := List.pairwise_and_iff.2 ⟨h1, h2⟩
  refine List.Pairwise.imp ?_ h3
  intro a b hab
  rcases ltP_tri a b with h | h | h
  · exact h
  · exact absurd h hab.2
  · have : ltOf cmpP b a = true := h
    have h4 := hab.1
    rw [this] at h4
    cases h4
theorem up_ext : ∀ {l l' : List Pr}, l.Pairwise pLt → l'.Pairwise pLt → (∀ x, x ∈ l ↔ x ∈ l') → l = l'
  | [], [], _, _, _ => rfl
  | [], y :: l', _, _, h => by have := (h y).2 List.mem_cons_self; cases this
  | x :: l, [], _, _, h => by have := (h x).1 List.mem_cons_self; cases this
  | x :: l, y :: l', h1, h2, h => by
    rw [List.pairwise_cons] at h1 h2
    have hxy : x = y := by
      rcases List.mem_cons.1 ((h x).1 List.mem_cons_self) with e | hx
      · exact e
      · rcases List.mem_cons.1 ((h y).2 List.mem_cons_self) with e | hy
        · exact e.symm
        · have := ltP_trans (h2.1 x hx) (h1.1 y hy)
          rw [ltP_irrefl] at this; cases this
    subst hxy
    rw [up_ext h1.2 h2.2 (fun z => ?_)]
    have hz := h z
    rw [List.mem_cons, List.mem_cons] at hz
    constructor
    · intro hm
      rcases hz.1 (.inr hm) with e | hm'
      · subst e; have := h1.1 z hm; unfold pLt at this; rw [ltP_irrefl] at this; cases this
      · exact hm'
    · intro hm
      rcases hz.2 (.inr hm) with e | hm'
      · subst e; have := h2.1 z hm; unfold pLt at this; rw [ltP_irrefl] at this; cases this
      · exact hm'
theorem setP_of_up {l : List Pr} (ho : okL l) (hu : l.Pairwise pLt) : setP l = l := up_ext (setP_up l) hu (fun _ => setP_mem ho)
theorem setP_len (l : List Pr) : (setP l).length ≤ l.length := by
  unfold setP
  rw [sortP_length, List.length_map]; exact ofQ_len l
theorem may_upP {l : List Pr} (h : mayP l = true) : l.Pairwise pLt := ((mayP_iff l).1 h).2
theorem may_one {l : List Pr} (h : mayP l = true) : ∀ x ∈ l, oneP x = true := ((mayP_iff l).1 h).1
theorem may_of {l : List Pr} (h1 : ∀ x ∈ l, oneP x = true) (h2 : l.Pairwise pLt) : mayP l = true := (mayP_iff l).2 ⟨h1, h2⟩
theorem mergeP_mem {base a b : List Pr} (hb : okL base) (ha : okL a) (hc : okL b) (lb : base.length < 1000000) (la : a.length < 1000000) (lc : b.length < 1000000) (m0 : mayP base = true) (m1 : mayP a = true) (m2 : mayP b = true) {x : Pr} :
    x ∈ mergeP base a b ↔ (x ∈ a ∨ x ∈ b) ∧ ((x ∈ a ∧ x ∈ b) ∨ ¬ x ∈ base) := by
  unfold mergeP
  rw [m0, m1, m2]
  have hok : okL ((a ++ b).filter (mcond base a b)) := fun y hy => by
    rcases List.mem_append.1 (List.mem_filter.1 hy).1 with h | h
    · exact ha y h
    · exact hc y h
  rw [if_pos (by rfl), setP_mem hok, List.mem_filter, List.mem_append]
  constructor
  · rintro ⟨h, hq⟩
    refine ⟨h, ?_⟩
    have hx : okPair x := by rcases h with h | h; exact ha x h; exact hc x h
    unfold mcond at hq
    simp only [Bool.or_eq_true, Bool.and_eq_true, Bool.not_eq_true'] at hq
    rcases hq with ⟨q1, q2⟩ | q
    · exact .inl ⟨(inP_iff ha la hx).1 q1, (inP_iff hc lc hx).1 q2⟩
    · right
      intro hm
      rw [(inP_iff hb lb hx).2 hm] at q; cases q
  · rintro ⟨h, hq⟩
    refine ⟨h, ?_⟩
    have hx : okPair x := by rcases h with h | h; exact ha x h; exact hc x h
    unfold mcond
    simp only [Bool.or_eq_true, Bool.and_eq_true, Bool.not_eq_true']
    rcases hq with ⟨q1, q2⟩ | q
    · exact .inl ⟨(inP_iff ha la hx).2 q1, (inP_iff hc lc hx).2 q2⟩
    · right
      cases hi : inP base x with
      | false => rfl
      | true => exact absurd ((inP_iff hb lb hx).1 hi) q
theorem mergeP_up (base a b : List Pr) : (mergeP base a b).Pairwise pLt := by
  unfold mergeP
  split
  · exact setP_up _
  · exact List.Pairwise.nil
theorem mergeP_len (base a b : List Pr) : (mergeP base a b).length ≤ a.length + b.length := by
  unfold mergeP
  split
  · refine Nat.le_trans (setP_len _) (Nat.le_trans (List.length_filter_le _ _) ?_)
    rw [List.length_append]; exact Nat.le_refl _
  · simp
theorem mergeP_sub {base a b : List Pr} (ha : okL a) (hc : okL b) {x : Pr} (h : x ∈ mergeP base a b) : x ∈ a ∨ x ∈ b := by
  unfold mergeP at h
  split at h
  · have hok : okL ((a ++ b).filter (mcond base a b)) := fun y hy => by
      rcases List.mem_append.1 (List.mem_filter.1 hy).1 with h | h
      · exact ha y h
      · exact hc y h
    exact List.mem_append.1 (List.mem_filter.1 ((setP_mem hok).1 h)).1
  · cases h
theorem mergeP_ok {base a b : List Pr} (ha : okL a) (hc : okL b) : okL (mergeP base a b) := fun x hx => by
  rcases mergeP_sub ha hc hx with h | h
  · exact ha x h
  · exact hc x h
theorem mergeP_may {base a b : List Pr} (ha : okL a) (hc : okL b) (m1 : mayP a = true) (m2 : mayP b = true) : mayP (mergeP base a b) = true :=
  may_of (fun x hx => by
    rcases mergeP_sub ha hc hx with h | h
    · exact may_one m1 x h
    · exact may_one m2 x h) (mergeP_up _ _ _)
theorem addP_mem {l : List Pr} {p : Pr} (ho : okL l) (hp : okPair p) (m : mayP l = true) (m1 : mayP [p] = true) {x : Pr} : x ∈ addP l p ↔ x ∈ l ∨ x = p := by
  unfold addP
  rw [m, m1]
  have hok : okL (l ++ [p]) := fun y hy => by
    rcases List.mem_append.1 hy with h | h
    · exact ho y h
    · rw [List.mem_singleton.1 h]; exact hp
  rw [if_pos (by rfl), setP_mem hok, List.mem_append, List.mem_singleton]
theorem addP_up (l : List Pr) (p : Pr) : (addP l p).Pairwise pLt := by
  unfold addP
  split
  · exact setP_up _
  · exact List.Pairwise.nil
theorem addP_len (l : List Pr) (p : Pr) : (addP l p).length ≤ l.length + 1 := by
  unfold addP
  split
  · refine Nat.le_trans (setP_len _) ?_; simp
  · simp
theorem addP_ok {l : List Pr} {p : Pr} (ho : okL l) (hp : okPair p) : okL (addP l p) := by
  unfold addP
  split
  · refine setP_ok fun y hy => ?_
    rcases List.mem_append.1 hy with h | h
    · exact ho y h
    · rw [List.mem_singleton.1 h]; exact hp
  · intro x hx; cases hx
theorem addP_may {l : List Pr} {p : Pr} (ho : okL l) (hp : okPair p) (m : mayP l = true) (m1 : mayP [p] = true) : mayP (addP l p) = true :=
  may_of (fun x hx => by
    rcases (addP_mem ho hp m m1).1 hx with h | h
    · exact may_one m x h
    · rw [h]; exact may_one m1 p (List.mem_singleton.2 rfl)) (addP_up _ _)
theorem delP_mem {l : List Pr} {key elem : ByteArray} (m : mayP l = true) {x : Pr} : x ∈ delP l key elem ↔ x ∈ l ∧ goneB key elem x = false := by
  unfold delP keepP
  rw [m, if_pos rfl, List.mem_filter]
  simp
theorem delP_sub (l : List Pr) (key elem : ByteArray) : (delP l key elem).Sublist l := by
  unfold delP keepP
  split
  · exact List.filter_sublist
  · exact List.nil_sublist _
theorem delP_may {l : List Pr} {key elem : ByteArray} (m : mayP l = true) : mayP (delP l key elem) = true :=
  may_of (fun x hx => may_one m x ((delP_sub l key elem).subset hx)) ((may_upP m).sublist (delP_sub l key elem))
theorem delP_ok {l : List Pr} {key elem : ByteArray} (ho : okL l) : okL (delP l key elem) := fun x hx => ho x ((delP_sub l key elem).subset hx)
theorem delP_len (l : List Pr) (key elem : ByteArray) : (delP l key elem).length ≤ l.length := (delP_sub l key elem).length_le
def eqQ (x y : Pr) : Bool := (x.f0.toList == y.f0.toList) && ((x.f1.toList == y.f1.toList) && ((x.f2.f0 == y.f2.f0) && (x.f2.f1 == y.f2.f1)))
theorem eqQ_iff {x y : Pr} : eqQ x y = true ↔ x = y := by
  unfold eqQ
  simp only [Bool.and_eq_true, beq_iff_eq]
  constructor
  · rintro ⟨h1, h2, h3, h4⟩
    obtain ⟨a, b, c, d⟩ := x
    obtain ⟨a', b', c', d'⟩ := y
    simp only at h1 h2 h3 h4
    obtain rfl := toList_inj h1
    obtain rfl := toList_inj h2
    subst h3 h4
    rfl
  · rintro rfl; exact ⟨rfl, rfl, rfl, rfl⟩
instance : DecidableEq Pr := fun x y => decidable_of_iff (eqQ x y = true) eqQ_iff
theorem monoP_up {α : Type} {f : Nat → Option α} (hm : ∀ k, LeO (f k) (f (k + 1))) {n : Nat} {r : α} (h : f n = some r) : ∀ k, n ≤ k → f k = some r := by
  intro k hk
  obtain ⟨d, rfl⟩ := Nat.exists_eq_add_of_le hk
  clear hk
  induction d with
  | zero => exact h
  | succ d ih => exact hm _ _ ih
def fewP (l : List Pr) : Bool := decide (l.length ≤ 30) && l.all (fun x => decide (x.f0.size ≤ 100) && decide (x.f1.size ≤ 100))
theorem fewP_loop : ∀ (suf pre : List Pr) (k : Nat), suf.length < k → (pre ++ suf).length < 4611686018427387904 →
    law08_Few.l0 k (pre ++ suf) ((pre.length : Nat) : Int) = some (suf.all (fun x => decide (x.f0.size ≤ 100) && decide (x.f1.size ≤ 100)))
  | suf, pre, 0, hk, _ => by omega
  | [], pre, k + 1, _, _ => by
    simp only [law08_Few.l0]
    rw [if_neg (by simp)]
    rfl
  | x :: suf, pre, k + 1, hk, hl => by
    have hlt : ((pre.length : Nat) : Int) < (((pre ++ x :: suf).length : Nat) : Int) := by simp; omega
    have hpl : pre.length < 4611686018427387904 := by simp at hl; omega
    have ih := fewP_loop suf (pre ++ [x]) k (by simp at hk; omega) (by simpa using hl)
    rw [app_one, len_one] at ih
    simp only [law08_Few.l0]
    rw [if_pos hlt, if_pos (by omega), rdP_mid, wrapUp hpl, ih, List.all_cons]
    by_cases h1 : x.f0.size ≤ 100
    · rw [if_neg (by omega)]
      by_cases h2 : x.f1.size ≤ 100
      · rw [if_neg (by omega)]; simp [h1, h2]
      · rw [if_pos (by omega)]; simp [h1, h2]
    · rw [if_pos (by omega)]; simp [h1]
theorem fewP_f (k : Nat) (l : List Pr) (hk : 31 < k) : law08_Few.f k l = some (fewP l) := by
  unfold law08_Few.f fewP
  by_cases h : l.length ≤ 30
  · rw [if_neg (by omega)]
    have := fewP_loop l [] k (by omega) (by simp; omega)
    simp only [List.nil_append, List.length_nil] at this
    rw [show ((0 : Nat) : Int) = 0 from rfl] at this
    rw [this]; simp [h]
  · rw [if_pos (by omega)]; simp [h]
theorem fewP_len {l : List Pr} (h : fewP l = true) : l.length ≤ 30 := by
  unfold fewP at h; simp at h; exact h.1
theorem smallP_of {l : List Pr} (h : okL l) (hl : l.length ≤ 1000) : smallP l = true := by
  unfold smallP
  simp only [Bool.and_eq_true, decide_eq_true_eq, List.all_eq_true]
  exact ⟨by omega, fun x hx => okB_iff.2 (h x hx)⟩
theorem mayPk (k : Nat) (l : List Pr) (hk : l.length + 5 < k) (hl : l.length ≤ 1000) (ho : okL l) : pair_May.f k l = some (mayP l) := mayP_f k l hk (by omega) ho
theorem addP_f {l : List Pr} {p : Pr} (ho : okL l) (hp : okPair p) (hl : l.length ≤ 1000) : pair_Add.f l p.f0 p.f1 p.f2.f0 p.f2.f1 = some (addP l p) := by
  unfold pair_Add.f
  rw [if_pos ⟨smallP_of ho hl, okB_iff.2 hp⟩]
theorem delP_f {l : List Pr} {a b : ByteArray} (ho : okL l) (hl : l.length ≤ 1000) : pair_Del.f l a b = some (delP l a b) := by
  unfold pair_Del.f
  rw [if_pos (smallP_of ho hl)]
theorem elemsP_f {l : List Pr} {a : ByteArray} (ho : okL l) (hl : l.length ≤ 1000) : pair_Elems.f l a = some (elemsP l a) := by
  unfold pair_Elems.f
  rw [if_pos (smallP_of ho hl)]
theorem mergeP_f {a b c : List Pr} (h0 : okL a) (h1 : okL b) (h2 : okL c) (l0 : a.length ≤ 1000) (l1 : b.length ≤ 1000) (l2 : c.length ≤ 1000) : pair_Merge.f a b c = some (mergeP a b c) := by
  unfold pair_Merge.f
  rw [if_pos ⟨smallP_of h0 l0, smallP_of h1 l1, smallP_of h2 l2⟩]
end Go.Proofs.YtmcddoolniaehaaGreat.S
end
section
namespace Go.Proofs.YtmcddoolniaehaaGreat.S
open Go.RowKit Go.Proofs.YtmcddoolniaehaaGreatW.PrintWords Go.Proofs.YtmcddoolniaehaaGreatW.PrintLast Go.Proofs.YtmcddoolniaehaaGreatW.PrintMore Go.Proofs.YtmcddoolniaehaaGreatW
set_option linter.unusedVariables false
set_option linter.unusedSimpArgs false
noncomputable def eqB {α : Type} (x y : α) : Bool := @decide (x = y) (Classical.propDecidable _)
theorem eqB_iff {α : Type} {x y : α} : eqB x y = true ↔ x = y := by unfold eqB; simp
theorem eqB_true {α : Type} {x y : α} (h : x = y) : eqB x y = true := eqB_iff.2 h
theorem eqB_false {α : Type} {x y : α} (h : x ≠ y) : eqB x y = false := by
  cases e : eqB x y with
  | false => rfl
  | true => exact absurd (eqB_iff.1 e) h
theorem bool_ne {t : Bool} {p : Prop} (h : t = false ↔ p) : t = true ↔ ¬p := by
  rw [← h]; cases t <;> simp
theorem wrapE {n : Nat} (h : n < 4611686018427387904) : wrap64 ((n : Int) + 1) = ((n + 1 : Nat) : Int) := by unfold wrap64; omega
theorem beqL {a b : ByteArray} : (a.toList == b.toList) = true ↔ a = b := by
  rw [beq_iff_eq]
  exact ⟨toList_inj, fun h => by rw [h]⟩
theorem neC_iff (x y : S73) : (!(((x).f0.toList) == ((y).f0.toList)) || (!((x).f1 == (y).f1))) = true ↔ x ≠ y := by
  have h : (!(((x).f0.toList) == ((y).f0.toList)) || (!((x).f1 == (y).f1))) = false ↔ x = y := by
    simp only [Bool.or_eq_false_iff, Bool.not_eq_false', beqL, beq_iff_eq]
    constructor
    · intro h
      obtain ⟨h1, h2⟩ := h
      replace h1 := toList_inj h1
      cases x; cases y; simp_all
    · rintro rfl
      simp
  exact bool_ne h
theorem eqC_loop (l m : List S73) (hlm : l.length = m.length) (hl : l.length < 4611686018427387904) : ∀ (d n k : Nat), n + d = l.length → d < k → (∀ i, i < n → l[i]? = m[i]?) → api_Ctr.l0 k l m (l.length : Int) (n : Int) = some (eqB l m)
  | 0, n, 0, _, hk, _ => by omega
  | 0, n, k + 1, hn, _, hi => by
    have hn' : n = l.length := by omega
    subst hn'
    simp only [api_Ctr.l0]
    rw [if_neg (by omega)]
    have : l = m := List.ext_getElem? fun i => by
      by_cases q : i < l.length
      · exact hi i q
      · rw [List.getElem?_eq_none (by omega), List.getElem?_eq_none (by omega)]
    rw [eqB_true this]
  | d + 1, n, 0, _, hk, _ => by omega
  | d + 1, n, k + 1, hn, hk, hi => by
    have hlt : n < l.length := by omega
    have hlt2 : n < m.length := by omega
    have e1 : rd_T73 l (n : Int) = l[n] := by simp [rd_T73, List.getD_eq_getElem?_getD, hlt]
    have e2 : rd_T73 m (n : Int) = m[n] := by simp [rd_T73, List.getD_eq_getElem?_getD, hlt2]
    simp only [api_Ctr.l0]
    rw [if_pos (by omega), if_pos (by omega), if_pos (by omega), if_pos (by omega), e1, e2]
    by_cases q : l[n] = m[n]
    · rw [if_neg (fun h => (neC_iff _ _).1 h q), wrapE (by omega)]
      refine eqC_loop l m hlm hl d (n + 1) k (by omega) (by omega) (fun i hi2 => ?_)
      by_cases q2 : i < n
      · exact hi i q2
      · obtain rfl : i = n := by omega
        rw [List.getElem?_eq_getElem hlt, List.getElem?_eq_getElem hlt2, q]
    · rw [if_pos ((neC_iff _ _).2 q), eqB_false (fun h => q (by subst h; rfl))]
theorem eqC_f (k : Nat) (l m : List S73) (hk : l.length < k) (hl : l.length < 1000000) : api_Ctr.f k l m = some (eqB l m) := by
  unfold api_Ctr.f
  by_cases q : l.length = m.length
  · rw [if_pos (by omega)]
    exact eqC_loop l m q (by omega) l.length 0 k (by omega) hk (fun i h => absurd h (by omega))
  · rw [if_neg (by omega), eqB_false (fun h => q (by rw [h]))]
theorem neR_iff (x y : S47) : (!((x.f0.toList) == (y.f0.toList)) || (!((x.f1.toList) == (y.f1.toList)) || (!(x.f2 == y.f2) || ((!(x.f3.f0 == y.f3.f0) || (!(x.f3.f1 == y.f3.f1))))))) = true ↔ x ≠ y := by
  have h : (!((x.f0.toList) == (y.f0.toList)) || (!((x.f1.toList) == (y.f1.toList)) || (!(x.f2 == y.f2) || ((!(x.f3.f0 == y.f3.f0) || (!(x.f3.f1 == y.f3.f1))))))) = false ↔ x = y := by
    simp only [Bool.or_eq_false_iff, Bool.not_eq_false', beqL, beq_iff_eq]
    constructor
    · intro h
      obtain ⟨h1, h2, h3, h4, h5⟩ := h
      exact reg_ext (toList_inj h1) (toList_inj h2) h3 h4 h5
    · rintro rfl
      simp
  exact bool_ne h
theorem eqR_loop (l m : List S47) (hlm : l.length = m.length) (hl : l.length < 4611686018427387904) : ∀ (d n k : Nat), n + d = l.length → d < k → (∀ i, i < n → l[i]? = m[i]?) → api_Reg.l0 k l m (l.length : Int) (n : Int) = some (eqB l m)
  | 0, n, 0, _, hk, _ => by omega
  | 0, n, k + 1, hn, _, hi => by
    have hn' : n = l.length := by omega
    subst hn'
    simp only [api_Reg.l0]
    rw [if_neg (by omega)]
    have : l = m := List.ext_getElem? fun i => by
      by_cases q : i < l.length
      · exact hi i q
      · rw [List.getElem?_eq_none (by omega), List.getElem?_eq_none (by omega)]
    rw [eqB_true this]
  | d + 1, n, 0, _, hk, _ => by omega
  | d + 1, n, k + 1, hn, hk, hi => by
    have hlt : n < l.length := by omega
    have hlt2 : n < m.length := by omega
    have e1 : rd_T47 l (n : Int) = l[n] := by simp [rd_T47, List.getD_eq_getElem?_getD, hlt]
    have e2 : rd_T47 m (n : Int) = m[n] := by simp [rd_T47, List.getD_eq_getElem?_getD, hlt2]
    simp only [api_Reg.l0]
    rw [if_pos (by omega), if_pos (by omega), if_pos (by omega), if_pos (by omega), e1, e2]
    by_cases q : l[n] = m[n]
    · rw [if_neg (fun h => (neR_iff _ _).1 h q), wrapE (by omega)]
      refine eqR_loop l m hlm hl d (n + 1) k (by omega) (by omega) (fun i hi2 => ?_)
      by_cases q2 : i < n
      · exact hi i q2
      · obtain rfl : i = n := by omega
        rw [List.getElem?_eq_getElem hlt, List.getElem?_eq_getElem hlt2, q]
    · rw [if_pos ((neR_iff _ _).2 q), eqB_false (fun h => q (by subst h; rfl))]
theorem eqR_f (k : Nat) (l m : List S47) (hk : l.length < k) (hl : l.length < 1000000) : api_Reg.f k l m = some (eqB l m) := by
  unfold api_Reg.f
  by_cases q : l.length = m.length
  · rw [if_pos (by omega)]
    exact eqR_loop l m q (by omega) l.length 0 k (by omega) hk (fun i h => absurd h (by omega))
  · rw [if_neg (by omega), eqB_false (fun h => q (by rw [h]))]
theorem neP_iff (x y : S43) : (!((x.f0.toList) == (y.f0.toList)) || (!((x.f1.toList) == (y.f1.toList)) || ((!(x.f2.f0 == y.f2.f0) || (!(x.f2.f1 == y.f2.f1)))))) = true ↔ x ≠ y := by
  have h : (!((x.f0.toList) == (y.f0.toList)) || (!((x.f1.toList) == (y.f1.toList)) || ((!(x.f2.f0 == y.f2.f0) || (!(x.f2.f1 == y.f2.f1)))))) = false ↔ x = y := by
    simp only [Bool.or_eq_false_iff, Bool.not_eq_false', beqL, beq_iff_eq]
    constructor
    · intro h
      obtain ⟨h1, h2, h3, h4⟩ := h
      replace h1 := toList_inj h1
      replace h2 := toList_inj h2
      obtain ⟨a, b, ⟨c, d⟩⟩ := x
      obtain ⟨a', b', ⟨c', d'⟩⟩ := y
      simp_all
    · rintro rfl
      simp
  exact bool_ne h
theorem eqP_loop (l m : List S43) (hlm : l.length = m.length) (hl : l.length < 4611686018427387904) : ∀ (d n k : Nat), n + d = l.length → d < k → (∀ i, i < n → l[i]? = m[i]?) → api_Pair.l0 k l m (l.length : Int) (n : Int) = some (eqB l m)
  | 0, n, 0, _, hk, _ => by omega
  | 0, n, k + 1, hn, _, hi => by
    have hn' : n = l.length := by omega
    subst hn'
    simp only [api_Pair.l0]
    rw [if_neg (by omega)]
    have : l = m := List.ext_getElem? fun i => by
      by_cases q : i < l.length
      · exact hi i q
      · rw [List.getElem?_eq_none (by omega), List.getElem?_eq_none (by omega)]
    rw [eqB_true this]
  | d + 1, n, 0, _, hk, _ => by omega
  | d + 1, n, k + 1, hn, hk, hi => by
    have hlt : n < l.length := by omega
    have hlt2 : n < m.length := by omega
    have e1 : rd_T43 l (n : Int) = l[n] := by simp [rd_T43, List.getD_eq_getElem?_getD, hlt]
    have e2 : rd_T43 m (n : Int) = m[n] := by simp [rd_T43, List.getD_eq_getElem?_getD, hlt2]
    simp only [api_Pair.l0]
    rw [if_pos (by omega), if_pos (by omega), if_pos (by omega), if_pos (by omega), e1, e2]
    by_cases q : l[n] = m[n]
    · rw [if_neg (fun h => (neP_iff _ _).1 h q), wrapE (by omega)]
      refine eqP_loop l m hlm hl d (n + 1) k (by omega) (by omega) (fun i hi2 => ?_)
      by_cases q2 : i < n
      · exact hi i q2
      · obtain rfl : i = n := by omega
        rw [List.getElem?_eq_getElem hlt, List.getElem?_eq_getElem hlt2, q]
    · rw [if_pos ((neP_iff _ _).2 q), eqB_false (fun h => q (by subst h; rfl))]
theorem eqP_f (k : Nat) (l m : List S43) (hk : l.length < k) (hl : l.length < 1000000) : api_Pair.f k l m = some (eqB l m) := by
  unfold api_Pair.f
  by_cases q : l.length = m.length
  · rw [if_pos (by omega)]
    exact eqP_loop l m q (by omega) l.length 0 k (by omega) hk (fun i h => absurd h (by omega))
  · rw [if_neg (by omega), eqB_false (fun h => q (by rw [h]))]
end Go.Proofs.YtmcddoolniaehaaGreat.S
end
section
namespace Go.Proofs.YtmcddoolniaehaaGreat.S
open Go.RowKit Go.Proofs.YtmcddoolniaehaaGreatW.PrintWords Go.Proofs.YtmcddoolniaehaaGreatW.PrintLast Go.Proofs.YtmcddoolniaehaaGreatW.PrintMore Go.Proofs.YtmcddoolniaehaaGreatW
set_option linter.unusedVariables false
set_option linter.unusedSimpArgs false
theorem wpl_load_on {ops : Array Oper} {rest : List Oper} {op : Oper} {a : Act} {w : World} {Q : Exit → Act → World → Prop} (hw : Region.wanted op (yielded ops a.tmps) = true) (ty : TypeId) (x : Operand) (ho : op.op = .load ty x)
    (b o : Nat) (hx : a.eval x = .pointer (some ⟨b, o, none⟩)) (cs : List Value) (d : TypeDesc) (hc : w.rangeAt b o cs)
    (hu : Tryz.prog.underlying ty = some d) (hd : d.isRow = true) (hi : (Tryz.prog.info? ty).map (·.size) = some cs.length)
    (h : wpList Tryz.prog ops Q rest (a.put op.dst (.agg cs.toArray)) w) : wpList Tryz.prog ops Q (op :: rest) a w :=
  wpList_step fun K hK => by
    rw [if_pos hw]
    exact wp_load_mid ty x ho b o hx cs d hc hu hd hi (hK _ _ h)
structure St where
  c : List Ct
  r : List Rg
  p : List Pr
def noS : St := ⟨[], [], []⟩
def StV (W : World) (cs : List Value) (s : St) : Prop := ∃ A0 c0 A1 c1 A2 c2, cs = [.slice A0 s.c.length c0, .slice A1 s.r.length c1, .slice A2 s.p.length c2] ∧
  Kd.C k73 W A0 s.c.length s.c ∧ s.c.length ≤ c0 ∧ Kd.C k47 W A1 s.r.length s.r ∧ s.r.length ≤ c1 ∧ Kd.C k43 W A2 s.p.length s.p ∧ s.p.length ≤ c2
theorem StV.below {W W1 : World} {cs : List Value} {s : St} (h : StV W cs s) (hb : Below W.heap.size W W1) : StV W1 cs s := by
  obtain ⟨A0, c0, A1, c1, A2, c2, e, h1, h2, h3, h4, h5, h6⟩ := h
  exact ⟨A0, c0, A1, c1, A2, c2, e, Kd.C_below h1 hb, h2, Kd.C_below h3 hb, h4, Kd.C_below h5 hb, h6⟩
theorem StV.len {W : World} {cs : List Value} {s : St} (h : StV W cs s) : cs.length = 3 := by
  obtain ⟨A0, c0, A1, c1, A2, c2, rfl, _⟩ := h
  rfl
theorem StV.one {W : World} {cs : List Value} {s : St} (h : StV W cs s) : ∀ u ∈ cs, u.oneCell' = true := by
  obtain ⟨A0, c0, A1, c1, A2, c2, rfl, _⟩ := h
  intro u hu
  simp only [List.mem_cons, List.not_mem_nil, or_false] at hu
  rcases hu with rfl | rfl | rfl <;> rfl
def zeroV : List Value := [.slice none 0 0, .slice none 0 0, .slice none 0 0]
theorem zero_is (W : World) : StV W zeroV noS := ⟨none, 0, none, 0, none, 0, rfl, Kd.C_nil _ _, Nat.le_refl _, Kd.C_nil _ _, Nat.le_refl _, Kd.C_nil _ _, Nat.le_refl _⟩
theorem StV_of {W : World} {b0 b1 b2 : Nat} {ok : Nat → Prop} {v0 v1 v2 : Value} {s : St} (h0 : Kd.R k73 73 W b0 ok v0 s.c) (h1 : Kd.R k47 47 W b1 ok v1 s.r) (h2 : Kd.R k43 43 W b2 ok v2 s.p) : StV W [v0, v1, v2] s := by
  obtain ⟨A0, c0, rfl, l0, C0⟩ := Kd.R_reads h0
  obtain ⟨A1, c1, rfl, l1, C1⟩ := Kd.R_reads h1
  obtain ⟨A2, c2, rfl, l2, C2⟩ := Kd.R_reads h2
  exact ⟨A0, c0, A1, c1, A2, c2, rfl, C0, l0, C1, l1, C2, l2⟩
def FitS (n : Nat) (s : St) : Prop := (s.c.length ≤ n ∧ s.r.length ≤ n ∧ s.p.length ≤ n) ∧ kS s.c ∧ (∀ x ∈ s.r, smallR x) ∧ okL s.p
theorem FitS.up {n m : Nat} {s : St} (h : FitS n s) (hn : n ≤ m) : FitS m s := ⟨⟨by have := h.1; omega, by have := h.1; omega, by have := h.1; omega⟩, h.2⟩
def mayS (s : St) : Bool := mayC s.c && (mayB s.r && mayP s.p)
theorem mayS_f (k : Nat) {s : St} (h : FitS 1000 s) (hk : s.c.length < k ∧ s.r.length < k ∧ s.p.length + 5 < k) : state_May.f k s.c s.r s.p = some (mayS s) := by
  obtain ⟨⟨l0, l1, l2⟩, h0, h1, h2⟩ := h
  unfold state_May.f mayS
  rw [mayCk k s.c (by omega) l0 h0, Option.bind_some]
  cases mayC s.c with
  | false => rfl
  | true =>
    rw [if_pos rfl, may_f k s.r (by omega) (by omega) (ok_all h1), Option.bind_some]
    cases mayB s.r with
    | false => rfl
    | true => rw [if_pos rfl, mayPk k s.p (by omega) l2 h2]; rfl
theorem may_calls {W : World} {cs : List Value} {s : St} (hv : StV W cs s) (h : FitS 1000 s) : Calls Tryz.prog 15 #[.agg cs.toArray] W fun e w' => e = .returned (.bool (mayS s)) ∧ Below W.heap.size W w' := by
  obtain ⟨A0, c0, A1, c1, A2, c2, rfl, h1, h2, h3, h4, h5, h6⟩ := hv
  exact state_May.calls 1010 A0 c0 s.c A1 c1 s.r A2 c2 s.p _ W h1 h2 h3 h4 h5 h6 (mayS_f 1010 h (by have := h.1; omega))
def mergeS (base a b : St) : St × Int := if mayS base && (mayS a && mayS b) then (⟨mergeC base.c a.c b.c, mergeO a.r b.r, mergeP base.p a.p b.p⟩, 0) else (noS, 1)
end Go.Proofs.YtmcddoolniaehaaGreat.S
end
