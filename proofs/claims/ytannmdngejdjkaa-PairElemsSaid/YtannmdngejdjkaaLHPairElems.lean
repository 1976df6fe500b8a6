/- pair.Elems: the elements of a key. By hand: the loop; slices.Compact by its contract. -/
import Derived.Test.YtannmdngejdjkaaLHPairAdd
import Derived.Test.YtannmdngejdjkaaShelfS
import Derived.Sort.OwnSorted
namespace Go.Proofs.Ytannmdngejdjkaa.L
open Go.RowKit Go.Sort Go.Proofs.YtannmdngejdjkaaW.PrintWords Go.Proofs.YtannmdngejdjkaaW.PrintLast Go.Proofs.YtannmdngejdjkaaW.PrintMore Go.Proofs.YtannmdngejdjkaaW
set_option linter.unusedVariables false
set_option linter.unusedSimpArgs false
theorem enc_data (a : ByteArray) : encStr a.data.toList = .string a := by
  unfold encStr; simp
def keyIs (key : ByteArray) (x : Pr) : Bool := x.f0.toList == key.toList
def elemL (l : List Pr) (key : ByteArray) : List (List UInt8) := (l.filter (keyIs key)).map fun x => x.f1.data.toList
def elemsP (l : List Pr) (key : ByteArray) : List ByteArray := (Lib.compact (elemL l key)).map fun b => ⟨b.toArray⟩
def pair_Elems.f (l0 : List (S57)) (a1 : ByteArray) : Option (List ByteArray) :=
  if smallP l0 = true then some (elemsP l0 a1) else none
theorem own_short {w : World} {base n c m : Nat} {A : Option Addr} {e : TypeId} {xs : List Value} (h : w.ownsRow base e 1 (.slice A n c) n xs) (hm : m ≤ n) (hp : 0 < n) : w.ownsRow base e 1 (.slice A m c) m (xs.take m) := by
  obtain ⟨h1, h2⟩ := h
  rcases h2 with ⟨h2, _⟩ | ⟨g, cap, cur, h2, hg, hh, h3, h4, h5, h6⟩
  · injection h2 with _ h2; omega
  · cases h2
    refine ⟨by rw [List.length_take, h1]; omega, .inr ⟨g, c, cur, rfl, hg, hh, by omega, h4, h5, ?_⟩⟩
    rw [← h6, List.take_take]
    congr 1
    omega
theorem elemL_take (l : List Pr) (key : ByteArray) (k : Nat) (h : k < l.length) : elemL (l.take (k + 1)) key = elemL (l.take k) key ++ (if keyIs key (rd_T57 l (k : Nat)) = true then [(rd_T57 l (k : Nat)).f1.data.toList] else []) := by
  unfold elemL
  rw [List.take_succ_eq_append_getElem h, List.filter_append, List.map_append, rdP_at l k h]
  congr 1
  cases hq : keyIs key l[k] <;> simp [hq]
theorem elemL_len (l : List Pr) (key : ByteArray) : (elemL l key).length ≤ l.length := by
  unfold elemL
  rw [List.length_map]; exact List.length_filter_le _ _
theorem compact_len (zs : List (List UInt8)) : (Lib.compact zs).length ≤ zs.length := by
  unfold Lib.compact Lib.compactUpTo
  rw [List.length_map]
  exact Nat.le_trans (List.length_filter_le _ _) (by simp)
/-- slices.Compact in a row of the call's own -/
theorem compact_own (base : Nat) (A : Option Addr) (c : Nat) (zs : List (List UInt8)) (w : World) (ho : w.ownsRow base 9 1 (.slice A zs.length c) zs.length (zs.map encStr)) (hm : zs.length ≤ 9223372036854775807) :
    Calls Try.prog 84 #[.slice A zs.length c] w fun e w' => ∃ A' c', e = .returned (.slice A' (Lib.compact zs).length c') ∧ w'.ownsRow base 9 1 (.slice A' (Lib.compact zs).length c') (Lib.compact zs).length ((Lib.compact zs).map encStr) ∧ w.grownBy w' (Value.slice A zs.length c).ownBlock := by
  rcases Nat.eq_zero_or_pos zs.length with h0 | hpos
  · obtain rfl := List.eq_nil_of_length_eq_zero h0
    refine (Try.slices_Compact_string_empty A c w).mono ?_
    rintro e w' ⟨rfl, rfl⟩
    exact ⟨A, c, rfl, ho, World.grownBy.refl _ _⟩
  · rcases ho.2 with ⟨hnil, h0⟩ | ⟨g, cap, cur, he, hbase, hb, h1, h2, h3, h4⟩
    · injection hnil with _ hn _; omega
    · cases he
      have hH : Holds encStr w g 0 zs.toArray := holds_of_block hb (by simpa using h4)
      refine (Try.slices_Compact_string g 0 c zs w hH hm h1).mono ?_
      rintro e w' ⟨rfl, q, rfl⟩
      have hl := compact_len zs
      have hrow := ownsRow_sorted (ss := zs) (ts := Lib.compact zs ++ List.replicate (zs.length - (Lib.compact zs).length) []) (os := #[]) (n := q) (by simp; omega) hbase hb h1 h2 h3
      rw [grow_empty] at hrow
      have hg := grownBy_sorted (w := w) (g := g) (n := q) (os := #[]) (Lib.compact zs ++ List.replicate (zs.length - (Lib.compact zs).length) []).toArray
      rw [grow_empty] at hg
      refine ⟨_, _, rfl, ?_, hg⟩
      have := own_short hrow hl hpos
      rw [List.map_append, List.take_append_of_le_length (by simp), List.take_of_length_le (by simp)] at this
      exact this
theorem cell_one2 (w4 : World) (o : Obj) (a : ByteArray) : ∀ j u, ([encStr a.data.toList] : List Value)[j]? = some u → ((w4.alloc o).alloc (.cells #[.string a] 9)).cell? ((⟨w4.heap.size + 1, 0, none⟩ : Addr).add j) = some u := by
  have hb : ((w4.alloc o).alloc (.cells #[.string a] 9)).heap[w4.heap.size + 1]? = some (.cells #[.string a] 9 (0, 0)) := by
    have := blk_new (w4.alloc o) (.cells #[.string a] 9)
    simpa using this
  intro j u hj
  rw [add_plain, blk_cell hb j]
  match j, hj with
  | 0, hj => rw [enc_data] at hj; exact hj
  | j + 1, hj => simp at hj
theorem R_texts {w : World} {base : Nat} {A : Option Addr} {c : Nat} {zs : List (List UInt8)} (h : w.ownsRow base 9 1 (.slice A zs.length c) zs.length (zs.map encStr)) : Kd.R Kd.string 9 w base (fun _ => True) (.slice A zs.length c) (zs.map fun b => (⟨b.toArray⟩ : ByteArray)) := by
  have e : (zs.map fun b => (⟨b.toArray⟩ : ByteArray)).flatMap (fun a => [Value.string a]) = zs.map encStr := by
    rw [← List.map_eq_flatMap, List.map_map]
    rfl
  refine R_of_cells (d := Kd.string) (enc := fun a => [Value.string a]) (fun _ => rfl) (fun _ _ _ _ => rfl) ?_ (fun _ _ => trivial)
  rw [e, List.length_map]
  exact h
set_option maxHeartbeats 4000000 in
set_option maxRecDepth 100000 in
theorem pair_Elems.calls (A0 : Option Addr) (c0 : Nat) (l0 : List (S57)) (a1 : ByteArray) (r : List ByteArray) (w : World) (hr0 : Kd.C k57 w A0 l0.length l0) (hc0 : l0.length ≤ c0) (h : pair_Elems.f l0 a1 = some r) :
    Calls Try.prog 56 #[.slice A0 l0.length c0, .string a1] w fun e w' => ∃ v0_ : Value, e = .returned (v0_) ∧ Kd.R Kd.string 9 w' w.heap.size (fun _ => True) v0_ r ∧ Below w.heap.size w w' := by
  unfold pair_Elems.f at h
  split at h
  case isFalse => cases h
  case isTrue hh =>
  cases h
  have hlen := smallP_len hh
  obtain ⟨i0, hi, hz0, hz1, hz2⟩ := info_parts (show (Try.prog.info? 9).map (fun i => (i.zero, i.size, i.bytes)) = some (some (.string ⟨#[]⟩), 1, 16) by kernel_rfl)
  have HR := Aside0.mk hr0
  have hl63 := hr0.2.1
  have hu := Try.underlying57
  clear hr0 hh
  go_enter Try.func56, Try.ntmps56
  go_wp2
  go_loopw [5, 10] (fun v i wr => ∃ (k : Nat) (ss : List (List UInt8)), k ≤ l0.length ∧ i = .int .i64 k ∧ Aside0 (ss = elemL (l0.take k) a1) ∧ Aside0 (wr.ownsRow w.heap.size 9 1 v ss.length (ss.map encStr)) ∧ Aside0 (Below w.heap.size w wr)) (fun _ i _ => l0.length - (intOf i).toNat)
  case atStart => exact ⟨0, [], Nat.zero_le _, rfl, ⟨rfl⟩, ⟨own_nil _ _ _ _⟩, ⟨Below.refl _ _⟩⟩
  case round =>
    obtain ⟨k, ss, hk, rfl, hS, hO, HB⟩ := hrel
    obtain ⟨A, c, rfl⟩ := own_slice hO.out
    by_cases hlt : k < l0.length
    · obtain ⟨ad, e, hx0, hx1, hx2, hx3⟩ := at_T57 HR.out k (by omega) (by omega)
      cases e
      replace hx0 := (HB.out.cell (World.block_lt_of_cell? w _ hx0)).trans hx0
      replace hx1 := (HB.out.cell (World.block_lt_of_cell? w _ hx1)).trans hx1
      replace hx2 := (HB.out.cell (World.block_lt_of_cell? w _ hx2)).trans hx2
      replace hx3 := (HB.out.cell (World.block_lt_of_cell? w _ hx3)).trans hx3
      simp only [Int.toNat_natCast] at hx0 hx1 hx2 hx3
      have HT := Aside0.mk (elemL_take l0 a1 k hlt)
      generalize rd_T57 l0 (k : Nat) = x at hx0 hx1 hx2 hx3 HT
      have hsl : ss.length ≤ k := by
        have := elemL_len (l0.take k) a1
        rw [← hS.out, List.length_take] at this
        omega
      cases hq : (x.f0.toList == a1.toList) with
      | true =>
        have HS2 : Aside0 (ss ++ [x.f1.data.toList] = elemL (l0.take (k + 1)) a1) := ⟨by rw [HT.out, ← hS.out]; simp [keyIs, hq]⟩
        have hb16 : (ss.length + 1) * 16 ≤ 140737488355328 := by omega
        have hml : ss.length + 1 ≤ maxLen := by unfold maxLen; omega
        have hnw := Aside0.mk (cell_one2 wr (.cells #[.string x.f0, .string x.f1, .int .i64 x.f2.f0, .int .i64 x.f2.f1] 57) x.f1)
        have hwsz := HB.out.size
        clear HT hS
        go_wp2_with (first
          | (at_builtin; refine wpList_append_own _ rfl _ _ 64 rfl w.heap.size 9 i0 (.string ⟨#[]⟩) 1 16 Try.underlying64 hi hz0 hz1 hz2 rfl (by decide) _ _ _ rfl ((hO.out.alloc _).alloc _) ⟨wr.heap.size + 1, 0, none⟩ 1 1 [encStr x.f1.data.toList] rfl rfl hnw.out (by simp [Value.oneCell', encStr]) hml hb16 (by simp; omega) ?_; intro v' w3 hown' hg3 hnil3; go_frame))
        have HB3 := Aside0.mk ((below_alloc (below_alloc HB.out _) _).grown hg3 (by simp; omega) (own_base hO.out))
        have HO3 : Aside0 (w3.ownsRow w.heap.size 9 1 v' (ss ++ [x.f1.data.toList]).length ((ss ++ [x.f1.data.toList]).map encStr)) := ⟨by simpa using hown'⟩
        clear hown' hg3 hnil3 hO HB hnw
        go_roundw
        case rel => exact ⟨k + 1, _, by omega, by go_num, HS2, HO3, HB3⟩
        case measure => simp [intOf]; omega
      | false =>
        have HS2 : Aside0 (ss = elemL (l0.take (k + 1)) a1) := ⟨by rw [HT.out, ← hS.out]; simp [keyIs, hq]⟩
        have HO3 := Aside0.mk (hO.out.alloc (.cells #[.string x.f0, .string x.f1, .int .i64 x.f2.f0, .int .i64 x.f2.f1] 57))
        have HB3 := Aside0.mk (below_alloc HB.out (.cells #[.string x.f0, .string x.f1, .int .i64 x.f2.f0, .int .i64 x.f2.f1] 57))
        clear HT hS hO HB
        go_wp2
        go_roundw
        case rel => exact ⟨k + 1, ss, by omega, by go_num, HS2, HO3, HB3⟩
        case measure => simp [intOf]; omega
    · have hsl : ss.length ≤ l0.length := by
        have := elemL_len (l0.take k) a1
        rw [← hS.out, List.length_take] at this
        omega
      have HC := Aside0.mk (compact_own w.heap.size A c ss wr hO.out (by omega))
      have HE := Aside0.mk (show elemL l0 a1 = ss by rw [hS.out, List.take_of_length_le (by omega)])
      have HOB := Aside0.mk (own_base hO.out)
      clear hO hS
      go_wp2_with fail
      refine HC.out.mono ?_
      rintro e w3 ⟨A3, c3, rfl, ho3, hg3⟩
      have HB3 := Aside0.mk (HB.out.grown hg3 HB.out.size HOB.out)
      have HO3 := Aside0.mk ho3
      clear ho3 hg3
      go_wp2
      go_ret
      refine ⟨_, rfl, ?_, HB3.out⟩
      have e1 : elemsP l0 a1 = (Lib.compact ss).map fun b => ⟨b.toArray⟩ := by unfold elemsP; rw [HE.out]
      rw [e1]
      exact R_texts HO3.out
end Go.Proofs.Ytannmdngejdjkaa.L
