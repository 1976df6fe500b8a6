/- slices.Clone, slices.IndexFunc, slices.DeleteFunc at pairs, with pair.Del's closure. By hand. -/
import Derived.Test.YtannmdngejdjkaaLHPairAdd
import Derived.Lib.SliceRun
import Derived.Lib.AppendZeros
import Derived.Laws.Externs
import Derived.Laws.CopyRow
import Derived.Laws.IdiomCopy
namespace Go.Proofs.Ytannmdngejdjkaa.L
open Go.RowKit Go.Proofs.YtannmdngejdjkaaW.PrintWords Go.Proofs.YtannmdngejdjkaaW.PrintLast Go.Proofs.YtannmdngejdjkaaW.PrintMore Go.Proofs.YtannmdngejdjkaaW
set_option linter.unusedVariables false
set_option linter.unusedSimpArgs false
set_option maxHeartbeats 1000000 in
set_option maxRecDepth 100000 in
theorem pair_clone (A0 : Option Addr) (c0 : Nat) (l0 : List Pr) (w : World) (hr0 : Kd.C k57 w A0 l0.length l0) (hlim : l0.length * 48 ≤ 140737488355328) :
    Calls Try.prog 79 #[.slice A0 l0.length c0] w fun e w' => ∃ v, e = .returned v ∧ w'.ownsRow w.heap.size 57 4 v l0.length (pairRow l0) ∧ Below w.heap.size w w' := by
  have hnil := fun (W : World) (a : Option Addr) (n c : Nat) => Lib.run_eql_slice_nil (P := Try.prog) W 55 57 a n c 0 0 Try.underlying55
  rcases A0 with _ | a
  · have h0 : l0.length = 0 := by
      rcases Nat.eq_zero_or_pos l0.length with h | h
      · exact h
      · obtain ⟨ad, h', _⟩ := hr0.2.2 h
        cases h'
    obtain rfl := List.eq_nil_of_length_eq_zero h0
    clear hr0
    go_enter Try.func79, Try.ntmps79
    go_wp2
    go_ret
    exact ⟨_, rfl, own_nil _ _ _ _, Below.refl _ _⟩
  · obtain ⟨i0, hi, hz0, hz1, hz2⟩ := info_parts info57
    have hemp : (w.alloc (.cells #[] 57)).ownsRow w.heap.size 57 4 (.slice (some ⟨w.heap.size, 0, none⟩) 0 0) 0 [] := by
      have h := World.ownsRow_lit (base := w.heap.size) (e := 57) (size := 4) w #[] 0 (Nat.le_refl _) (Nat.zero_le _) (by simp)
      simpa using h
    have hnews := C_news (d := k57) (enc := pairCells) pairCells_lengthK (fun h => k57_open h) (Kd.C_below hr0 (below_alloc (Below.refl w.heap.size w) (.cells #[] 57)))
    obtain ⟨v', w', hr, ho, hg, _, hat⟩ := run_append_own_at (P := Try.prog) (w := w.alloc (.cells #[] 57)) w.heap.size 55 55 57 i0 _ 4 48 Try.underlying55 hi hz0 hz1 hz2 (by rfl) (by omega) _ 0 [] hemp a l0.length c0 (pairRow l0)
      (flat_length (enc := pairCells) (sz := 4) (fun _ => rfl) l0) hnews (flat_one pairCells_one l0) (by unfold maxLen; omega) (by omega) (by simp)
    have HO := Aside0.mk ho
    have HB := Aside0.mk ((below_alloc (Below.refl w.heap.size w) (.cells #[] 57)).grown hg (by simp) (own_base hemp))
    clear hr0 ho hg hat hemp hnews hi hz0 hz1 hz2
    go_enter Try.func79, Try.ntmps79
    go_wp2_with (at_builtin; refine Lib.wpList_append_run _ rfl _ _ _ _ rfl _ _ rfl rfl _ _ hr ?_)
    go_ret
    exact ⟨_, rfl, by simpa using HO.out, HB.out⟩
/-- the first one of a list that meets p, behind k others -/
def firstQ (p : Pr → Bool) : Nat → List Pr → Int
  | _, [] => -1
  | k, x :: l => if p x then (k : Int) else firstQ p (k + 1) l
theorem firstQ_drop (p : Pr → Bool) (l : List Pr) : ∀ (k : Nat), k ≤ l.length → (∀ j, j < k → ∀ h : j < l.length, p l[j] = false) → firstQ p k (l.drop k) = firstQ p 0 l := by
  intro k
  induction k with
  | zero => intro _ _; rfl
  | succ k ih =>
    intro hk hp
    rw [← ih (by omega) (fun j hj h => hp j (by omega) h)]
    rw [List.drop_eq_getElem_cons (show k < l.length by omega)]
    simp [firstQ, hp k (by omega) (by omega)]
theorem firstQ_none (p : Pr → Bool) : ∀ (l : List Pr) (k : Nat), (∀ x ∈ l, p x = false) → firstQ p k l = -1
  | [], _, _ => rfl
  | x :: l, k, h => by
    unfold firstQ
    rw [if_neg (by simp [h x List.mem_cons_self])]
    exact firstQ_none p l (k + 1) (fun y hy => h y (List.mem_cons_of_mem _ hy))
theorem firstQ_cases (p : Pr → Bool) : ∀ (l : List Pr) (k : Nat), (firstQ p k l = -1 ∧ ∀ x ∈ l, p x = false) ∨ ∃ j, ∃ h : j < l.length, firstQ p k l = ((k + j : Nat) : Int) ∧ p l[j] = true ∧ ∀ i, i < j → ∀ h : i < l.length, p l[i] = false
  | [], k => .inl ⟨rfl, fun x hx => by cases hx⟩
  | x :: l, k => by
    cases hx : p x with
    | true => exact .inr ⟨0, by simp, by simp [firstQ, hx], by simpa using hx, fun i hi => by omega⟩
    | false =>
      have e : firstQ p k (x :: l) = firstQ p (k + 1) l := by simp [firstQ, hx]
      rcases firstQ_cases p l (k + 1) with ⟨h1, h2⟩ | ⟨j, hj, h1, h2, h3⟩
      · exact .inl ⟨by rw [e, h1], fun y hy => by
          rcases List.mem_cons.1 hy with rfl | hy
          · exact hx
          · exact h2 y hy⟩
      · refine .inr ⟨j + 1, by simpa using hj, by rw [e, h1]; congr 1; omega, by simpa using h2, fun i hi h => ?_⟩
        cases i with
        | zero => simpa using hx
        | succ i => simpa using h3 i (by omega) (by simpa using h)
def goneB (key elem : ByteArray) (x : Pr) : Bool := (x.f0.toList == key.toList) && (x.f1.toList == elem.toList)
set_option maxRecDepth 100000 in
theorem del_clo (key elem : ByteArray) (BK BE : Nat) (w : World) (hK : w.heap[BK]? = some (.cells #[.string key] 9 (0, 0))) (hE : w.heap[BE]? = some (.cells #[.string elem] 9 (0, 0))) (x : Pr) :
    Calls Try.prog 80 #[.agg #[.string x.f0, .string x.f1, .int .i64 x.f2.f0, .int .i64 x.f2.f1], .pointer (some ⟨BK, 0, none⟩), .pointer (some ⟨BE, 0, none⟩)] w fun e w' => e = .returned (.bool (goneB key elem x)) ∧ Below w.heap.size w w' := by
  have hk := blk_lt hK
  have he := blk_lt hE
  have hneK : BK ≠ w.heap.size := by omega
  have hneE : BE ≠ w.heap.size := by omega
  have c1 : w.cell? ⟨BK, 0, none⟩ = some (.string key) := blk_cell hK 0
  have c2 : w.cell? ⟨BE, 0, none⟩ = some (.string elem) := blk_cell hE 0
  have HB := Aside0.mk (below_alloc (Below.refl w.heap.size w) (.cells #[.string x.f0, .string x.f1, .int .i64 x.f2.f0, .int .i64 x.f2.f1] 57))
  have HG := Aside0.mk (show goneB key elem x = ((x.f0.toList == key.toList) && (x.f1.toList == elem.toList)) from rfl)
  clear hK hE
  cases h1 : (x.f0.toList == key.toList) with
  | false =>
    rw [h1] at HG
    go_enter Try.func80, Try.ntmps80
    go_wp2
    go_ret
    exact ⟨by rw [HG.out]; rfl, HB.out⟩
  | true =>
    rw [h1] at HG
    go_enter Try.func80, Try.ntmps80
    go_wp2
    go_ret
    exact ⟨by rw [HG.out]; rfl, HB.out⟩
set_option maxHeartbeats 1000000 in
set_option maxRecDepth 100000 in
theorem del_idx (key elem : ByteArray) (BK BE : Nat) (w : World) (hK : w.heap[BK]? = some (.cells #[.string key] 9 (0, 0))) (hE : w.heap[BE]? = some (.cells #[.string elem] 9 (0, 0))) (A0 : Option Addr) (c0 : Nat) (l0 : List Pr) (hr0 : Kd.C k57 w A0 l0.length l0) :
    Calls Try.prog 94 #[.slice A0 l0.length c0, .func (.func 80) #[] #[.pointer (some ⟨BK, 0, none⟩), .pointer (some ⟨BE, 0, none⟩)]] w fun e w' => e = .returned (.int .i64 (firstQ (goneB key elem) 0 l0)) ∧ Below w.heap.size w w' := by
  have HR := Aside0.mk hr0
  have HL := Aside0.mk hr0.2.1
  have HK := Aside0.mk hK
  have HE := Aside0.mk hE
  clear hr0 hK hE
  go_enter Try.func94, Try.ntmps94
  go_wp2
  go_loopw [8] (fun i wr => ∃ k : Nat, k ≤ l0.length ∧ i = .int .i64 k ∧ Aside0 (∀ j, j < k → ∀ h : j < l0.length, goneB key elem l0[j] = false) ∧ Aside0 (Below w.heap.size w wr)) (fun i _ => l0.length - (intOf i).toNat)
  case atStart => exact ⟨0, Nat.zero_le _, rfl, ⟨fun j hj => by omega⟩, ⟨Below.refl _ _⟩⟩
  case round =>
    obtain ⟨k, hk, rfl, ha, HB⟩ := hrel
    by_cases hlt : k < l0.length
    · obtain ⟨ad, e, hx0, hx1, hx2, hx3⟩ := at_T57 HR.out k (by omega) (by omega)
      cases e
      replace hx0 := (HB.out.cell (World.block_lt_of_cell? w _ hx0)).trans hx0
      replace hx1 := (HB.out.cell (World.block_lt_of_cell? w _ hx1)).trans hx1
      replace hx2 := (HB.out.cell (World.block_lt_of_cell? w _ hx2)).trans hx2
      replace hx3 := (HB.out.cell (World.block_lt_of_cell? w _ hx3)).trans hx3
      simp only [Int.toNat_natCast] at hx0 hx1 hx2 hx3
      have HX := Aside0.mk (rdP_at l0 k hlt)
      have h63 := HL.out
      have HCL := Aside0.mk (del_clo key elem BK BE wr (blk_below HK.out HB.out) (blk_below HE.out HB.out) (rd_T57 l0 k))
      cases hq : goneB key elem (rd_T57 l0 k) with
      | true =>
        have HF := Aside0.mk (show firstQ (goneB key elem) 0 l0 = (k : Int) by
          rw [← firstQ_drop (goneB key elem) l0 k hk ha.out, List.drop_eq_getElem_cons hlt]
          rw [HX.out] at hq
          simp [firstQ, hq])
        rw [hq] at HCL
        clear hq
        go_wp2_with fail
        refine HCL.out.mono ?_
        rintro e w' ⟨rfl, hb⟩
        have HB' := Aside0.mk (below_step HB.out hb)
        clear hx0 hx1 hx2 hx3 HB hb HCL
        go_wp2
        go_ret
        exact ⟨by rw [HF.out]; rfl, HB'.out⟩
      | false =>
        have HF := Aside0.mk (show ∀ j, j < k + 1 → ∀ h : j < l0.length, goneB key elem l0[j] = false by
          intro j hj h
          rcases Nat.lt_or_ge j k with q | q
          · exact ha.out j q h
          · obtain rfl : j = k := by omega
            rw [← HX.out]; exact hq)
        rw [hq] at HCL
        clear hq
        go_wp2_with fail
        refine HCL.out.mono ?_
        rintro e w' ⟨rfl, hb⟩
        have HB' := Aside0.mk (below_step HB.out hb)
        clear hx0 hx1 hx2 hx3 HB hb HCL ha
        go_wp2
        go_roundw
        case rel => exact ⟨k + 1, by omega, by go_num, HF, HB'⟩
        case measure => simp [intOf]; omega
    · have HF := Aside0.mk (show firstQ (goneB key elem) 0 l0 = -1 by
        obtain rfl : k = l0.length := by omega
        rw [← firstQ_drop (goneB key elem) l0 _ (Nat.le_refl _) ha.out, List.drop_length]; rfl)
      go_wp2
      go_ret
      exact ⟨by rw [HF.out]; rfl, HB.out⟩
end Go.Proofs.Ytannmdngejdjkaa.L
