/- Several of the walk's texts in one: SHPairAdd, SHPairDelF, SHBs, SHIns. -/
import Derived.Lib.SliceRun
import Derived.Lib.AppendZeros
import Derived.Laws.Externs
import Derived.Laws.CopyRow
import Derived.Laws.IdiomCopy
import Derived.Lib.AppendZerosOnto
import Derived.Lib.Overlaps
import Derived.Laws.NewBlocks
import Derived.Deep.RegionLaw
import Derived.Test.YtmcddoolniaehaaGreatMD04
import Derived.Test.YtmcddoolniaehaaGreatMD06
import Derived.Test.YtmcddoolniaehaaGreatMD07
import Derived.Test.YtmcddoolniaehaaGreatMD08
section
namespace Go.Proofs.YtmcddoolniaehaaGreat.S
open Go.RowKit Go.Maps Go.Sort Go.Proofs.YtmcddoolniaehaaGreatW.PrintWords Go.Proofs.YtmcddoolniaehaaGreatW.PrintLast Go.Proofs.YtmcddoolniaehaaGreatW.PrintMore Go.Proofs.YtmcddoolniaehaaGreatW
set_option linter.unusedVariables false
set_option linter.unusedSimpArgs false
set_option maxRecDepth 100000 in
theorem has_calls (gb n : Nat) (es : MapQ) (w : World) (hown : OwnsQ w gb n es) (p : Pr) (hp : okPair p) :
    Calls Tryz.prog 99 #[.map (some gb), .agg #[.string p.f0, .string p.f1, .int .i64 p.f2.f0, .int .i64 p.f2.f1]] w fun e w' => e = .returned (.bool (decide (0 < getQ es p))) ∧ Below w.heap.size w w' := by
  have HK := Aside0.mk (keyOf_pair p hp)
  have HO := Aside0.mk hown
  have HB := Aside0.mk (Below.refl w.heap.size w)
  clear hown hp
  go_enter Tryz.func99, Tryz.ntmps99
  go_wp2_with (first
    | (at_lookup; refine wpList_lookup_own_int _ rfl _ _ 104 rfl 43 3 .i64 lawP Tryz.underlying104 Tryz.underlying3 (zeroQ _) gb _ _ rfl (HO.out.alloc _) _ _ rfl HK.out ?_; intro c hat hwc; have HC := Aside0.mk hat; clear hat hwc))
  have h2 := HC.out
  rw [at_datQ] at h2
  injection h2 with h2
  injection h2 with _ h2
  subst h2
  go_ret
  exact ⟨rfl, below_alloc HB.out _⟩
theorem own_lower2 {w : World} {base base' : Nat} {e : TypeId} {size n : Nat} {v : Value} {xs : List Value} (h : w.ownsRow base e size v n xs) (hb : base' ≤ base) : w.ownsRow base' e size v n xs := by
  obtain ⟨h1, h2⟩ := h
  refine ⟨h1, ?_⟩
  rcases h2 with h2 | ⟨g, cap, cur, rfl, hg, hh, r⟩
  · exact .inl h2
  · exact .inr ⟨g, cap, cur, rfl, Nat.le_trans hb hg, hh, r⟩
theorem pairCells_lengthK (p : Pr) : (pairCells p).length = k43.sz := rfl
theorem R_pair {w : World} {base n : Nat} {v : Value} {xs : List Pr} (hn : n = xs.length) (h : w.ownsRow base 43 4 v n (pairRow xs)) : k43.R 43 w base (fun _ => True) v xs := by
  subst hn
  exact R_of_cells (d := k43) (enc := pairCells) pairCells_lengthK (fun w base ok x => k43_mkM w base ok x) h (fun _ _ => trivial)
def setP (l : List Pr) : List Pr := sortP ((ofQ l).map Prod.fst)
def okB (p : Pr) : Bool := decide (p.f0.size ≤ maxLen) && (decide (p.f1.size ≤ maxLen) && ((decide (-9223372036854775808 ≤ p.f2.f0) && decide (p.f2.f0 ≤ 9223372036854775807)) && (decide (-9223372036854775808 ≤ p.f2.f1) && decide (p.f2.f1 ≤ 9223372036854775807))))
theorem okB_iff {p : Pr} : okB p = true ↔ okPair p := by
  unfold okB okPair okT okI
  simp only [Bool.and_eq_true, decide_eq_true_eq]
def smallP (l : List Pr) : Bool := decide ((l.length + 1) * 256 ≤ 140737488351232) && l.all okB
theorem smallP_len {l : List Pr} (h : smallP l = true) : (l.length + 1) * 256 ≤ 140737488351232 := by
  unfold smallP at h; simp at h; exact h.1
theorem smallP_all {l : List Pr} (h : smallP l = true) : ∀ x ∈ l, okPair x := by
  unfold smallP at h
  simp only [Bool.and_eq_true, List.all_eq_true] at h
  exact fun x hx => okB_iff.1 (h.2 x hx)
theorem ofQ_keys (l : List Pr) : ∀ p ∈ ofQ l, p.1 ∈ l := by
  have : ∀ (l : List Pr) (es : MapQ) (S : Pr → Prop), (∀ p ∈ es, S p.1) → (∀ x ∈ l, S x) → ∀ p ∈ l.foldl incQ es, S p.1 := by
    intro l
    induction l with
    | nil => intro es S h _; exact h
    | cons x l ih =>
      intro es S h hl
      refine ih _ S (fun p hp => ?_) (fun y hy => hl y (List.mem_cons_of_mem _ hy))
      rcases setQ_mem hp with rfl | hp
      · exact hl x List.mem_cons_self
      · exact h p hp
  exact this l [] (· ∈ l) (fun p hp => by cases hp) (fun x hx => hx)
theorem setQ_len (es : MapQ) (k : Pr) (n : Int) : (setQ es k n).length ≤ es.length + 1 := by
  induction es with
  | nil => simp [setQ]
  | cons y l ih =>
    unfold setQ
    split
    · simp; exact ih
    · split <;> simp
theorem ofQ_len (l : List Pr) : (ofQ l).length ≤ l.length := by
  have : ∀ (l : List Pr) (es : MapQ), (l.foldl incQ es).length ≤ es.length + l.length := by
    intro l
    induction l with
    | nil => intro es; simp
    | cons x l ih =>
      intro es
      have h1 := ih (incQ es x)
      have h2 := setQ_len es x (wrap64 (getQ es x + 1))
      unfold incQ at h1
      show (l.foldl incQ (incQ es x)).length ≤ _
      unfold incQ at *
      simp only [List.length_cons]
      omega
  have h := this l []
  simp only [List.length_nil, Nat.zero_add] at h
  exact h
theorem ofQ_snoc (l : List Pr) (p : Pr) : ofQ (l ++ [p]) = incQ (ofQ l) p := by
  unfold ofQ
  rw [List.foldl_append]; rfl
def addP (l : List Pr) (p : Pr) : List Pr := if mayP l && mayP [p] then setP (l ++ [p]) else []
def pair_Add.f (l0 : List (S43)) (a1_0 : ByteArray) (a1_1 : ByteArray) (a1_2 : Int) (a1_3 : Int) : Option ((List (S43))) :=
  if smallP l0 = true ∧ okB ⟨a1_0, a1_1, ⟨a1_2, a1_3⟩⟩ = true then some (addP l0 ⟨a1_0, a1_1, ⟨a1_2, a1_3⟩⟩) else none
theorem C_one {w : World} {g : Nat} {p : Pr} (h : w.heap[g]? = some (.cells #[.string p.f0, .string p.f1, .int .i64 p.f2.f0, .int .i64 p.f2.f1] 43 (0, 0))) : Kd.C k43 w (some ⟨g, 0, none⟩) 1 [p] := by
  have ho : w.ownsRow g 43 4 (.slice (some ⟨g, 0, none⟩) 1 1) [p].length (pairRow [p]) :=
    ⟨rfl, .inr ⟨g, 1, _, rfl, Nat.le_refl _, h, Nat.le_refl _, by decide, rfl, rfl⟩⟩
  obtain ⟨A, c, e, _, hC⟩ := Kd.R_reads (R_pair rfl ho)
  cases e
  exact hC
set_option maxHeartbeats 4000000 in
set_option maxRecDepth 100000 in
theorem pair_Add.calls (A0 : Option Addr) (c0 : Nat) (l0 : List (S43)) (a1_0 : ByteArray) (a1_1 : ByteArray) (a1_2 : Int) (a1_3 : Int) (r : List (S43)) (w : World) (hr0 : Kd.C k43 w A0 l0.length l0) (hc0 : l0.length ≤ c0) (h : pair_Add.f l0 a1_0 a1_1 a1_2 a1_3 = some r) :
    Calls Tryz.prog 35 #[.slice A0 l0.length c0, .agg #[.string a1_0, .string a1_1, .int .i64 a1_2, .int .i64 a1_3]] w fun e w' => ∃ v0_ : Value, e = .returned (v0_) ∧ Kd.R k43 43 w' w.heap.size (fun _ => True) v0_ r ∧ Below w.heap.size w w' := by
  unfold pair_Add.f at h
  split at h
  case isFalse => cases h
  case isTrue hh =>
  cases h
  obtain ⟨p, hp⟩ : ∃ p : Pr, p = ⟨a1_0, a1_1, ⟨a1_2, a1_3⟩⟩ := ⟨_, rfl⟩
  rw [← hp] at hh ⊢
  obtain rfl : p.f0 = a1_0 := by rw [hp]
  obtain rfl : p.f1 = a1_1 := by rw [hp]
  obtain rfl : p.f2.f0 = a1_2 := by rw [hp]
  obtain rfl : p.f2.f1 = a1_3 := by rw [hp]
  clear hp
  have hlen := smallP_len hh.1
  have hl64 : l0.length < 4611686018427387904 := by omega
  have hall := smallP_all hh.1
  have hkp := okB_iff.1 hh.2
  have HMAY := Aside0.mk (fun (W : World) (hb : Below w.heap.size w W) => pair_May.calls (l0.length + 6) A0 c0 l0 (mayP l0) W (Kd.C_below hr0 hb) hc0 (mayP_f _ l0 (by omega) hl64 hall))
  have HMAY1 := Aside0.mk (fun (W : World) (g : Nat) (hW : W.heap[g]? = some (.cells #[.string p.f0, .string p.f1, .int .i64 p.f2.f0, .int .i64 p.f2.f1] 43 (0, 0))) => pair_May.calls 7 (some ⟨g, 0, none⟩) 1 [p] (mayP [p]) W (C_one hW) (Nat.le_refl _) (mayP_f _ [p] (show 1 + 5 < 7 by decide) (show 1 < 4611686018427387904 by decide) (fun x hx => by rw [List.mem_singleton.1 hx]; exact hkp)))
  have HR := Aside0.mk hr0
  have HS := Aside0.mk hall
  have hlm : l0.length < maxLen := by unfold maxLen; omega
  have HOF := Aside0.mk (fun (W : World) (hb : Below w.heap.size w W) => of_calls A0 c0 l0 W (Kd.C_below hr0 hb) hlm hall)
  clear hr0 hh hall
  have hu := Tryz.underlying43
  have hum := Tryz.underlying104
  go_enter Tryz.func35, Tryz.ntmps35
  go_wp2_with fail
  have hbx := blk_new w (.cells #[.string p.f0, .string p.f1, .int .i64 p.f2.f0, .int .i64 p.f2.f1] 43)
  refine (HMAY.out _ (below_alloc (Below.refl _ _) _)).mono ?_
  rintro e w1 ⟨rfl, hb1⟩
  have HB1 := Aside0.mk (below_step (below_alloc (Below.refl _ _) _) hb1)
  have hbx1 := blk_below hbx hb1
  clear hb1 HMAY hbx
  cases hm : mayP l0 with
  | false =>
    have HI := Aside0.mk (show addP l0 p = [] by simp [addP, hm])
    clear hm
    go_wp2
    go_ret
    exact ⟨_, rfl, by rw [HI.out]; exact Kd.R_nil _ _ _ _ _, HB1.out⟩
  | true =>
    have c0 := (blk_cell hbx1 0).trans rfl
    have c1 := (blk_cell hbx1 1).trans rfl
    have c2 := (blk_cell hbx1 2).trans rfl
    have c3 := (blk_cell hbx1 3).trans rfl
    have HX1 := Aside0.mk hbx1
    clear hbx1
    go_wp2_with fail
    refine (HMAY1.out _ _ (blk_new _ _)).mono ?_
    rintro e w2 ⟨rfl, hb2⟩
    have HB2 := Aside0.mk (below_step (below_alloc HB1.out _) hb2)
    have hbx2 := blk_below (blk_alloc HX1.out _) hb2
    clear hb2 HMAY1 HX1 HB1 c0 c1 c2 c3
    cases hm1 : mayP [p] with
    | false =>
      have HI := Aside0.mk (show addP l0 p = [] by simp [addP, hm1])
      clear hm hm1
      go_wp2
      go_ret
      exact ⟨_, rfl, by rw [HI.out]; exact Kd.R_nil _ _ _ _ _, HB2.out⟩
    | true =>
      have HI := Aside0.mk (show addP l0 p = setP (l0 ++ [p]) by simp [addP, hm, hm1])
      clear hm hm1
      go_wp2_with fail
      refine (HOF.out _ HB2.out).mono ?_
      rintro e w3 ⟨gb, rfl, hgb, ho3, hb3⟩
      have HB3 := Aside0.mk (below_step HB2.out hb3)
      have hbx3 := blk_below hbx2 hb3
      have c0 := (blk_cell hbx3 0).trans rfl
      have c1 := (blk_cell hbx3 1).trans rfl
      have c2 := (blk_cell hbx3 2).trans rfl
      have c3 := (blk_cell hbx3 3).trans rfl
      have hsz2 := HB2.out.size
      obtain ⟨st, w4, w5, c, r1, r2, r3, r5, ho5, hg5⟩ := incQ_at ho3.drew (ofQ_up l0) hlm p hkp
      rw [← ofQ_snoc] at ho5
      have HB5 := Aside0.mk ((below_drew HB3.out).grown hg5 (by have := HB3.out.size; simpa using this) (fun j hj => by simp at hj; omega))
      have hlenI : (ofQ (l0 ++ [p])).length * 64 ≤ 140737488355328 := Nat.le_trans (Nat.mul_le_mul_right 64 (ofQ_len _)) (by simp; omega)
      have HL := Aside0.mk (plist_calls gb _ (ofQ (l0 ++ [p])) w5 ho5 (ofQ_up _) (fun q hq => by
        have := ofQ_keys _ q hq
        rcases List.mem_append.1 this with h | h
        · exact HS.out _ h
        · rw [List.mem_singleton.1 h]; exact hkp) hlenI)
      clear HB2 HB3 HOF ho3 hb3 hbx2 hbx3 ho5 hg5
      go_wp2_with fail
      go_region
      all_goals
        go_wp2_with fail
        refine HL.out.mono ?_
        rintro e w6 ⟨v, rfl, ho6, hb6⟩
        obtain ⟨A', c', rfl⟩ := own_slice ho6
        have HO6 := Aside0.mk (own_lower2 ho6 HB5.out.size)
        have HB6 := Aside0.mk (below_step HB5.out hb6)
        clear ho6 hb6 HL HB5
        go_wp2
        go_ret
        exact ⟨_, rfl, by rw [HI.out]; exact R_pair (by unfold setP; rw [sortP_length, List.length_map]) HO6.out, HB6.out⟩
end Go.Proofs.YtmcddoolniaehaaGreat.S
end
section
namespace Go.Proofs.YtmcddoolniaehaaGreat.S
open Go.RowKit Go.Proofs.YtmcddoolniaehaaGreatW.PrintWords Go.Proofs.YtmcddoolniaehaaGreatW.PrintLast Go.Proofs.YtmcddoolniaehaaGreatW.PrintMore Go.Proofs.YtmcddoolniaehaaGreatW
set_option linter.unusedVariables false
set_option linter.unusedSimpArgs false
set_option maxHeartbeats 1000000 in
set_option maxRecDepth 100000 in
theorem pair_clone (A0 : Option Addr) (c0 : Nat) (l0 : List Pr) (w : World) (hr0 : Kd.C k43 w A0 l0.length l0) (hlim : l0.length * 48 ≤ 140737488355328) :
    Calls Tryz.prog 79 #[.slice A0 l0.length c0] w fun e w' => ∃ v, e = .returned v ∧ w'.ownsRow w.heap.size 43 4 v l0.length (pairRow l0) ∧ Below w.heap.size w w' := by
  have hnil := fun (W : World) (a : Option Addr) (n c : Nat) => Lib.run_eql_slice_nil (P := Tryz.prog) W 24 43 a n c 0 0 Tryz.underlying24
  rcases A0 with _ | a
  · have h0 : l0.length = 0 := by
      rcases Nat.eq_zero_or_pos l0.length with h | h
      · exact h
      · obtain ⟨ad, h', _⟩ := hr0.2.2 h
        cases h'
    obtain rfl := List.eq_nil_of_length_eq_zero h0
    clear hr0
    go_enter Tryz.func79, Tryz.ntmps79
    go_wp2
    go_ret
    exact ⟨_, rfl, own_nil _ _ _ _, Below.refl _ _⟩
  · obtain ⟨i0, hi, hz0, hz1, hz2⟩ := info_parts info43
    have hemp : (w.alloc (.cells #[] 43)).ownsRow w.heap.size 43 4 (.slice (some ⟨w.heap.size, 0, none⟩) 0 0) 0 [] := by
      have h := World.ownsRow_lit (base := w.heap.size) (e := 43) (size := 4) w #[] 0 (Nat.le_refl _) (Nat.zero_le _) (by simp)
      simpa using h
    have hnews := C_news (d := k43) (enc := pairCells) pairCells_lengthK (fun h => k43_open h) (Kd.C_below hr0 (below_alloc (Below.refl w.heap.size w) (.cells #[] 43)))
    obtain ⟨v', w', hr, ho, hg, _, hat⟩ := run_append_own_at (P := Tryz.prog) (w := w.alloc (.cells #[] 43)) w.heap.size 24 24 43 i0 _ 4 48 Tryz.underlying24 hi hz0 hz1 hz2 (by rfl) (by omega) _ 0 [] hemp a l0.length c0 (pairRow l0)
      (flat_length (enc := pairCells) (sz := 4) (fun _ => rfl) l0) hnews (flat_one pairCells_one l0) (by unfold maxLen; omega) (by omega) (by simp)
    have HO := Aside0.mk ho
    have HB := Aside0.mk ((below_alloc (Below.refl w.heap.size w) (.cells #[] 43)).grown hg (by simp) (own_base hemp))
    clear hr0 ho hg hat hemp hnews hi hz0 hz1 hz2
    go_enter Tryz.func79, Tryz.ntmps79
    go_wp2_with (at_builtin; refine Lib.wpList_append_run _ rfl _ _ _ _ rfl _ _ rfl rfl _ _ hr ?_)
    go_ret
    exact ⟨_, rfl, by simpa using HO.out, HB.out⟩
def firstQ (p : Pr → Bool) : Nat → List Pr → Int
  | _, [] => -1
  | k, x :: l => if p x then (k : Int) else firstQ p (k + 1) l
theorem firstQ_drop (p : Pr → Bool) (l : List Pr) : ∀ (k : Nat), k ≤ l.length → (∀ j, j < k → ∀ h : j < l.length, p l[j] = false) → firstQ p k (l.drop k) = firstQ p 0 l := by
  intro k
  induction k with
  | zero => intro _ _; rfl
  | succ k ih =>
    intro hk hp
    rw [← ih (by omega) (fun j hj h => hp j (by omega) h)]
    rw [List.drop_eq_getElem_cons (show k < l.length by omega)]
    simp [firstQ, hp k (by omega) (by omega)]
theorem firstQ_none (p : Pr → Bool) : ∀ (l : List Pr) (k : Nat), (∀ x ∈ l, p x = false) → firstQ p k l = -1
  | [], _, _ => rfl
  | x :: l, k, h => by
    unfold firstQ
    rw [if_neg (by simp [h x List.mem_cons_self])]
    exact firstQ_none p l (k + 1) (fun y hy => h y (List.mem_cons_of_mem _ hy))
theorem firstQ_cases (p : Pr → Bool) : ∀ (l : List Pr) (k : Nat), (firstQ p k l = -1 ∧ ∀ x ∈ l, p x = false) ∨ ∃ j, ∃ h : j < l.length, firstQ p k l = ((k + j : Nat) : Int) ∧ p l[j] = true ∧ ∀ i, i < j → ∀ h : i < l.length, p l[i] = false
  | [], k => .inl ⟨rfl, fun x hx => by cases hx⟩
  | x :: l, k => by
    cases hx : p x with
    | true => exact .inr ⟨0, by simp, by simp [firstQ, hx], by simpa using hx, fun i hi => by omega⟩
    | false =>
      have e : firstQ p k (x :: l) = firstQ p (k + 1) l := by simp [firstQ, hx]
      rcases firstQ_cases p l (k + 1) with ⟨h1, h2⟩ | ⟨j, hj, h1, h2, h3⟩
      · exact .inl ⟨by rw [e, h1], fun y hy => by
          rcases List.mem_cons.1 hy with rfl | hy
          · exact hx
          · exact h2 y hy⟩
      · refine .inr ⟨j + 1, by simpa using hj, by rw [e, h1]; congr 1; omega, by simpa using h2, fun i hi h => ?_⟩
        cases i with
        | zero => simpa using hx
        | succ i => simpa using h3 i (by omega) (by simpa using h)
def goneB (key elem : ByteArray) (x : Pr) : Bool := (x.f0.toList == key.toList) && (x.f1.toList == elem.toList)
set_option maxRecDepth 100000 in
theorem del_clo (key elem : ByteArray) (BK BE : Nat) (w : World) (hK : w.heap[BK]? = some (.cells #[.string key] 9 (0, 0))) (hE : w.heap[BE]? = some (.cells #[.string elem] 9 (0, 0))) (x : Pr) :
    Calls Tryz.prog 87 #[.agg #[.string x.f0, .string x.f1, .int .i64 x.f2.f0, .int .i64 x.f2.f1], .pointer (some ⟨BK, 0, none⟩), .pointer (some ⟨BE, 0, none⟩)] w fun e w' => e = .returned (.bool (goneB key elem x)) ∧ Below w.heap.size w w' := by
  have hk := blk_lt hK
  have he := blk_lt hE
  have hneK : BK ≠ w.heap.size := by omega
  have hneE : BE ≠ w.heap.size := by omega
  have c1 : w.cell? ⟨BK, 0, none⟩ = some (.string key) := blk_cell hK 0
  have c2 : w.cell? ⟨BE, 0, none⟩ = some (.string elem) := blk_cell hE 0
  have HB := Aside0.mk (below_alloc (Below.refl w.heap.size w) (.cells #[.string x.f0, .string x.f1, .int .i64 x.f2.f0, .int .i64 x.f2.f1] 43))
  have HG := Aside0.mk (show goneB key elem x = ((x.f0.toList == key.toList) && (x.f1.toList == elem.toList)) from rfl)
  clear hK hE
  cases h1 : (x.f0.toList == key.toList) with
  | false =>
    rw [h1] at HG
    go_enter Tryz.func87, Tryz.ntmps87
    go_wp2
    go_ret
    exact ⟨by rw [HG.out]; rfl, HB.out⟩
  | true =>
    rw [h1] at HG
    go_enter Tryz.func87, Tryz.ntmps87
    go_wp2
    go_ret
    exact ⟨by rw [HG.out]; rfl, HB.out⟩
set_option maxHeartbeats 1000000 in
set_option maxRecDepth 100000 in
theorem del_idx (key elem : ByteArray) (BK BE : Nat) (w : World) (hK : w.heap[BK]? = some (.cells #[.string key] 9 (0, 0))) (hE : w.heap[BE]? = some (.cells #[.string elem] 9 (0, 0))) (A0 : Option Addr) (c0 : Nat) (l0 : List Pr) (hr0 : Kd.C k43 w A0 l0.length l0) :
    Calls Tryz.prog 116 #[.slice A0 l0.length c0, .func (.func 87) #[] #[.pointer (some ⟨BK, 0, none⟩), .pointer (some ⟨BE, 0, none⟩)]] w fun e w' => e = .returned (.int .i64 (firstQ (goneB key elem) 0 l0)) ∧ Below w.heap.size w w' := by
  have HR := Aside0.mk hr0
  have HL := Aside0.mk hr0.2.1
  have HK := Aside0.mk hK
  have HE := Aside0.mk hE
  clear hr0 hK hE
  go_enter Tryz.func116, Tryz.ntmps116
  go_wp2
  go_loopw [8] (fun i wr => ∃ k : Nat, k ≤ l0.length ∧ i = .int .i64 k ∧ Aside0 (∀ j, j < k → ∀ h : j < l0.length, goneB key elem l0[j] = false) ∧ Aside0 (Below w.heap.size w wr)) (fun i _ => l0.length - (intOf i).toNat)
  case atStart => exact ⟨0, Nat.zero_le _, rfl, ⟨fun j hj => by omega⟩, ⟨Below.refl _ _⟩⟩
  case round =>
    obtain ⟨k, hk, rfl, ha, HB⟩ := hrel
    by_cases hlt : k < l0.length
    · obtain ⟨ad, e, hx0, hx1, hx2, hx3⟩ := at_T43 HR.out k (by omega) (by omega)
      cases e
      replace hx0 := (HB.out.cell (World.block_lt_of_cell? w _ hx0)).trans hx0
      replace hx1 := (HB.out.cell (World.block_lt_of_cell? w _ hx1)).trans hx1
      replace hx2 := (HB.out.cell (World.block_lt_of_cell? w _ hx2)).trans hx2
      replace hx3 := (HB.out.cell (World.block_lt_of_cell? w _ hx3)).trans hx3
      simp only [Int.toNat_natCast] at hx0 hx1 hx2 hx3
      have HX := Aside0.mk (rdP_at l0 k hlt)
      have h63 := HL.out
      have HCL := Aside0.mk (del_clo key elem BK BE wr (blk_below HK.out HB.out) (blk_below HE.out HB.out) (rd_T43 l0 k))
      cases hq : goneB key elem (rd_T43 l0 k) with
      | true =>
        have HF := Aside0.mk (show firstQ (goneB key elem) 0 l0 = (k : Int) by
          rw [← firstQ_drop (goneB key elem) l0 k hk ha.out, List.drop_eq_getElem_cons hlt]
          rw [HX.out] at hq
          simp [firstQ, hq])
        rw [hq] at HCL
        clear hq
        go_wp2_with fail
        refine HCL.out.mono ?_
        rintro e w' ⟨rfl, hb⟩
        have HB' := Aside0.mk (below_step HB.out hb)
        clear hx0 hx1 hx2 hx3 HB hb HCL
        go_wp2
        go_ret
        exact ⟨by rw [HF.out]; rfl, HB'.out⟩
      | false =>
        have HF := Aside0.mk (show ∀ j, j < k + 1 → ∀ h : j < l0.length, goneB key elem l0[j] = false by
          intro j hj h
          rcases Nat.lt_or_ge j k with q | q
          · exact ha.out j q h
          · obtain rfl : j = k := by omega
            rw [← HX.out]; exact hq)
        rw [hq] at HCL
        clear hq
        go_wp2_with fail
        refine HCL.out.mono ?_
        rintro e w' ⟨rfl, hb⟩
        have HB' := Aside0.mk (below_step HB.out hb)
        clear hx0 hx1 hx2 hx3 HB hb HCL ha
        go_wp2
        go_roundw
        case rel => exact ⟨k + 1, by omega, by go_num, HF, HB'⟩
        case measure => simp [intOf]; omega
    · have HF := Aside0.mk (show firstQ (goneB key elem) 0 l0 = -1 by
        obtain rfl : k = l0.length := by omega
        rw [← firstQ_drop (goneB key elem) l0 _ (Nat.le_refl _) ha.out, List.drop_length]; rfl)
      go_wp2
      go_ret
      exact ⟨by rw [HF.out]; rfl, HB.out⟩
end Go.Proofs.YtmcddoolniaehaaGreat.S
end
section
namespace Go.Proofs.YtmcddoolniaehaaGreat.S
open Go.RowKit Go.Proofs.YtmcddoolniaehaaGreatW.PrintWords Go.Proofs.YtmcddoolniaehaaGreatW.PrintLast Go.Proofs.YtmcddoolniaehaaGreatW.PrintMore Go.Proofs.YtmcddoolniaehaaGreatW
set_option linter.unusedVariables false
set_option linter.unusedSimpArgs false

def cmpS (a b : ByteArray) : Int := if Op.bytesLess a.toList b.toList then -1 else if Op.bytesLess b.toList a.toList then 1 else 0
theorem cmpS_f (a b : ByteArray) : cmp_Compare_string.f a b = some (cmpS a b) := by
  simp only [cmp_Compare_string.f, cmp_isNaN_string.f, Option.bind_some, bne_self_eq_false, Bool.false_eq_true, if_false, cmpS]
  split
  · rfl
  · split <;> rfl
def RegUp (l : List S47) : Prop := ∀ a b, a < b → b < l.length → Op.bytesLess (rd_T47 l a).f0.toList (rd_T47 l b).f0.toList = true
def regPos (key : ByteArray) : List S47 → Nat
  | [] => 0
  | x :: l => if Op.bytesLess x.f0.toList key.toList then regPos key l + 1 else 0
theorem regPos_le (key : ByteArray) : ∀ l, regPos key l ≤ l.length
  | [] => Nat.le_refl _
  | x :: l => by unfold regPos; have := regPos_le key l; split <;> simp; exact this
theorem rd_cons_succ (x : S47) (l : List S47) (k : Nat) : rd_T47 (x :: l) ((k + 1 : Nat) : Int) = rd_T47 l (k : Int) := by
  unfold rd_T47
  rw [Int.toNat_natCast, Int.toNat_natCast]
  rfl
theorem rd_cons_zero (x : S47) (l : List S47) : rd_T47 (x :: l) ((0 : Nat) : Int) = x := rfl
theorem regPos_of (key : ByteArray) : ∀ (l : List S47) (n : Nat), n ≤ l.length → (∀ k, k < n → Op.bytesLess (rd_T47 l (k : Nat)).f0.toList key.toList = true) → (n < l.length → Op.bytesLess (rd_T47 l (n : Nat)).f0.toList key.toList = false) → regPos key l = n
  | [], n, h, _, _ => by simp at h; subst h; rfl
  | x :: l, 0, _, _, h => by
    have := h (by simp)
    rw [rd_cons_zero] at this
    simp [regPos, this]
  | x :: l, n + 1, hn, h1, h2 => by
    have h0 := h1 0 (by omega)
    rw [rd_cons_zero] at h0
    simp only [regPos, h0, if_true]
    rw [regPos_of key l n (by simpa using hn) (fun k hk => by have := h1 (k + 1) (by omega); rwa [rd_cons_succ] at this) (fun h => by have := h2 (by simpa using h); rwa [rd_cons_succ] at this)]

theorem reg_cmp (x : S47) (key : ByteArray) (w : World) :
    Calls Tryz.prog 133 #[.agg #[.string x.f0, .string x.f1, .int .i64 x.f2, .int .i64 x.f3.f0, .int .i64 x.f3.f1], .string key] w fun e w' => e = .returned (.int .i64 (cmpS x.f0 key)) ∧ Below w.heap.size w w' := by
  have HB := Aside0.mk (below_alloc (Below.refl w.heap.size w) (.cells #[.string x.f0, .string x.f1, .int .i64 x.f2, .int .i64 x.f3.f0, .int .i64 x.f3.f1] 47))
  have HC := fun W => cmp_Compare_string.calls x.f0 key (cmpS x.f0 key) W (cmpS_f _ _)
  generalize cmpS x.f0 key = r at HC
  go_enter Tryz.func133, Tryz.ntmps133
  go_wp2_with (go_at_call 128; refine (HC _).mono ?_; rintro e w' ⟨rfl, ⟨m, rfl⟩⟩)
  go_ret
  exact ⟨rfl, pw_below_drewN HB.out m⟩

def regIs (key : ByteArray) (l : List S47) : Bool := decide (regPos key l < l.length) && decide (cmpS (rd_T47 l (regPos key l : Nat)).f0 key = 0)
theorem cmpS_neg {a b : ByteArray} : cmpS a b < 0 ↔ Op.bytesLess a.toList b.toList = true := by
  unfold cmpS; split
  · simp [*]
  · split <;> simp [*]
set_option maxHeartbeats 4000000 in
set_option maxRecDepth 100000 in
theorem reg_bs (key : ByteArray) (A0 : Option Addr) (c0 : Nat) (l0 : List S47) (w : World) (hr0 : Kd.C k47 w A0 l0.length l0) (hup : RegUp l0) (hlim : l0.length < 4611686018427387904) :
    Calls Tryz.prog 132 #[.slice A0 l0.length c0, .string key, .func (.func 133) #[] #[]] w fun e w' => e = .returned (.tuple #[.int .i64 (regPos key l0), .bool (regIs key l0)]) ∧ Below w.heap.size w w' := by
  have HR := Aside0.mk hr0
  have HU := Aside0.mk hup
  clear hr0 hup
  have HC := Aside0.mk (fun (W : World) (i : Nat) => reg_cmp (rd_T47 l0 i) key W)
  generalize hcnt : regPos key l0 = cnt
  have CN := Aside0.mk hcnt
  have FIN := Aside0.mk (show regIs key l0 = (decide (cnt < l0.length) && decide (cmpS (rd_T47 l0 (cnt : Nat)).f0 key = 0)) by unfold regIs; rw [hcnt])
  clear hcnt
  generalize regIs key l0 = fin at FIN
  go_enter Tryz.func132, Tryz.ntmps132
  go_wp2
  go_loopg [9, 10] l0.length (fun kx s9 s10 wr => ∃ lo hi : Nat, s9 = .int .i64 lo ∧ s10 = .int .i64 hi ∧ lo ≤ hi ∧ hi ≤ l0.length ∧ hi - lo ≤ kx ∧ Aside0 (Below w.heap.size w wr) ∧
    Aside0 ((∀ t, t < lo → Op.bytesLess (rd_T47 l0 (t : Nat)).f0.toList key.toList = true) ∧ (∀ t, hi ≤ t → t < l0.length → Op.bytesLess (rd_T47 l0 (t : Nat)).f0.toList key.toList = false)))
  case atStart => exact ⟨0, l0.length, rfl, rfl, Nat.zero_le _, Nat.le_refl _, by omega, ⟨Below.refl _ _⟩, ⟨⟨fun t ht => absurd ht (Nat.not_lt_zero _), fun t h1 h2 => by omega⟩⟩⟩
  case round =>
    obtain ⟨lo, hi, rfl, rfl, hlh, hin, hgx, HB, I⟩ := hrel
    by_cases hlt : lo < hi
    · obtain ⟨ad, e, hx0, hx1, hx2, hx3, hx4⟩ := at_T47 HR.out (((lo + hi) / 2 : Nat) : Int) (by omega) (by omega)
      cases e
      replace hx0 := (HB.out.cell (World.block_lt_of_cell? w _ hx0)).trans hx0
      replace hx1 := (HB.out.cell (World.block_lt_of_cell? w _ hx1)).trans hx1
      replace hx2 := (HB.out.cell (World.block_lt_of_cell? w _ hx2)).trans hx2
      replace hx3 := (HB.out.cell (World.block_lt_of_cell? w _ hx3)).trans hx3
      replace hx4 := (HB.out.cell (World.block_lt_of_cell? w _ hx4)).trans hx4
      rw [Int.toNat_natCast] at hx0 hx1 hx2 hx3 hx4
      have hc := HC.out wr ((lo + hi) / 2)
      have HY := Aside0.mk (show rd_T47 l0 (((lo + hi) / 2 : Nat) : Int) = rd_T47 l0 (((lo + hi) / 2 : Nat) : Int) from rfl)
      generalize hy : rd_T47 l0 (((lo + hi) / 2 : Nat) : Int) = y at hx0 hx1 hx2 hx3 hx4 hc HY
      have Y := Aside0.mk hy
      clear hy HY
      have HCC := Aside0.mk hc
      clear hc
      by_cases hyx : cmpS y.f0 key < 0
      · have HP := Aside0.mk (cmpS_neg.1 hyx)
        go_wp2_with (go_at_call 133; refine HCC.out.mono ?_; rintro e w' ⟨rfl, hb⟩)
        go_roundg (hi - ((lo + hi) / 2 + 1))
        case measure => omega
        case rel =>
          refine ⟨(lo + hi) / 2 + 1, hi, by rw [show ((lo : Int) + (hi : Int)) / 2 + 1 = (((lo + hi) / 2 + 1 : Nat) : Int) by omega], rfl, by omega, hin, Nat.le_refl _, ⟨below_step HB.out hb⟩, ⟨⟨fun t ht => ?_, I.out.2⟩⟩⟩
          have hp := HP.out
          rw [← Y.out] at hp
          rcases Nat.lt_or_ge t ((lo + hi) / 2) with q | q
          · exact less_trans (HU.out t ((lo + hi) / 2) q (by omega)) hp
          · obtain rfl : t = (lo + hi) / 2 := by omega
            exact hp
      · have HP := Aside0.mk (show Op.bytesLess y.f0.toList key.toList = false by
          cases q : Op.bytesLess y.f0.toList key.toList with
          | false => rfl
          | true => exact absurd (cmpS_neg.2 q) hyx)
        go_wp2_with (go_at_call 133; refine HCC.out.mono ?_; rintro e w' ⟨rfl, hb⟩)
        go_roundg ((lo + hi) / 2 - lo)
        case measure => omega
        case rel =>
          refine ⟨lo, (lo + hi) / 2, rfl, by rw [show ((lo : Int) + (hi : Int)) / 2 = (((lo + hi) / 2 : Nat) : Int) by omega], by omega, by omega, Nat.le_refl _, ⟨below_step HB.out hb⟩, ⟨⟨I.out.1, fun t ht htn => ?_⟩⟩⟩
          have hp := HP.out
          rw [← Y.out] at hp
          rcases Nat.lt_or_ge ((lo + hi) / 2) t with q | q
          · cases q2 : Op.bytesLess (rd_T47 l0 (t : Nat)).f0.toList key.toList with
            | false => rfl
            | true => have := less_trans (HU.out ((lo + hi) / 2) t q htn) q2; rw [hp] at this; cases this
          · obtain rfl : t = (lo + hi) / 2 := by omega
            exact hp
    · obtain rfl : hi = lo := by omega
      have ecnt : hi = cnt := by
        rw [← CN.out]
        exact (regPos_of key l0 hi hin I.out.1 (fun h => I.out.2 hi (Nat.le_refl _) h)).symm
      subst ecnt
      by_cases hn : hi < l0.length
      · obtain ⟨ad, e, hx0, hx1, hx2, hx3, hx4⟩ := at_T47 HR.out (hi : Int) (by omega) (by omega)
        cases e
        replace hx0 := (HB.out.cell (World.block_lt_of_cell? w _ hx0)).trans hx0
        replace hx1 := (HB.out.cell (World.block_lt_of_cell? w _ hx1)).trans hx1
        replace hx2 := (HB.out.cell (World.block_lt_of_cell? w _ hx2)).trans hx2
        replace hx3 := (HB.out.cell (World.block_lt_of_cell? w _ hx3)).trans hx3
        replace hx4 := (HB.out.cell (World.block_lt_of_cell? w _ hx4)).trans hx4
        rw [Int.toNat_natCast] at hx0 hx1 hx2 hx3 hx4
        have hc := HC.out wr hi
        have FIN2 := Aside0.mk FIN.out
        generalize hy : rd_T47 l0 (hi : Int) = y at hx0 hx1 hx2 hx3 hx4 hc
        have Y := Aside0.mk hy
        clear hy
        have HCC := Aside0.mk hc
        clear hc
        by_cases hyx : cmpS y.f0 key = 0
        · go_wp2_with (go_at_call 133; refine HCC.out.mono ?_; rintro e w' ⟨rfl, hb⟩)
          go_ret2
          exact ⟨by rw [FIN2.out, Y.out]; simp [hn, hyx], below_step HB.out hb⟩
        · go_wp2_with (go_at_call 133; refine HCC.out.mono ?_; rintro e w' ⟨rfl, hb⟩)
          go_ret2
          exact ⟨by rw [FIN2.out, Y.out]; simp [hn, hyx], below_step HB.out hb⟩
      · go_wp2
        go_ret2
        exact ⟨by rw [FIN.out]; simp [hn], HB.out⟩
theorem reg_find (key : ByteArray) (A0 : Option Addr) (c0 : Nat) (l0 : List S47) (w : World) (hr0 : Kd.C k47 w A0 l0.length l0) (hup : RegUp l0) (hlim : l0.length < 4611686018427387904) :
    Calls Tryz.prog 122 #[.slice A0 l0.length c0, .string key] w fun e w' => e = .returned (.tuple #[.int .i64 (regPos key l0), .bool (regIs key l0)]) ∧ Below w.heap.size w w' := by
  have HC := reg_bs key A0 c0 l0 w hr0 hup hlim
  have H := Aside0.mk HC
  clear HC hr0 hup
  generalize regIs key l0 = fin at H
  generalize regPos key l0 = cnt at H
  go_enter Tryz.func122, Tryz.ntmps122
  go_wp2_with (go_at_call 132; refine H.out.mono ?_; rintro e w' ⟨rfl, hb⟩)
  go_ret2
  exact ⟨rfl, hb⟩
end Go.Proofs.YtmcddoolniaehaaGreat.S
end
section
namespace Go.Proofs.YtmcddoolniaehaaGreat.S
open Go.RowKit Go.Proofs.YtmcddoolniaehaaGreatW.PrintWords Go.Proofs.YtmcddoolniaehaaGreatW.PrintLast Go.Proofs.YtmcddoolniaehaaGreatW.PrintMore
set_option linter.unusedVariables false
set_option linter.unusedSimpArgs false
section
variable {P : Program}
theorem wp_copy_runH (w : World) {o : Oper} {a : Act} {K : Act → World → Prop} {Q : Exit → Act → World → Prop} (d s : Operand) (t t' : TypeId)
    (ho : o.op = .call { callee := .builtin .copy, args := #[d, s], argTypes := #[t, t'] }) (v u : Value) (hd : a.eval d = v) (hs : a.eval s = u) {v' : Value} {w' : World}
    (hr : (Builtin.copy_ #[t, t'] o.type #[v, u]).run P w = .ok v' w') (h : K (a.put o.dst v') w') : o.wp P a w K Q := by
  unfold Oper.wp execOp
  simp only [ho, resolve, invoke, builtin, Sem.run_bind, Sem.run_pure, Result.andThen_ok, List.map_toArray, List.map_cons, List.map_nil, hd, hs, hr]
  exact h
theorem wpList_copy_runH (w : World) {ops : Array Oper} {rest : List Oper} {o : Oper} {a : Act} {Q : Exit → Act → World → Prop} (hgd : o.guard = none) (d s : Operand) (t t' : TypeId)
    (ho : o.op = .call { callee := .builtin .copy, args := #[d, s], argTypes := #[t, t'] }) (v u : Value) (hd : a.eval d = v) (hs : a.eval s = u) {v' : Value} {w' : World}
    (hr : (Builtin.copy_ #[t, t'] o.type #[v, u]).run P w = .ok v' w') (h : wpList P ops Q rest (a.put o.dst v') w') : wpList P ops Q (o :: rest) a w :=
  wpList_plain hgd fun _ hK => wp_copy_runH w d s t t' ho v u hd hs hr (hK _ _ h)
theorem step_copy_runH {ops : Array Oper} {o : Oper} {a : Act} {w : World} {K : Act → World → Prop} {Q : Exit → Act → World → Prop} {E : Prop}
    (hg : o.guard = none) (d x : Operand) (dT sT : TypeId) (hop : o.op = Op.call { callee := Callee.builtin Builtin.copy, args := #[d, x], argTypes := #[dT, sT] })
    (v u : Value) (hd : a.eval d = v) (hx : a.eval x = u) {v' : Value} {w' : World} (hr : (Builtin.copy_ #[dT, sT] o.type #[v, u]).run P w = .ok v' w') (hK : K (a.put o.dst v') w') :
    if Region.wanted o (yielded ops a.tmps) = true then Oper.wp P o a w K Q else E := by
  have hw : Region.wanted o (yielded ops a.tmps) = true := by simp [Region.wanted, hg]
  rw [if_pos hw]
  unfold Oper.wp
  simp [execOp, hop, resolve, invoke, builtin, hd, hx, hr, Result.andThen]
  exact hK
theorem append_types (t t' ty e e' : TypeId) (ht : P.underlying t = some (.slice e)) (ht' : P.underlying t' = some (.slice e')) (s x : Value) (w : World) :
    (Builtin.append_ #[t, t'] ty #[s, x]).run P w = (Builtin.append_ #[t, t] ty #[s, x]).run P w := by
  cases s <;> simp [Builtin.append_, run_underlying ht, run_underlying ht']
theorem run_copy_rowK (w : World) (dT sT ty elem : TypeId) (k g o dLen dCap : Nat) (a : Addr) (sLen sCap : Nat) (cur : Array Value) (t : TypeId) (cs : List Value)
    (hu : P.underlying dT = some (.slice elem)) (hs : (P.info? elem).map (·.size) = some k)
    (hg : w.heap[g]? = some (.cells cur t (0, 0))) (m : Nat) (hm : m = Nat.min sLen dLen) (hn : cs.length = m * k)
    (hsrc : ∀ j v, cs[j]? = some v → w.cell? (a.add j) = some v) (hfit : o + cs.length ≤ cur.size) (h1 : ∀ v ∈ cs, v.oneCell' = true) :
    (Builtin.copy_ #[dT, sT] ty #[.slice (some ⟨g, o, none⟩) dLen dCap, .slice (some a) sLen sCap]).run P w =
      .ok (goInt m) (w.setRow g (cur.toList.take o ++ cs ++ cur.toList.drop (o + cs.length)).toArray) := by
  have hl := run_loadCells_list (P := P) w a cs hsrc
  have hst := run_storeCells_at P g o t cs 0 cur w hg (by simpa using hfit) h1
  cases hq : P.info? elem with
  | none => simp [hq] at hs
  | some i =>
    have hi : i.size = k := by simpa [hq] using hs
    rw [hn] at hl
    simp [Builtin.copy_, run_underlying hu, Builtin.lenOf, Builtin.firstCells, sizeOf, typeInfo, hq, hi, ← hm, hl, hst]
end
theorem heap_setRow (w : World) (g : Nat) (cur cs : Array Value) (t : TypeId) (hg : w.heap[g]? = some (.cells cur t (0, 0))) : (w.setRow g cs).heap[g]? = some (.cells cs t (0, 0)) := by
  simp [World.setRow, Array.getElem?_modify, hg]
theorem grown_setRow (w : World) (g : Nat) (cs : Array Value) : w.grownBy (w.setRow g cs) (some g) := by
  refine ⟨rfl, rfl, rfl, by simp [World.setRow], fun k hk hne => ?_⟩
  have : g ≠ k := fun e => hne (by rw [e])
  simp [World.setRow, Array.getElem?_modify, this]

theorem news_block {w : World} {g : Nat} {cs : Array Value} {t : TypeId} (h : w.heap[g]? = some (.cells cs t (0, 0))) : ∀ j u, cs.toList[j]? = some u → w.cell? ((⟨g, 0, none⟩ : Addr).add j) = some u := fun j u hu => by
  rw [add_plain, blk_cell h j]; simpa using hu
set_option maxHeartbeats 1000000 in
theorem ins_end (base : Nat) (v : Value) (n : Nat) (xs : List Value) (w : World) (hown : w.ownsRow base 47 5 v n xs) (hbase : base ≤ w.heap.size) (vb : Nat) (x : List Value) (hl : x.length = 5) (h1 : ∀ u ∈ x, u.oneCell' = true)
    (hx : w.heap[vb]? = some (.cells x.toArray 47 (0, 0))) (hlim : (n + 1) * 56 ≤ 140737488355328) :
    Calls Tryz.prog 123 #[v, .int .i64 n, .slice (some ⟨vb, 0, none⟩) 1 1] w fun e w' => ∃ v', e = .returned v' ∧ w'.ownsRow base 47 5 v' (n + 1) (xs ++ x) ∧ w.grownBy w' v.ownBlock ∧ (v'.ownBlock = v.ownBlock ∨ ∃ b, v'.ownBlock = some b ∧ w.heap.size ≤ b) := by
  obtain ⟨i0, hi, hz0, hz1, hz2⟩ := info_parts info47
  obtain ⟨v', w', hr, ho, hg, _, hat⟩ := run_append_own_at (P := Tryz.prog) (w := w) base 127 127 47 i0 _ 5 56 Tryz.underlying127 hi hz0 hz1 hz2 (by rfl) (by omega) v n xs hown ⟨vb, 0, none⟩ 1 1 x (by omega)
    (news_block (cs := x.toArray) hx) h1 (by unfold maxLen; omega) hlim hbase
  have HO := Aside0.mk ho
  have HG := Aside0.mk hg
  have HA := Aside0.mk hat
  have hnm : n ≤ 9223372036854775807 := by omega
  clear ho hg hat
  have hr2 : ∀ ty, (Builtin.append_ #[127, 23] ty #[v, .slice (some ⟨vb, 0, none⟩) 1 1]).run Tryz.prog w = .ok v' w' := fun ty => by
    rw [append_types _ _ ty _ _ Tryz.underlying127 Tryz.underlying23]; exact hr
  clear hr
  have hown2 := hown.2
  have hxl : x.length = 5 := hl
  rcases hown2 with ⟨rfl, rfl⟩ | ⟨g, cap, cur, rfl, hg1, hg2, hg3, hg4, hg5, hg6⟩
  · clear hown hbase hx hlim hl h1 hxl hi hz0 hz1 hz2
    go_enter Tryz.func123, Tryz.ntmps123
    go_wp2_with (at_builtin; refine Lib.wpList_append_run _ rfl _ _ _ _ rfl _ _ rfl rfl _ _ (hr2 _) ?_)
    go_ret
    exact ⟨v', rfl, HO.out, HG.out, HA.out.imp id fun h => ⟨_, h, Nat.le_refl _⟩⟩
  · clear hown hbase hx hlim hl h1 hxl hi hz0 hz1 hz2 hg1 hg2 hg5 hg6
    go_enter Tryz.func123, Tryz.ntmps123
    go_wp2_with (at_builtin; refine Lib.wpList_append_run _ rfl _ _ _ _ rfl _ _ rfl rfl _ _ (hr2 _) ?_)
    all_goals (go_ret; exact ⟨v', rfl, HO.out, HG.out, HA.out.imp id fun h => ⟨_, h, Nat.le_refl _⟩⟩)

theorem add_plain' (g o j : Nat) : (⟨g, o, none⟩ : Addr).add j = ⟨g, o + j, none⟩ := by unfold Addr.add; split <;> simp_all
theorem cur_cell {w : World} {g : Nat} {cur : Array Value} {t : TypeId} (h : w.heap[g]? = some (.cells cur t (0, 0))) (j : Nat) (u : Value) (hu : cur.toList[j]? = some u) : w.cell? ⟨g, j, none⟩ = some u := by
  rw [blk_cell h j]; simpa using hu
set_option maxHeartbeats 2000000 in
set_option maxRecDepth 100000 in
theorem ins_shift (base : Nat) (g n cap i : Nat) (cur : Array Value) (xs : List Value) (w : World) (hin : i < n) (hroom : n + 1 ≤ cap) (hcm : cap ≤ maxLen) (hg : w.heap[g]? = some (.cells cur 47 (0, 0))) (hgb : base ≤ g) (hsz : cur.size = cap * 5) (htk : cur.toList.take (n * 5) = xs)
    (hone : ∀ u ∈ xs, u.oneCell' = true) (vb : Nat) (x : List Value) (hl : x.length = 5) (h1 : ∀ u ∈ x, u.oneCell' = true) (hne : vb ≠ g)
    (hx : w.heap[vb]? = some (.cells x.toArray 47 (0, 0))) :
    Calls Tryz.prog 123 #[.slice (some ⟨g, 0, none⟩) n cap, .int .i64 i, .slice (some ⟨vb, 0, none⟩) 1 1] w fun e w' => e = .returned (.slice (some ⟨g, 0, none⟩) (n + 1) cap) ∧
      w'.ownsRow base 47 5 (.slice (some ⟨g, 0, none⟩) (n + 1) cap) (n + 1) (xs.take (i * 5) ++ x ++ xs.drop (i * 5)) ∧ w.grownBy w' (some g) := by
  have hxs : xs.length = n * 5 := by rw [← htk, List.length_take, Array.length_toList, hsz]; omega
  have hcl : cur.toList.length = cap * 5 := by rw [Array.length_toList, hsz]
  unfold maxLen at hcm
  have hz1 : ¬ ((i : Int) = (n : Int)) := by omega
  have hsize : (Tryz.prog.info? 47).map (·.size) = some 5 := by
    obtain ⟨i0, hi, hz0, hz1, hz2⟩ := info_parts info47
    rw [hi]; simp [hz1]
  have hgw := blk_lt hg
  have hvw := blk_lt hx
  -- the two copies
  have hdl : (xs.drop (i * 5)).length = (n - i) * 5 := by rw [List.length_drop, hxs]; omega
  obtain ⟨c1, hc1⟩ : ∃ c1, c1 = (cur.toList.take ((i + 1) * 5) ++ xs.drop (i * 5) ++ cur.toList.drop ((i + 1) * 5 + (xs.drop (i * 5)).length)).toArray := ⟨_, rfl⟩
  have hcp1 : ∀ (W : World), (∀ x, W.heap[x]? = w.heap[x]?) → ∀ ty dc sc, (Builtin.copy_ #[127, 127] ty #[.slice (some ⟨g, (i + 1) * 5, none⟩) (n - i) dc, .slice (some ⟨g, i * 5, none⟩) (n + 1 - i) sc]).run Tryz.prog W = .ok (goInt ((n - i : Nat) : Int)) (W.setRow g c1) := fun W hW ty dc sc => by
    rw [hc1]
    refine run_copy_rowK W _ _ ty 47 5 g ((i + 1) * 5) (n - i) dc ⟨g, i * 5, none⟩ (n + 1 - i) sc cur 47 (xs.drop (i * 5)) Tryz.underlying127 hsize ((hW g).trans hg) (n - i) ?_ hdl ?_ ?_ ?_
    · simp only [Nat.min_def]; split <;> omega
    · intro j u hj
      rw [add_plain']
      refine cur_cell ((hW g).trans hg) _ _ ?_
      rw [List.getElem?_drop] at hj
      rw [← htk, List.getElem?_take] at hj
      split at hj
      · exact hj
      · cases hj
    · rw [hdl, hsz]; omega
    · intro u hu; exact hone u (List.mem_of_mem_drop hu)
  have hc1l : c1.toList = cur.toList.take ((i + 1) * 5) ++ xs.drop (i * 5) ++ cur.toList.drop ((i + 1) * 5 + (xs.drop (i * 5)).length) := by rw [hc1]
  have hc1s : c1.size = cap * 5 := by
    rw [← Array.length_toList, hc1l]
    simp only [List.length_append, List.length_take, List.length_drop, hcl, hdl]
    omega
  obtain ⟨c2, hc2⟩ : ∃ c2, c2 = (c1.toList.take (i * 5) ++ x ++ c1.toList.drop (i * 5 + x.length)).toArray := ⟨_, rfl⟩
  have hcp2 : ∀ (W : World), W.heap[g]? = some (.cells c1 47 (0, 0)) → W.heap[vb]? = some (.cells x.toArray 47 (0, 0)) → ∀ ty dc, (Builtin.copy_ #[127, 23] ty #[.slice (some ⟨g, i * 5, none⟩) (n + 1 - i) dc, .slice (some ⟨vb, 0, none⟩) 1 1]).run Tryz.prog W = .ok (goInt ((1 : Nat) : Int)) (W.setRow g c2) := fun W hW1 hW2 ty dc => by
    rw [hc2]
    refine run_copy_rowK W _ _ ty 47 5 g (i * 5) (n + 1 - i) dc ⟨vb, 0, none⟩ 1 1 c1 47 x Tryz.underlying127 hsize hW1 1 ?_ (by omega) ?_ ?_ h1
    · simp only [Nat.min_def]; split <;> omega
    · exact news_block (cs := x.toArray) hW2
    · rw [hl, hc1s]; omega
  have hfin : c2.toList.take ((n + 1) * 5) = xs.take (i * 5) ++ x ++ xs.drop (i * 5) := by
    have e1 : c1.toList.take (i * 5) = xs.take (i * 5) := by
      rw [hc1l, List.append_assoc, List.take_append_of_le_length (by rw [List.length_take, hcl]; omega), List.take_take, ← htk, List.take_take]
      congr 1; omega
    have e2 : c1.toList.drop (i * 5 + x.length) = xs.drop (i * 5) ++ cur.toList.drop ((i + 1) * 5 + (xs.drop (i * 5)).length) := by
      rw [hc1l, List.append_assoc]
      exact List.drop_left' (by rw [List.length_take, hcl, hl]; omega)
    rw [hc2]
    show List.take _ (_ ++ _ ++ _) = _
    rw [e1, e2, ← List.append_assoc]
    exact List.take_left' (by simp only [List.length_append, List.length_take, hxs, hdl, hl]; omega)
  have hc2s : c2.size = cap * 5 := by
    rw [← Array.length_toList, hc2]
    simp only [List.length_append, List.length_take, List.length_drop, Array.length_toList, hc1s, hl]
    omega
  have hov : ∀ lb cb, (callFunc 134 #[.slice (some ⟨vb, 0, none⟩) 1 1, .slice (some ⟨g, (i + 1) * 5, none⟩) lb cb]).run Tryz.prog w = .ok (.value (.bool false)) w := fun lb cb => by
    rw [run_callFunc_extern Tryz.func134 (by kernel_rfl) (by kernel_rfl) (by kernel_rfl) (e := Extern.SlicesOverlaps.overlaps #[23, 23] #[4]) (by kernel_rfl),
      Lib.run_overlaps_apart w 23 4 47 Tryz.underlying23 5 Tryz.sizeOf47 ⟨vb, 0, none⟩ ⟨g, (i + 1) * 5, none⟩ 1 1 lb cb hne _ _ _ _ (by simp [World.shape?, hx]; exact ⟨rfl, rfl⟩) (by simp [World.shape?, hg]; exact ⟨rfl, rfl⟩) (by omega) (blk_frozen hx 0) (blk_frozen hx _)]
    rfl
  have HR := Aside0.mk (show (w.setRow g c1).heap[g]? = some (.cells c1 47 (0, 0)) ∧ (w.setRow g c1).heap[vb]? = some (.cells x.toArray 47 (0, 0)) from ⟨heap_setRow w g cur c1 _ hg, ((grown_setRow w g c1).block vb hvw (fun e => hne (Option.some.inj e))).trans hx⟩)
  have HF := Aside0.mk (And.intro hfin hc2s)
  have HG := Aside0.mk hg
  have HL := Aside0.mk hl
  have HX := Aside0.mk (And.intro hxs hgb)
  have hb0 : ¬ ((cap : Int) < (n : Int) + 1) := by omega
  have hw1 : IntKind.i64.wrap ((i : Int) + 1) = (i : Int) + 1 := by rw [IntKind.wrap_i64]; omega
  have hb1 : (0 : Int) ≤ (i : Int) + 1 := by omega
  have hle : i ≤ n := by omega
  have htn : ((i : Int) + 1).toNat = i + 1 := by omega
  have hb2 : ¬ (cap = i + 1) := by omega
  have hb3 : (i : Int) ≤ (n : Int) + 1 := by omega
  have hb4 : ¬ (cap = i) := by omega
  clear hfin hc2s hc1s hc1l hc2 hc1 hdl hcl htk hone h1 hx hg hgb hgw hvw hsize hxs hl hsz hne
  go_enter Tryz.func123, Tryz.ntmps123
  go_wp2_with (simp only [hov])
  go_region_law (refine step_copy_runH rfl _ _ 127 127 rfl (.slice (some ⟨g, (i + 1) * 5, none⟩) (n - i) (cap - (i + 1))) (.slice (some ⟨g, i * 5, none⟩) (n + 1 - i) (cap - i)) (by simp [Act.eval, Act.put]) (by simp [Act.eval, Act.put]) (hcp1 w.drew (fun _ => rfl) _ _ _) ?_)
  go_wp2_with (refine wpList_copy_runH _ rfl (.tmp 80) (.tmp 81) 127 23 rfl (.slice (some ⟨g, i * 5, none⟩) (n + 1 - i) (cap - i)) (.slice (some ⟨vb, 0, none⟩) 1 1) rfl rfl (hcp2 (w.drew.setRow g c1) HR.out.1 HR.out.2 _ _) ?_)
  go_ret
  refine ⟨rfl, ⟨?_, .inr ⟨g, cap, c2, rfl, HX.out.2, heap_setRow _ g c1 c2 _ HR.out.1, hroom, by unfold maxLen; omega, HF.out.2, HF.out.1⟩⟩, ?_⟩
  · have e1 := HL.out; have e2 := HX.out.1
    simp only [List.length_append, List.length_take, List.length_drop, e1, e2]
    omega
  · have q := grown_setRow w g c1
    have q2 : w.grownBy (w.drew.setRow g c1) (some g) := ⟨q.os, q.tape, q.output, q.size, q.block⟩
    exact World.grownBy.trans q2 (grown_setRow (w.drew.setRow g c1) g c2)

theorem zeroCells_size (z : Array Value) (n : Nat) : (Builtin.zeroCells z n).size = n * z.size := by simp [Builtin.zeroCells]
set_option maxHeartbeats 4000000 in
set_option maxRecDepth 100000 in
theorem ins_grow (base : Nat) (g n cap i : Nat) (cur : Array Value) (xs : List Value) (w : World) (hbase : base ≤ w.heap.size) (hin : i < n) (hnc : n ≤ cap) (hroom : cap < n + 1) (hlim : (n + 1) * 56 ≤ 140737488355328) (hg : w.heap[g]? = some (.cells cur 47 (0, 0))) (hsz : cur.size = cap * 5) (htk : cur.toList.take (n * 5) = xs)
    (hone : ∀ u ∈ xs, u.oneCell' = true) (vb : Nat) (x : List Value) (hl : x.length = 5) (h1 : ∀ u ∈ x, u.oneCell' = true)
    (hx : w.heap[vb]? = some (.cells x.toArray 47 (0, 0))) :
    Calls Tryz.prog 123 #[.slice (some ⟨g, 0, none⟩) n cap, .int .i64 i, .slice (some ⟨vb, 0, none⟩) 1 1] w fun e w' => ∃ v', e = .returned v' ∧
      w'.ownsRow base 47 5 v' (n + 1) (xs.take (i * 5) ++ x ++ xs.drop (i * 5)) ∧ w.grownBy w' (some g) ∧ v'.ownBlock = some w.heap.size := by
  have hxs : xs.length = n * 5 := by rw [← htk, List.length_take, Array.length_toList, hsz]; omega
  have hcl : cur.toList.length = cap * 5 := by rw [Array.length_toList, hsz]
  have hz0' : ¬ ((i : Int) = (n : Int)) := by omega
  have hz3 : (cap : Int) < (n : Int) + 1 := by omega
  obtain ⟨i0, hi0, hz0, hzs, hzb⟩ := info_parts info47
  have hsize : (Tryz.prog.info? 47).map (·.size) = some 5 := by rw [hi0]; simp [hzs]
  have hgw := blk_lt hg
  have hvw := blk_lt hx
  have hdl : (xs.drop (i * 5)).length = (n - i) * 5 := by rw [List.length_drop, hxs]; omega
  have htl : (xs.take (i * 5)).length = i * 5 := by rw [List.length_take, hxs]; omega
  have hkk : (n : Int) + 1 - (i : Int) = ((n + 1 - i : Nat) : Int) := by omega
  have hik : i + (n + 1 - i) = n + 1 := by omega
  have hcells : ∀ j u, xs[j]? = some u → w.cell? ⟨g, j, none⟩ = some u := fun j u hj => by
    refine cur_cell hg _ _ ?_
    rw [← htk, List.getElem?_take] at hj
    split at hj
    · exact hj
    · cases hj
  have hold : (Builtin.firstCells i0.size i (.slice (some ⟨g, 0, none⟩) i cap)).run Tryz.prog w.drew = .ok (xs.take (i * 5)).toArray w.drew := by
    rw [hzs]
    exact run_firstCells_some w.drew 5 i ⟨g, 0, none⟩ i cap (xs.take (i * 5)) htl (fun j u hj => by
      rw [add_plain]
      rw [List.getElem?_take] at hj
      split at hj
      · exact hcells j u hj
      · cases hj)
  obtain ⟨G, hG⟩ : ∃ G, G = grownCap w (n + 1) cap 47 := ⟨_, rfl⟩
  obtain ⟨zz, hzz⟩ : ∃ zz : Array Value, zz.size = 5 ∧ ∀ ty, (Builtin.append_ #[127, 3] ty #[.slice (some ⟨g, 0, none⟩) i cap, .int .i64 ((n : Int) + 1 - (i : Int))]).run Tryz.prog w =
      .ok (.slice (some ⟨w.heap.size, 0, none⟩) (n + 1) G) (w.drew.alloc (.cells ((xs.take (i * 5)).toArray ++ Builtin.zeroCells zz (n + 1 - i) ++ Builtin.zeroCells zz (G - (n + 1))) 47)) := by
    refine ⟨(Value.agg #[.string ⟨#[]⟩, .string ⟨#[]⟩, .int .i64 0, .int .i64 0, .int .i64 0]).cells, rfl, fun ty => ?_⟩
    have h := Lib.run_append_grow_zeros (P := Tryz.prog) w 127 3 ty 47 i0 _ .i64 .i64 Tryz.underlying127 Tryz.underlying3 hi0 hz0 (some ⟨g, 0, none⟩) i cap (xs.take (i * 5)) hold (n + 1 - i) (by omega) (by omega) (by omega) (by omega) (by rw [hzb]; omega) (by rw [hzb, hik]; exact growslice_fits hroom hlim)
    rw [hik, ← hG] at h
    rw [hkk]
    exact h
  obtain ⟨hzz5, hrz⟩ := hzz
  obtain ⟨ROW, hROW⟩ : ∃ ROW : Array Value, ROW = (xs.take (i * 5)).toArray ++ Builtin.zeroCells zz (n + 1 - i) ++ Builtin.zeroCells zz (G - (n + 1)) := ⟨_, rfl⟩
  rw [← hROW] at hrz
  have hGn : n + 1 ≤ G := by rw [hG]; exact grownCap_ge w _ _ _
  have hG63 : G ≤ 9223372036854775807 := by
    have := grownCap_le_maxLen w (n + 1) cap 47 (by unfold maxLen; omega)
    rw [← hG] at this
    unfold maxLen at this
    omega
  have hRs : ROW.size = G * 5 := by
    rw [hROW]
    simp only [Array.size_append, zeroCells_size, List.size_toArray, htl, hzz5]
    omega
  have hRt : ROW.toList.take (i * 5) = xs.take (i * 5) := by
    rw [hROW]
    simp only [Array.toList_append, List.append_assoc]
    exact List.take_left' htl
  obtain ⟨rA, hrA⟩ : ∃ rA, rA = (ROW.toList.take (i * 5) ++ x ++ ROW.toList.drop (i * 5 + x.length)).toArray := ⟨_, rfl⟩
  have hAs : rA.size = G * 5 := by
    rw [← Array.length_toList, hrA]
    simp only [List.length_append, List.length_take, List.length_drop, Array.length_toList, hRs, hl]
    omega
  obtain ⟨rB, hrB⟩ : ∃ rB, rB = (rA.toList.take ((i + 1) * 5) ++ xs.drop (i * 5) ++ rA.toList.drop ((i + 1) * 5 + (xs.drop (i * 5)).length)).toArray := ⟨_, rfl⟩
  have hBs : rB.size = G * 5 := by
    rw [← Array.length_toList, hrB]
    simp only [List.length_append, List.length_take, List.length_drop, Array.length_toList, hAs, hdl]
    omega
  have hfin : rB.toList.take ((n + 1) * 5) = xs.take (i * 5) ++ x ++ xs.drop (i * 5) := by
    have e1 : rA.toList.take ((i + 1) * 5) = xs.take (i * 5) ++ x := by
      rw [hrA]
      show List.take _ (_ ++ _ ++ _) = _
      rw [hRt]
      exact List.take_left' (by simp only [List.length_append, htl, hl]; omega)
    rw [hrB]
    show List.take _ (_ ++ _ ++ _) = _
    rw [e1]
    exact List.take_left' (by simp only [List.length_append, htl, hdl, hl]; omega)
  have hcpA : ∀ (W : World), W.heap[w.heap.size]? = some (.cells ROW 47 (0, 0)) → W.heap[vb]? = some (.cells x.toArray 47 (0, 0)) → ∀ ty dc, (Builtin.copy_ #[127, 23] ty #[.slice (some ⟨w.heap.size, i * 5, none⟩) (n + 1 - i) dc, .slice (some ⟨vb, 0, none⟩) 1 1]).run Tryz.prog W = .ok (goInt ((1 : Nat) : Int)) (W.setRow w.heap.size rA) := fun W hW1 hW2 ty dc => by
    rw [hrA]
    refine run_copy_rowK W _ _ ty 47 5 w.heap.size (i * 5) (n + 1 - i) dc ⟨vb, 0, none⟩ 1 1 ROW 47 x Tryz.underlying127 hsize hW1 1 ?_ (by omega) ?_ ?_ h1
    · simp only [Nat.min_def]; split <;> omega
    · exact news_block (cs := x.toArray) hW2
    · rw [hl, hRs]; omega
  have hcpB : ∀ (W : World), W.heap[w.heap.size]? = some (.cells rA 47 (0, 0)) → W.heap[g]? = some (.cells cur 47 (0, 0)) → ∀ ty dc sc, (Builtin.copy_ #[127, 127] ty #[.slice (some ⟨w.heap.size, (i + 1) * 5, none⟩) (n - i) dc, .slice (some ⟨g, i * 5, none⟩) (n - i) sc]).run Tryz.prog W = .ok (goInt ((n - i : Nat) : Int)) (W.setRow w.heap.size rB) := fun W hW1 hW2 ty dc sc => by
    rw [hrB]
    refine run_copy_rowK W _ _ ty 47 5 w.heap.size ((i + 1) * 5) (n - i) dc ⟨g, i * 5, none⟩ (n - i) sc rA 47 (xs.drop (i * 5)) Tryz.underlying127 hsize hW1 (n - i) ?_ hdl ?_ ?_ ?_
    · simp only [Nat.min_def]; split <;> omega
    · intro j u hj
      rw [add_plain']
      refine cur_cell hW2 _ _ ?_
      rw [List.getElem?_drop] at hj
      rw [← htk, List.getElem?_take] at hj
      split at hj
      · exact hj
      · cases hj
    · rw [hdl, hAs]; omega
    · intro u hu; exact hone u (List.mem_of_mem_drop hu)
  have HN := fun (o : Obj) => blk_new w o
  have HO1 := fun (o : Obj) => (Below.heap_alloc w o g hgw).trans hg
  have HO2 := fun (o : Obj) => (Below.heap_alloc w o vb hvw).trans hx
  have HF := Aside0.mk (And.intro hfin hBs)
  have HL := Aside0.mk (And.intro hl hxs)
  have HNE := Aside0.mk (And.intro (show g ≠ w.heap.size by omega) (show vb ≠ w.heap.size by omega))
  have hw1 : IntKind.i64.wrap ((i : Int) + 1) = (i : Int) + 1 := by rw [IntKind.wrap_i64]; omega
  have hb1 : (0 : Int) ≤ (i : Int) + 1 := by omega
  have hle : i ≤ n := by omega
  have htn : ((i : Int) + 1).toNat = i + 1 := by omega
  have hb2 : ¬ (G = i) := by omega
  have hb3 : ¬ (G = i + 1) := by omega
  have hb4 : ¬ (cap = i) := by omega
  have hb5 : (i : Int) ≤ (n : Int) := by omega
  have hb6 : (i : Int) ≤ (n : Int) + 1 := by omega
  have HB := Aside0.mk hbase
  clear hkk hik hold hROW hG hRt hrA hrB hAs hBs hfin hl h1 hx hg hdl htl hcl hxs hone htk hsz hcells hzz5 hRs hsize hi0 hz0 hzs hzb
  go_enter Tryz.func123, Tryz.ntmps123
  go_wp2_with (first
    | (at_builtin; refine Lib.wpList_append_run _ rfl _ _ _ _ rfl _ _ rfl rfl _ _ (hrz _) ?_)
    | (refine wpList_copy_runH ((w.alloc (.cells ROW 47)).drew) rfl (.tmp 43) (.tmp 44) 127 23 rfl (.slice (some ⟨w.heap.size, i * 5, none⟩) (n + 1 - i) (G - i)) (.slice (some ⟨vb, 0, none⟩) 1 1) rfl rfl (hcpA ((w.alloc (.cells ROW 47)).drew) (HN _) (HO2 _) _ _) ?_))
  have q1 := heap_setRow ((w.alloc (.cells ROW 47)).drew) w.heap.size ROW rA _ (HN _)
  have q2 := ((grown_setRow ((w.alloc (.cells ROW 47)).drew) w.heap.size rA).block g (Nat.lt_of_lt_of_le hgw (by simp)) (fun e => HNE.out.1 (Option.some.inj e))).trans (HO1 _)
  have Q1 := Aside0.mk q1
  have Q2 := Aside0.mk q2
  clear q1 q2
  go_region_law (refine step_copy_runH rfl _ _ 127 127 rfl (.slice (some ⟨w.heap.size, (i + 1) * 5, none⟩) (n - i) (G - (i + 1))) (.slice (some ⟨g, i * 5, none⟩) (n - i) (cap - i)) (by simp [Act.eval, Act.put]) (by simp [Act.eval, Act.put]) (hcpB (((w.alloc (.cells ROW 47)).drew.setRow w.heap.size rA).drew) Q1.out Q2.out _ _ _) ?_)
  go_wp2
  go_ret
  refine ⟨_, rfl, ⟨?_, .inr ⟨w.heap.size, G, rB, rfl, HB.out, heap_setRow _ w.heap.size rA rB _ Q1.out, hGn, by unfold maxLen; omega, HF.out.2, HF.out.1⟩⟩, ?_, rfl⟩
  · have e1 := HL.out.1; have e2 := HL.out.2
    simp only [List.length_append, List.length_take, List.length_drop, e1, e2]
    omega
  · have p0 : Below w.heap.size w ((w.alloc (.cells ROW 47)).drew) := below_drew (below_alloc (Below.refl _ _) _)
    refine ⟨rfl, rfl, rfl, by simp [World.setRow], fun k hk hne => ?_⟩
    have hk2 : some k ≠ some w.heap.size := fun e => by have := Option.some.inj e; omega
    have hk3 : k < ((w.alloc (.cells ROW 47)).drew).heap.size := Nat.lt_of_lt_of_le hk p0.size
    have s1 := (grown_setRow ((w.alloc (.cells ROW 47)).drew) w.heap.size rA)
    have s2 := (grown_setRow ((((w.alloc (.cells ROW 47)).drew).setRow w.heap.size rA).drew) w.heap.size rB)
    exact (s2.block k (Nat.lt_of_lt_of_le hk3 s1.size) hk2).trans ((s1.block k hk3 hk2).trans (p0.block k hk))

theorem ins_calls (base : Nat) (v : Value) (n i : Nat) (xs : List Value) (w : World) (hown : w.ownsRow base 47 5 v n xs) (hbase : base ≤ w.heap.size) (hin : i ≤ n) (hone : ∀ u ∈ xs, u.oneCell' = true) (vb : Nat) (x : List Value) (hl : x.length = 5) (h1 : ∀ u ∈ x, u.oneCell' = true)
    (hx : w.heap[vb]? = some (.cells x.toArray 47 (0, 0))) (hne : v.ownBlock ≠ some vb) (hlim : (n + 1) * 56 ≤ 140737488355328) :
    Calls Tryz.prog 123 #[v, .int .i64 i, .slice (some ⟨vb, 0, none⟩) 1 1] w fun e w' => ∃ v', e = .returned v' ∧ w'.ownsRow base 47 5 v' (n + 1) (xs.take (i * 5) ++ x ++ xs.drop (i * 5)) ∧ w.grownBy w' v.ownBlock ∧ (v'.ownBlock = v.ownBlock ∨ ∃ b, v'.ownBlock = some b ∧ w.heap.size ≤ b) := by
  rcases Nat.eq_or_lt_of_le hin with rfl | hlt
  · have e1 : xs.take (i * 5) = xs := List.take_of_length_le (by rw [hown.1]; exact Nat.le_refl _)
    have e2 : xs.drop (i * 5) = [] := List.drop_of_length_le (by rw [hown.1]; exact Nat.le_refl _)
    rw [e1, e2, List.append_nil]
    exact ins_end base v i xs w hown hbase vb x hl h1 hx hlim
  · rcases hown.2 with ⟨rfl, rfl⟩ | ⟨g, cap, cur, rfl, hg1, hg2, hg3, hg4, hg5, hg6⟩
    · omega
    · rcases Nat.lt_or_ge cap (n + 1) with hr | hr
      · refine (ins_grow base g n cap i cur xs w hbase hlt hg3 hr hlim hg2 hg5 hg6 hone vb x hl h1 hx).mono ?_
        rintro e w' ⟨v', h, ho, hg, hb⟩
        exact ⟨v', h, ho, hg, .inr ⟨_, hb, Nat.le_refl _⟩⟩
      · refine (ins_shift base g n cap i cur xs w hlt hr hg4 hg2 hg1 hg5 hg6 hone vb x hl h1 (fun e => hne (by rw [e]; rfl)) hx).mono ?_
        rintro e w' ⟨h, ho, hg⟩
        exact ⟨_, h, ho, hg, .inl rfl⟩
end Go.Proofs.YtmcddoolniaehaaGreat.S
end
