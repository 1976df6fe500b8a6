/- Several of the walk's texts in one: SHPairMay, SHPairAdd, SHPairDelF, SHBs. -/
import Derived.Lib.SliceRun
import Derived.Lib.AppendZeros
import Derived.Laws.Externs
import Derived.Laws.CopyRow
import Derived.Laws.IdiomCopy
import Derived.Test.YtmcddoolniaehaaGreatMT03
import Derived.Test.YtmcddoolniaehaaGreatMT04
import Derived.Test.YtmcddoolniaehaaGreatMT06
import Derived.Test.YtmcddoolniaehaaGreatMT07
import Derived.Test.YtmcddoolniaehaaGreatMT09
section
namespace Go.Proofs.YtmcddoolniaehaaGreat.S
open Go.RowKit Go.Sort Go.Proofs.YtmcddoolniaehaaGreatW.PrintWords Go.Proofs.YtmcddoolniaehaaGreatW.PrintLast Go.Proofs.YtmcddoolniaehaaGreatW.PrintMore Go.Proofs.YtmcddoolniaehaaGreatW
set_option linter.unusedVariables false
set_option linter.unusedSimpArgs false
theorem wrapUp {n : Nat} (h : n < 4611686018427387904) : wrap64 ((n : Int) + 1) = ((n + 1 : Nat) : Int) := by unfold wrap64; omega
theorem wrapDn {n : Nat} (h : n < 4611686018427387904) : wrap64 (((n + 1 : Nat) : Int) - 1) = (n : Int) := by unfold wrap64; omega
theorem rdP_mid (pre suf : List Pr) (x : Pr) : rd_T43 (pre ++ x :: suf) ((pre.length : Nat) : Int) = x := by
  simp [rd_T43, List.getD_eq_getElem?_getD]
theorem len_one {α : Type} (pre : List α) (x : α) : (pre ++ [x]).length = pre.length + 1 := by simp
theorem app_one {α : Type} (pre suf : List α) (x : α) : (pre ++ [x]) ++ suf = pre ++ x :: suf := by simp
theorem keyT {a : ByteArray} (h : okT a) : ops_Key.f a = some (keyB a.data.toList) := by
  unfold ops_Key.f
  unfold okT maxLen at h
  rw [if_pos (by omega)]
def ltP (x y : Pr) : Bool := decide (cmpP x y < 0)
theorem less_f (k : Nat) (x y : Pr) : pair_Less.f (k + 5) x.f0 x.f1 x.f2.f0 x.f2.f1 y.f0 y.f1 y.f2.f0 y.f2.f1 = some (ltP x y) := by
  unfold pair_Less.f pair_order.f
  rw [cS_f, cS_f, cI_f, cI_f]
  simp only [Option.bind_some]
  rw [or4_f]
  rfl
def oneP (x : Pr) : Bool := keyB x.f0.data.toList && (keyB x.f1.data.toList && (decide (0 ≤ x.f2.f0) && (decide (x.f2.f0 < 8) && decide (1 ≤ x.f2.f1))))
def mayPP : Option Pr → List Pr → Bool
  | _, [] => true
  | p, x :: l => oneP x && ((match p with | none => true | some y => ltP y x) && mayPP (some x) l)
def mayP (l : List Pr) : Bool := mayPP none l
theorem mayP_loop : ∀ (suf pre : List Pr) (k : Nat), suf.length + 5 < k → (pre ++ suf).length < 4611686018427387904 → (∀ x ∈ suf, okPair x) →
    pair_May.l0 k (pre ++ suf) (pre ++ suf) (((pre ++ suf).length : Nat) : Int) ((pre.length : Nat) : Int) = some (mayPP pre.getLast? suf)
  | suf, pre, 0, hk, _, _ => by omega
  | [], pre, k + 1, _, _, _ => by
    simp only [pair_May.l0]
    rw [if_neg (by simp)]
    rfl
  | x :: suf, pre, k + 1, hk, hl, ho => by
    have hlt : ((pre.length : Nat) : Int) < (((pre ++ x :: suf).length : Nat) : Int) := by simp; omega
    have hpl : pre.length < 4611686018427387904 := by simp at hl; omega
    have ih := mayP_loop suf (pre ++ [x]) k (by simp at hk; omega) (by simpa using hl) (fun y hy => ho y (List.mem_cons_of_mem _ hy))
    rw [app_one, List.getLast?_concat, len_one] at ih
    have hox := ho x List.mem_cons_self
    simp only [pair_May.l0]
    rw [if_pos hlt, if_pos (by omega), if_pos hlt, rdP_mid, keyT hox.1, Option.bind_some, wrapUp hpl]
    unfold mayPP oneP
    cases h1 : keyB x.f0.data.toList with
    | false => rfl
    | true =>
      rw [if_pos rfl, keyT hox.2.1, Option.bind_some]
      cases h2 : keyB x.f1.data.toList with
      | false => rfl
      | true =>
        simp only [if_true, Bool.true_and]
        by_cases h3 : x.f2.f0 < 0
        · rw [if_pos h3]
          have : ¬ (0 ≤ x.f2.f0) := by omega
          simp [this]
        · rw [if_neg h3]
          have h3' : 0 ≤ x.f2.f0 := by omega
          by_cases h4 : x.f2.f0 ≥ 8
          · rw [if_pos h4]
            have : ¬ (x.f2.f0 < 8) := by omega
            simp [this]
          · rw [if_neg h4]
            have h4' : x.f2.f0 < 8 := by omega
            by_cases h5 : x.f2.f1 < 1
            · rw [if_pos h5]
              have : ¬ (1 ≤ x.f2.f1) := by omega
              simp [this]
            · rw [if_neg h5]
              have h5' : 1 ≤ x.f2.f1 := by omega
              simp only [h3', h4', h5', decide_true, Bool.true_and]
              rcases List.eq_nil_or_concat pre with rfl | ⟨p, y, rfl⟩
              · rw [if_neg (by simp)]
                simpa using ih
              · rw [List.concat_eq_append] at *
                have hw : wrap64 ((((p ++ [y]).length : Nat) : Int) - 1) = ((p.length : Nat) : Int) := by
                  rw [List.length_append, List.length_singleton]; exact wrapDn (by simp at hpl; omega)
                obtain ⟨k', rfl⟩ : ∃ k', k = k' + 5 := ⟨k - 5, by simp at hk; omega⟩
                rw [if_pos (by simp), hw, if_pos (by omega), if_pos (by simp; omega), app_one, rdP_mid, less_f, Option.bind_some, List.getLast?_concat]
                rw [app_one] at ih
                cases h6 : ltP y x with
                | false => simp [h6]
                | true =>
                  simp only [if_true]
                  rw [ih, h6]; rfl
theorem mayP_f (k : Nat) (l : List Pr) (hk : l.length + 5 < k) (hl : l.length < 4611686018427387904) (ho : ∀ x ∈ l, okPair x) : pair_May.f k l = some (mayP l) := by
  have := mayP_loop l [] k hk (by simpa using hl) ho
  simpa [pair_May.f, mayP] using this
theorem ltP_trans {x y z : Pr} (h1 : ltP x y = true) (h2 : ltP y z = true) : ltP x z = true := by
  unfold ltP at *
  simp only [decide_eq_true_eq] at *
  exact cmpP_ok.trans x y z h1 h2
theorem ltP_irrefl (x : Pr) : ltP x x = false := by
  unfold ltP
  have := (cmpP_ok.eq x x).2 rfl
  simp [this]
theorem ltP_tri (x y : Pr) : ltP x y = true ∨ x = y ∨ ltP y x = true := by
  unfold ltP
  simp only [decide_eq_true_eq]
  rcases Int.lt_trichotomy (cmpP x y) 0 with q | q | q
  · exact .inl q
  · exact .inr (.inl ((cmpP_ok.eq x y).1 q))
  · exact .inr (.inr ((cmpP_ok.anti y x).2 q))
abbrev pLt (x y : Pr) : Prop := ltP x y = true
theorem mayPP_iff : ∀ (l : List Pr) (p : Option Pr), mayPP p l = true ↔ (∀ x ∈ l, oneP x = true) ∧ (p.toList ++ l).Pairwise pLt
  | [], none => by simp [mayPP]
  | [], some y => by simp [mayPP]
  | x :: l, none => by
    have ih := mayPP_iff l (some x)
    unfold mayPP
    simp only [Bool.true_and, Bool.and_eq_true, ih, List.mem_cons, forall_eq_or_imp, Option.toList, List.nil_append, List.cons_append]
    exact and_assoc.symm
  | x :: l, some y => by
    have ih := mayPP_iff l (some x)
    unfold mayPP
    simp only [Bool.and_eq_true, ih, List.mem_cons, forall_eq_or_imp, Option.toList, List.nil_append, List.cons_append]
    constructor
    · rintro ⟨h1, h2, h3, h4⟩
      refine ⟨⟨h1, h3⟩, ?_⟩
      rw [List.pairwise_cons]
      refine ⟨fun z hz => ?_, h4⟩
      rcases List.mem_cons.1 hz with rfl | hz
      · exact h2
      · exact ltP_trans h2 ((List.pairwise_cons.1 h4).1 z hz)
    · rintro ⟨⟨h1, h3⟩, h4⟩
      rw [List.pairwise_cons] at h4
      exact ⟨h1, h4.1 x List.mem_cons_self, h3, h4.2⟩
theorem mayP_iff (l : List Pr) : mayP l = true ↔ (∀ x ∈ l, oneP x = true) ∧ l.Pairwise pLt := by
  have := mayPP_iff l none
  simpa [mayP] using this
end Go.Proofs.YtmcddoolniaehaaGreat.S
end
section
namespace Go.Proofs.YtmcddoolniaehaaGreat.S
open Go.RowKit Go.Maps Go.Sort Go.Proofs.YtmcddoolniaehaaGreatW.PrintWords Go.Proofs.YtmcddoolniaehaaGreatW.PrintLast Go.Proofs.YtmcddoolniaehaaGreatW.PrintMore Go.Proofs.YtmcddoolniaehaaGreatW
set_option linter.unusedVariables false
set_option linter.unusedSimpArgs false
set_option maxRecDepth 100000 in
theorem has_calls (gb n : Nat) (es : MapQ) (w : World) (hown : OwnsQ w gb n es) (p : Pr) (hp : okPair p) :
    Calls Tryz.prog 99 #[.map (some gb), .agg #[.string p.f0, .string p.f1, .int .i64 p.f2.f0, .int .i64 p.f2.f1]] w fun e w' => e = .returned (.bool (decide (0 < getQ es p))) ∧ Below w.heap.size w w' := by
  have HK := Aside0.mk (keyOf_pair p hp)
  have HO := Aside0.mk hown
  have HB := Aside0.mk (Below.refl w.heap.size w)
  clear hown hp
  go_enter Tryz.func99, Tryz.ntmps99
  go_wp2_with (first
    | (at_lookup; refine wpList_lookup_own_int _ rfl _ _ 104 rfl 43 3 .i64 lawP Tryz.underlying104 Tryz.underlying3 (zeroQ _) gb _ _ rfl (HO.out.alloc _) _ _ rfl HK.out ?_; intro c hat hwc; have HC := Aside0.mk hat; clear hat hwc))
  have h2 := HC.out
  rw [at_datQ] at h2
  injection h2 with h2
  injection h2 with _ h2
  subst h2
  go_ret
  exact ⟨rfl, below_alloc HB.out _⟩
theorem own_lower2 {w : World} {base base' : Nat} {e : TypeId} {size n : Nat} {v : Value} {xs : List Value} (h : w.ownsRow base e size v n xs) (hb : base' ≤ base) : w.ownsRow base' e size v n xs := by
  obtain ⟨h1, h2⟩ := h
  refine ⟨h1, ?_⟩
  rcases h2 with h2 | ⟨g, cap, cur, rfl, hg, hh, r⟩
  · exact .inl h2
  · exact .inr ⟨g, cap, cur, rfl, Nat.le_trans hb hg, hh, r⟩
theorem pairCells_lengthK (p : Pr) : (pairCells p).length = k43.sz := rfl
theorem R_pair {w : World} {base n : Nat} {v : Value} {xs : List Pr} (hn : n = xs.length) (h : w.ownsRow base 43 4 v n (pairRow xs)) : k43.R 43 w base (fun _ => True) v xs := by
  subst hn
  exact R_of_cells (d := k43) (enc := pairCells) pairCells_lengthK (fun w base ok x => k43_mkM w base ok x) h (fun _ _ => trivial)
def setP (l : List Pr) : List Pr := sortP ((ofQ l).map Prod.fst)
def okB (p : Pr) : Bool := decide (p.f0.size ≤ maxLen) && (decide (p.f1.size ≤ maxLen) && ((decide (-9223372036854775808 ≤ p.f2.f0) && decide (p.f2.f0 ≤ 9223372036854775807)) && (decide (-9223372036854775808 ≤ p.f2.f1) && decide (p.f2.f1 ≤ 9223372036854775807))))
theorem okB_iff {p : Pr} : okB p = true ↔ okPair p := by
  unfold okB okPair okT okI
  simp only [Bool.and_eq_true, decide_eq_true_eq]
def smallP (l : List Pr) : Bool := decide ((l.length + 1) * 256 ≤ 140737488351232) && l.all okB
theorem smallP_len {l : List Pr} (h : smallP l = true) : (l.length + 1) * 256 ≤ 140737488351232 := by
  unfold smallP at h; simp at h; exact h.1
theorem smallP_all {l : List Pr} (h : smallP l = true) : ∀ x ∈ l, okPair x := by
  unfold smallP at h
  simp only [Bool.and_eq_true, List.all_eq_true] at h
  exact fun x hx => okB_iff.1 (h.2 x hx)
theorem ofQ_keys (l : List Pr) : ∀ p ∈ ofQ l, p.1 ∈ l := by
  have : ∀ (l : List Pr) (es : MapQ) (S : Pr → Prop), (∀ p ∈ es, S p.1) → (∀ x ∈ l, S x) → ∀ p ∈ l.foldl incQ es, S p.1 := by
    intro l
    induction l with
    | nil => intro es S h _; exact h
    | cons x l ih =>
      intro es S h hl
      refine ih _ S (fun p hp => ?_) (fun y hy => hl y (List.mem_cons_of_mem _ hy))
      rcases setQ_mem hp with rfl | hp
      · exact hl x List.mem_cons_self
      · exact h p hp
  exact this l [] (· ∈ l) (fun p hp => by cases hp) (fun x hx => hx)
theorem setQ_len (es : MapQ) (k : Pr) (n : Int) : (setQ es k n).length ≤ es.length + 1 := by
  induction es with
  | nil => simp [setQ]
  | cons y l ih =>
    unfold setQ
    split
    · simp; exact ih
    · split <;> simp
theorem ofQ_len (l : List Pr) : (ofQ l).length ≤ l.length := by
  have : ∀ (l : List Pr) (es : MapQ), (l.foldl incQ es).length ≤ es.length + l.length := by
    intro l
    induction l with
    | nil => intro es; simp
    | cons x l ih =>
      intro es
      have h1 := ih (incQ es x)
      have h2 := setQ_len es x (wrap64 (getQ es x + 1))
      unfold incQ at h1
      show (l.foldl incQ (incQ es x)).length ≤ _
      unfold incQ at *
      simp only [List.length_cons]
      omega
  have h := this l []
  simp only [List.length_nil, Nat.zero_add] at h
  exact h
theorem ofQ_snoc (l : List Pr) (p : Pr) : ofQ (l ++ [p]) = incQ (ofQ l) p := by
  unfold ofQ
  rw [List.foldl_append]; rfl
def addP (l : List Pr) (p : Pr) : List Pr := if mayP l && mayP [p] then setP (l ++ [p]) else []
def pair_Add.f (l0 : List (S43)) (a1_0 : ByteArray) (a1_1 : ByteArray) (a1_2 : Int) (a1_3 : Int) : Option ((List (S43))) :=
  if smallP l0 = true ∧ okB ⟨a1_0, a1_1, ⟨a1_2, a1_3⟩⟩ = true then some (addP l0 ⟨a1_0, a1_1, ⟨a1_2, a1_3⟩⟩) else none
theorem C_one {w : World} {g : Nat} {p : Pr} (h : w.heap[g]? = some (.cells #[.string p.f0, .string p.f1, .int .i64 p.f2.f0, .int .i64 p.f2.f1] 43 (0, 0))) : Kd.C k43 w (some ⟨g, 0, none⟩) 1 [p] := by
  have ho : w.ownsRow g 43 4 (.slice (some ⟨g, 0, none⟩) 1 1) [p].length (pairRow [p]) :=
    ⟨rfl, .inr ⟨g, 1, _, rfl, Nat.le_refl _, h, Nat.le_refl _, by decide, rfl, rfl⟩⟩
  obtain ⟨A, c, e, _, hC⟩ := Kd.R_reads (R_pair rfl ho)
  cases e
  exact hC
set_option maxHeartbeats 4000000 in
set_option maxRecDepth 100000 in
theorem pair_Add.calls (A0 : Option Addr) (c0 : Nat) (l0 : List (S43)) (a1_0 : ByteArray) (a1_1 : ByteArray) (a1_2 : Int) (a1_3 : Int) (r : List (S43)) (w : World) (hr0 : Kd.C k43 w A0 l0.length l0) (hc0 : l0.length ≤ c0) (h : pair_Add.f l0 a1_0 a1_1 a1_2 a1_3 = some r) :
    Calls Tryz.prog 35 #[.slice A0 l0.length c0, .agg #[.string a1_0, .string a1_1, .int .i64 a1_2, .int .i64 a1_3]] w fun e w' => ∃ v0_ : Value, e = .returned (v0_) ∧ Kd.R k43 43 w' w.heap.size (fun _ => True) v0_ r ∧ Below w.heap.size w w' := by
  unfold pair_Add.f at h
  split at h
  case isFalse => cases h
  case isTrue hh =>
  cases h
  obtain ⟨p, hp⟩ : ∃ p : Pr, p = ⟨a1_0, a1_1, ⟨a1_2, a1_3⟩⟩ := ⟨_, rfl⟩
  rw [← hp] at hh ⊢
  obtain rfl : p.f0 = a1_0 := by rw [hp]
  obtain rfl : p.f1 = a1_1 := by rw [hp]
  obtain rfl : p.f2.f0 = a1_2 := by rw [hp]
  obtain rfl : p.f2.f1 = a1_3 := by rw [hp]
  clear hp
  have hlen := smallP_len hh.1
  have hl64 : l0.length < 4611686018427387904 := by omega
  have hall := smallP_all hh.1
  have hkp := okB_iff.1 hh.2
  have HMAY := Aside0.mk (fun (W : World) (hb : Below w.heap.size w W) => pair_May.calls (l0.length + 6) A0 c0 l0 (mayP l0) W (Kd.C_below hr0 hb) hc0 (mayP_f _ l0 (by omega) hl64 hall))
  have HMAY1 := Aside0.mk (fun (W : World) (g : Nat) (hW : W.heap[g]? = some (.cells #[.string p.f0, .string p.f1, .int .i64 p.f2.f0, .int .i64 p.f2.f1] 43 (0, 0))) => pair_May.calls 7 (some ⟨g, 0, none⟩) 1 [p] (mayP [p]) W (C_one hW) (Nat.le_refl _) (mayP_f _ [p] (show 1 + 5 < 7 by decide) (show 1 < 4611686018427387904 by decide) (fun x hx => by rw [List.mem_singleton.1 hx]; exact hkp)))
  have HR := Aside0.mk hr0
  have HS := Aside0.mk hall
  have hlm : l0.length < maxLen := by unfold maxLen; omega
  have HOF := Aside0.mk (fun (W : World) (hb : Below w.heap.size w W) => of_calls A0 c0 l0 W (Kd.C_below hr0 hb) hlm hall)
  clear hr0 hh hall
  have hu := Tryz.underlying43
  have hum := Tryz.underlying104
  go_enter Tryz.func35, Tryz.ntmps35
  go_wp2_with fail
  have hbx := blk_new w (.cells #[.string p.f0, .string p.f1, .int .i64 p.f2.f0, .int .i64 p.f2.f1] 43)
  refine (HMAY.out _ (below_alloc (Below.refl _ _) _)).mono ?_
  rintro e w1 ⟨rfl, hb1⟩
  have HB1 := Aside0.mk (below_step (below_alloc (Below.refl _ _) _) hb1)
  have hbx1 := blk_below hbx hb1
  clear hb1 HMAY hbx
  cases hm : mayP l0 with
  | false =>
    have HI := Aside0.mk (show addP l0 p = [] by simp [addP, hm])
    clear hm
    go_wp2
    go_ret
    exact ⟨_, rfl, by rw [HI.out]; exact Kd.R_nil _ _ _ _ _, HB1.out⟩
  | true =>
    have c0 := (blk_cell hbx1 0).trans rfl
    have c1 := (blk_cell hbx1 1).trans rfl
    have c2 := (blk_cell hbx1 2).trans rfl
    have c3 := (blk_cell hbx1 3).trans rfl
    have HX1 := Aside0.mk hbx1
    clear hbx1
    go_wp2_with fail
    refine (HMAY1.out _ _ (blk_new _ _)).mono ?_
    rintro e w2 ⟨rfl, hb2⟩
    have HB2 := Aside0.mk (below_step (below_alloc HB1.out _) hb2)
    have hbx2 := blk_below (blk_alloc HX1.out _) hb2
    clear hb2 HMAY1 HX1 HB1 c0 c1 c2 c3
    cases hm1 : mayP [p] with
    | false =>
      have HI := Aside0.mk (show addP l0 p = [] by simp [addP, hm1])
      clear hm hm1
      go_wp2
      go_ret
      exact ⟨_, rfl, by rw [HI.out]; exact Kd.R_nil _ _ _ _ _, HB2.out⟩
    | true =>
      have HI := Aside0.mk (show addP l0 p = setP (l0 ++ [p]) by simp [addP, hm, hm1])
      clear hm hm1
      go_wp2_with fail
      refine (HOF.out _ HB2.out).mono ?_
      rintro e w3 ⟨gb, rfl, hgb, ho3, hb3⟩
      have HB3 := Aside0.mk (below_step HB2.out hb3)
      have hbx3 := blk_below hbx2 hb3
      have c0 := (blk_cell hbx3 0).trans rfl
      have c1 := (blk_cell hbx3 1).trans rfl
      have c2 := (blk_cell hbx3 2).trans rfl
      have c3 := (blk_cell hbx3 3).trans rfl
      have hsz2 := HB2.out.size
      obtain ⟨st, w4, w5, c, r1, r2, r3, r5, ho5, hg5⟩ := incQ_at ho3.drew (ofQ_up l0) hlm p hkp
      rw [← ofQ_snoc] at ho5
      have HB5 := Aside0.mk ((below_drew HB3.out).grown hg5 (by have := HB3.out.size; simpa using this) (fun j hj => by simp at hj; omega))
      have hlenI : (ofQ (l0 ++ [p])).length * 64 ≤ 140737488355328 := Nat.le_trans (Nat.mul_le_mul_right 64 (ofQ_len _)) (by simp; omega)
      have HL := Aside0.mk (plist_calls gb _ (ofQ (l0 ++ [p])) w5 ho5 (ofQ_up _) (fun q hq => by
        have := ofQ_keys _ q hq
        rcases List.mem_append.1 this with h | h
        · exact HS.out _ h
        · rw [List.mem_singleton.1 h]; exact hkp) hlenI)
      clear HB2 HB3 HOF ho3 hb3 hbx2 hbx3 ho5 hg5
      go_wp2_with fail
      go_region
      all_goals
        go_wp2_with fail
        refine HL.out.mono ?_
        rintro e w6 ⟨v, rfl, ho6, hb6⟩
        obtain ⟨A', c', rfl⟩ := own_slice ho6
        have HO6 := Aside0.mk (own_lower2 ho6 HB5.out.size)
        have HB6 := Aside0.mk (below_step HB5.out hb6)
        clear ho6 hb6 HL HB5
        go_wp2
        go_ret
        exact ⟨_, rfl, by rw [HI.out]; exact R_pair (by unfold setP; rw [sortP_length, List.length_map]) HO6.out, HB6.out⟩
end Go.Proofs.YtmcddoolniaehaaGreat.S
end
section
namespace Go.Proofs.YtmcddoolniaehaaGreat.S
open Go.RowKit Go.Proofs.YtmcddoolniaehaaGreatW.PrintWords Go.Proofs.YtmcddoolniaehaaGreatW.PrintLast Go.Proofs.YtmcddoolniaehaaGreatW.PrintMore Go.Proofs.YtmcddoolniaehaaGreatW
set_option linter.unusedVariables false
set_option linter.unusedSimpArgs false
set_option maxHeartbeats 1000000 in
set_option maxRecDepth 100000 in
theorem pair_clone (A0 : Option Addr) (c0 : Nat) (l0 : List Pr) (w : World) (hr0 : Kd.C k43 w A0 l0.length l0) (hlim : l0.length * 48 ≤ 140737488355328) :
    Calls Tryz.prog 79 #[.slice A0 l0.length c0] w fun e w' => ∃ v, e = .returned v ∧ w'.ownsRow w.heap.size 43 4 v l0.length (pairRow l0) ∧ Below w.heap.size w w' := by
  have hnil := fun (W : World) (a : Option Addr) (n c : Nat) => Lib.run_eql_slice_nil (P := Tryz.prog) W 24 43 a n c 0 0 Tryz.underlying24
  rcases A0 with _ | a
  · have h0 : l0.length = 0 := by
      rcases Nat.eq_zero_or_pos l0.length with h | h
      · exact h
      · obtain ⟨ad, h', _⟩ := hr0.2.2 h
        cases h'
    obtain rfl := List.eq_nil_of_length_eq_zero h0
    clear hr0
    go_enter Tryz.func79, Tryz.ntmps79
    go_wp2
    go_ret
    exact ⟨_, rfl, own_nil _ _ _ _, Below.refl _ _⟩
  · obtain ⟨i0, hi, hz0, hz1, hz2⟩ := info_parts info43
    have hemp : (w.alloc (.cells #[] 43)).ownsRow w.heap.size 43 4 (.slice (some ⟨w.heap.size, 0, none⟩) 0 0) 0 [] := by
      have h := World.ownsRow_lit (base := w.heap.size) (e := 43) (size := 4) w #[] 0 (Nat.le_refl _) (Nat.zero_le _) (by simp)
      simpa using h
    have hnews := C_news (d := k43) (enc := pairCells) pairCells_lengthK (fun h => k43_open h) (Kd.C_below hr0 (below_alloc (Below.refl w.heap.size w) (.cells #[] 43)))
    obtain ⟨v', w', hr, ho, hg, _, hat⟩ := run_append_own_at (P := Tryz.prog) (w := w.alloc (.cells #[] 43)) w.heap.size 24 24 43 i0 _ 4 48 Tryz.underlying24 hi hz0 hz1 hz2 (by rfl) (by omega) _ 0 [] hemp a l0.length c0 (pairRow l0)
      (flat_length (enc := pairCells) (sz := 4) (fun _ => rfl) l0) hnews (flat_one pairCells_one l0) (by unfold maxLen; omega) (by omega) (by simp)
    have HO := Aside0.mk ho
    have HB := Aside0.mk ((below_alloc (Below.refl w.heap.size w) (.cells #[] 43)).grown hg (by simp) (own_base hemp))
    clear hr0 ho hg hat hemp hnews hi hz0 hz1 hz2
    go_enter Tryz.func79, Tryz.ntmps79
    go_wp2_with (at_builtin; refine Lib.wpList_append_run _ rfl _ _ _ _ rfl _ _ rfl rfl _ _ hr ?_)
    go_ret
    exact ⟨_, rfl, by simpa using HO.out, HB.out⟩
def firstQ (p : Pr → Bool) : Nat → List Pr → Int
  | _, [] => -1
  | k, x :: l => if p x then (k : Int) else firstQ p (k + 1) l
theorem firstQ_drop (p : Pr → Bool) (l : List Pr) : ∀ (k : Nat), k ≤ l.length → (∀ j, j < k → ∀ h : j < l.length, p l[j] = false) → firstQ p k (l.drop k) = firstQ p 0 l := by
  intro k
  induction k with
  | zero => intro _ _; rfl
  | succ k ih =>
    intro hk hp
    rw [← ih (by omega) (fun j hj h => hp j (by omega) h)]
    rw [List.drop_eq_getElem_cons (show k < l.length by omega)]
    simp [firstQ, hp k (by omega) (by omega)]
theorem firstQ_none (p : Pr → Bool) : ∀ (l : List Pr) (k : Nat), (∀ x ∈ l, p x = false) → firstQ p k l = -1
  | [], _, _ => rfl
  | x :: l, k, h => by
    unfold firstQ
    rw [if_neg (by simp [h x List.mem_cons_self])]
    exact firstQ_none p l (k + 1) (fun y hy => h y (List.mem_cons_of_mem _ hy))
theorem firstQ_cases (p : Pr → Bool) : ∀ (l : List Pr) (k : Nat), (firstQ p k l = -1 ∧ ∀ x ∈ l, p x = false) ∨ ∃ j, ∃ h : j < l.length, firstQ p k l = ((k + j : Nat) : Int) ∧ p l[j] = true ∧ ∀ i, i < j → ∀ h : i < l.length, p l[i] = false
  | [], k => .inl ⟨rfl, fun x hx => by cases hx⟩
  | x :: l, k => by
    cases hx : p x with
    | true => exact .inr ⟨0, by simp, by simp [firstQ, hx], by simpa using hx, fun i hi => by omega⟩
    | false =>
      have e : firstQ p k (x :: l) = firstQ p (k + 1) l := by simp [firstQ, hx]
      rcases firstQ_cases p l (k + 1) with ⟨h1, h2⟩ | ⟨j, hj, h1, h2, h3⟩
      · exact .inl ⟨by rw [e, h1], fun y hy => by
          rcases List.mem_cons.1 hy with rfl | hy
          · exact hx
          · exact h2 y hy⟩
      · refine .inr ⟨j + 1, by simpa using hj, by rw [e, h1]; congr 1; omega, by simpa using h2, fun i hi h => ?_⟩
        cases i with
        | zero => simpa using hx
        | succ i => simpa using h3 i (by omega) (by simpa using h)
def goneB (key elem : ByteArray) (x : Pr) : Bool := (x.f0.toList == key.toList) && (x.f1.toList == elem.toList)
set_option maxRecDepth 100000 in
theorem del_clo (key elem : ByteArray) (BK BE : Nat) (w : World) (hK : w.heap[BK]? = some (.cells #[.string key] 9 (0, 0))) (hE : w.heap[BE]? = some (.cells #[.string elem] 9 (0, 0))) (x : Pr) :
    Calls Tryz.prog 87 #[.agg #[.string x.f0, .string x.f1, .int .i64 x.f2.f0, .int .i64 x.f2.f1], .pointer (some ⟨BK, 0, none⟩), .pointer (some ⟨BE, 0, none⟩)] w fun e w' => e = .returned (.bool (goneB key elem x)) ∧ Below w.heap.size w w' := by
  have hk := blk_lt hK
  have he := blk_lt hE
  have hneK : BK ≠ w.heap.size := by omega
  have hneE : BE ≠ w.heap.size := by omega
  have c1 : w.cell? ⟨BK, 0, none⟩ = some (.string key) := blk_cell hK 0
  have c2 : w.cell? ⟨BE, 0, none⟩ = some (.string elem) := blk_cell hE 0
  have HB := Aside0.mk (below_alloc (Below.refl w.heap.size w) (.cells #[.string x.f0, .string x.f1, .int .i64 x.f2.f0, .int .i64 x.f2.f1] 43))
  have HG := Aside0.mk (show goneB key elem x = ((x.f0.toList == key.toList) && (x.f1.toList == elem.toList)) from rfl)
  clear hK hE
  cases h1 : (x.f0.toList == key.toList) with
  | false =>
    rw [h1] at HG
    go_enter Tryz.func87, Tryz.ntmps87
    go_wp2
    go_ret
    exact ⟨by rw [HG.out]; rfl, HB.out⟩
  | true =>
    rw [h1] at HG
    go_enter Tryz.func87, Tryz.ntmps87
    go_wp2
    go_ret
    exact ⟨by rw [HG.out]; rfl, HB.out⟩
set_option maxHeartbeats 1000000 in
set_option maxRecDepth 100000 in
theorem del_idx (key elem : ByteArray) (BK BE : Nat) (w : World) (hK : w.heap[BK]? = some (.cells #[.string key] 9 (0, 0))) (hE : w.heap[BE]? = some (.cells #[.string elem] 9 (0, 0))) (A0 : Option Addr) (c0 : Nat) (l0 : List Pr) (hr0 : Kd.C k43 w A0 l0.length l0) :
    Calls Tryz.prog 116 #[.slice A0 l0.length c0, .func (.func 87) #[] #[.pointer (some ⟨BK, 0, none⟩), .pointer (some ⟨BE, 0, none⟩)]] w fun e w' => e = .returned (.int .i64 (firstQ (goneB key elem) 0 l0)) ∧ Below w.heap.size w w' := by
  have HR := Aside0.mk hr0
  have HL := Aside0.mk hr0.2.1
  have HK := Aside0.mk hK
  have HE := Aside0.mk hE
  clear hr0 hK hE
  go_enter Tryz.func116, Tryz.ntmps116
  go_wp2
  go_loopw [8] (fun i wr => ∃ k : Nat, k ≤ l0.length ∧ i = .int .i64 k ∧ Aside0 (∀ j, j < k → ∀ h : j < l0.length, goneB key elem l0[j] = false) ∧ Aside0 (Below w.heap.size w wr)) (fun i _ => l0.length - (intOf i).toNat)
  case atStart => exact ⟨0, Nat.zero_le _, rfl, ⟨fun j hj => by omega⟩, ⟨Below.refl _ _⟩⟩
  case round =>
    obtain ⟨k, hk, rfl, ha, HB⟩ := hrel
    by_cases hlt : k < l0.length
    · obtain ⟨ad, e, hx0, hx1, hx2, hx3⟩ := at_T43 HR.out k (by omega) (by omega)
      cases e
      replace hx0 := (HB.out.cell (World.block_lt_of_cell? w _ hx0)).trans hx0
      replace hx1 := (HB.out.cell (World.block_lt_of_cell? w _ hx1)).trans hx1
      replace hx2 := (HB.out.cell (World.block_lt_of_cell? w _ hx2)).trans hx2
      replace hx3 := (HB.out.cell (World.block_lt_of_cell? w _ hx3)).trans hx3
      simp only [Int.toNat_natCast] at hx0 hx1 hx2 hx3
      have HX := Aside0.mk (rdP_at l0 k hlt)
      have h63 := HL.out
      have HCL := Aside0.mk (del_clo key elem BK BE wr (blk_below HK.out HB.out) (blk_below HE.out HB.out) (rd_T43 l0 k))
      cases hq : goneB key elem (rd_T43 l0 k) with
      | true =>
        have HF := Aside0.mk (show firstQ (goneB key elem) 0 l0 = (k : Int) by
          rw [← firstQ_drop (goneB key elem) l0 k hk ha.out, List.drop_eq_getElem_cons hlt]
          rw [HX.out] at hq
          simp [firstQ, hq])
        rw [hq] at HCL
        clear hq
        go_wp2_with fail
        refine HCL.out.mono ?_
        rintro e w' ⟨rfl, hb⟩
        have HB' := Aside0.mk (below_step HB.out hb)
        clear hx0 hx1 hx2 hx3 HB hb HCL
        go_wp2
        go_ret
        exact ⟨by rw [HF.out]; rfl, HB'.out⟩
      | false =>
        have HF := Aside0.mk (show ∀ j, j < k + 1 → ∀ h : j < l0.length, goneB key elem l0[j] = false by
          intro j hj h
          rcases Nat.lt_or_ge j k with q | q
          · exact ha.out j q h
          · obtain rfl : j = k := by omega
            rw [← HX.out]; exact hq)
        rw [hq] at HCL
        clear hq
        go_wp2_with fail
        refine HCL.out.mono ?_
        rintro e w' ⟨rfl, hb⟩
        have HB' := Aside0.mk (below_step HB.out hb)
        clear hx0 hx1 hx2 hx3 HB hb HCL ha
        go_wp2
        go_roundw
        case rel => exact ⟨k + 1, by omega, by go_num, HF, HB'⟩
        case measure => simp [intOf]; omega
    · have HF := Aside0.mk (show firstQ (goneB key elem) 0 l0 = -1 by
        obtain rfl : k = l0.length := by omega
        rw [← firstQ_drop (goneB key elem) l0 _ (Nat.le_refl _) ha.out, List.drop_length]; rfl)
      go_wp2
      go_ret
      exact ⟨by rw [HF.out]; rfl, HB.out⟩
end Go.Proofs.YtmcddoolniaehaaGreat.S
end
section
namespace Go.Proofs.YtmcddoolniaehaaGreat.S
open Go.RowKit Go.Proofs.YtmcddoolniaehaaGreatW.PrintWords Go.Proofs.YtmcddoolniaehaaGreatW.PrintLast Go.Proofs.YtmcddoolniaehaaGreatW.PrintMore Go.Proofs.YtmcddoolniaehaaGreatW
set_option linter.unusedVariables false
set_option linter.unusedSimpArgs false

def cmpS (a b : ByteArray) : Int := if Op.bytesLess a.toList b.toList then -1 else if Op.bytesLess b.toList a.toList then 1 else 0
theorem cmpS_f (a b : ByteArray) : cmp_Compare_string.f a b = some (cmpS a b) := by
  simp only [cmp_Compare_string.f, cmp_isNaN_string.f, Option.bind_some, bne_self_eq_false, Bool.false_eq_true, if_false, cmpS]
  split
  · rfl
  · split <;> rfl
def RegUp (l : List S47) : Prop := ∀ a b, a < b → b < l.length → Op.bytesLess (rd_T47 l a).f0.toList (rd_T47 l b).f0.toList = true
def regPos (key : ByteArray) : List S47 → Nat
  | [] => 0
  | x :: l => if Op.bytesLess x.f0.toList key.toList then regPos key l + 1 else 0
theorem regPos_le (key : ByteArray) : ∀ l, regPos key l ≤ l.length
  | [] => Nat.le_refl _
  | x :: l => by unfold regPos; have := regPos_le key l; split <;> simp; exact this
theorem rd_cons_succ (x : S47) (l : List S47) (k : Nat) : rd_T47 (x :: l) ((k + 1 : Nat) : Int) = rd_T47 l (k : Int) := by
  unfold rd_T47
  rw [Int.toNat_natCast, Int.toNat_natCast]
  rfl
theorem rd_cons_zero (x : S47) (l : List S47) : rd_T47 (x :: l) ((0 : Nat) : Int) = x := rfl
theorem regPos_of (key : ByteArray) : ∀ (l : List S47) (n : Nat), n ≤ l.length → (∀ k, k < n → Op.bytesLess (rd_T47 l (k : Nat)).f0.toList key.toList = true) → (n < l.length → Op.bytesLess (rd_T47 l (n : Nat)).f0.toList key.toList = false) → regPos key l = n
  | [], n, h, _, _ => by simp at h; subst h; rfl
  | x :: l, 0, _, _, h => by
    have := h (by simp)
    rw [rd_cons_zero] at this
    simp [regPos, this]
  | x :: l, n + 1, hn, h1, h2 => by
    have h0 := h1 0 (by omega)
    rw [rd_cons_zero] at h0
    simp only [regPos, h0, if_true]
    rw [regPos_of key l n (by simpa using hn) (fun k hk => by have := h1 (k + 1) (by omega); rwa [rd_cons_succ] at this) (fun h => by have := h2 (by simpa using h); rwa [rd_cons_succ] at this)]

theorem reg_cmp (x : S47) (key : ByteArray) (w : World) :
    Calls Tryz.prog 133 #[.agg #[.string x.f0, .string x.f1, .int .i64 x.f2, .int .i64 x.f3.f0, .int .i64 x.f3.f1], .string key] w fun e w' => e = .returned (.int .i64 (cmpS x.f0 key)) ∧ Below w.heap.size w w' := by
  have HB := Aside0.mk (below_alloc (Below.refl w.heap.size w) (.cells #[.string x.f0, .string x.f1, .int .i64 x.f2, .int .i64 x.f3.f0, .int .i64 x.f3.f1] 47))
  have HC := fun W => cmp_Compare_string.calls x.f0 key (cmpS x.f0 key) W (cmpS_f _ _)
  generalize cmpS x.f0 key = r at HC
  go_enter Tryz.func133, Tryz.ntmps133
  go_wp2_with (go_at_call 128; refine (HC _).mono ?_; rintro e w' ⟨rfl, ⟨m, rfl⟩⟩)
  go_ret
  exact ⟨rfl, pw_below_drewN HB.out m⟩

def regIs (key : ByteArray) (l : List S47) : Bool := decide (regPos key l < l.length) && decide (cmpS (rd_T47 l (regPos key l : Nat)).f0 key = 0)
theorem cmpS_neg {a b : ByteArray} : cmpS a b < 0 ↔ Op.bytesLess a.toList b.toList = true := by
  unfold cmpS; split
  · simp [*]
  · split <;> simp [*]
set_option maxHeartbeats 4000000 in
set_option maxRecDepth 100000 in
theorem reg_bs (key : ByteArray) (A0 : Option Addr) (c0 : Nat) (l0 : List S47) (w : World) (hr0 : Kd.C k47 w A0 l0.length l0) (hup : RegUp l0) (hlim : l0.length < 4611686018427387904) :
    Calls Tryz.prog 132 #[.slice A0 l0.length c0, .string key, .func (.func 133) #[] #[]] w fun e w' => e = .returned (.tuple #[.int .i64 (regPos key l0), .bool (regIs key l0)]) ∧ Below w.heap.size w w' := by
  have HR := Aside0.mk hr0
  have HU := Aside0.mk hup
  clear hr0 hup
  have HC := Aside0.mk (fun (W : World) (i : Nat) => reg_cmp (rd_T47 l0 i) key W)
  generalize hcnt : regPos key l0 = cnt
  have CN := Aside0.mk hcnt
  have FIN := Aside0.mk (show regIs key l0 = (decide (cnt < l0.length) && decide (cmpS (rd_T47 l0 (cnt : Nat)).f0 key = 0)) by unfold regIs; rw [hcnt])
  clear hcnt
  generalize regIs key l0 = fin at FIN
  go_enter Tryz.func132, Tryz.ntmps132
  go_wp2
  go_loopg [9, 10] l0.length (fun kx s9 s10 wr => ∃ lo hi : Nat, s9 = .int .i64 lo ∧ s10 = .int .i64 hi ∧ lo ≤ hi ∧ hi ≤ l0.length ∧ hi - lo ≤ kx ∧ Aside0 (Below w.heap.size w wr) ∧
    Aside0 ((∀ t, t < lo → Op.bytesLess (rd_T47 l0 (t : Nat)).f0.toList key.toList = true) ∧ (∀ t, hi ≤ t → t < l0.length → Op.bytesLess (rd_T47 l0 (t : Nat)).f0.toList key.toList = false)))
  case atStart => exact ⟨0, l0.length, rfl, rfl, Nat.zero_le _, Nat.le_refl _, by omega, ⟨Below.refl _ _⟩, ⟨⟨fun t ht => absurd ht (Nat.not_lt_zero _), fun t h1 h2 => by omega⟩⟩⟩
  case round =>
    obtain ⟨lo, hi, rfl, rfl, hlh, hin, hgx, HB, I⟩ := hrel
    by_cases hlt : lo < hi
    · obtain ⟨ad, e, hx0, hx1, hx2, hx3, hx4⟩ := at_T47 HR.out (((lo + hi) / 2 : Nat) : Int) (by omega) (by omega)
      cases e
      replace hx0 := (HB.out.cell (World.block_lt_of_cell? w _ hx0)).trans hx0
      replace hx1 := (HB.out.cell (World.block_lt_of_cell? w _ hx1)).trans hx1
      replace hx2 := (HB.out.cell (World.block_lt_of_cell? w _ hx2)).trans hx2
      replace hx3 := (HB.out.cell (World.block_lt_of_cell? w _ hx3)).trans hx3
      replace hx4 := (HB.out.cell (World.block_lt_of_cell? w _ hx4)).trans hx4
      rw [Int.toNat_natCast] at hx0 hx1 hx2 hx3 hx4
      have hc := HC.out wr ((lo + hi) / 2)
      have HY := Aside0.mk (show rd_T47 l0 (((lo + hi) / 2 : Nat) : Int) = rd_T47 l0 (((lo + hi) / 2 : Nat) : Int) from rfl)
      generalize hy : rd_T47 l0 (((lo + hi) / 2 : Nat) : Int) = y at hx0 hx1 hx2 hx3 hx4 hc HY
      have Y := Aside0.mk hy
      clear hy HY
      have HCC := Aside0.mk hc
      clear hc
      by_cases hyx : cmpS y.f0 key < 0
      · have HP := Aside0.mk (cmpS_neg.1 hyx)
        go_wp2_with (go_at_call 133; refine HCC.out.mono ?_; rintro e w' ⟨rfl, hb⟩)
        go_roundg (hi - ((lo + hi) / 2 + 1))
        case measure => omega
        case rel =>
          refine ⟨(lo + hi) / 2 + 1, hi, by rw [show ((lo : Int) + (hi : Int)) / 2 + 1 = (((lo + hi) / 2 + 1 : Nat) : Int) by omega], rfl, by omega, hin, Nat.le_refl _, ⟨below_step HB.out hb⟩, ⟨⟨fun t ht => ?_, I.out.2⟩⟩⟩
          have hp := HP.out
          rw [← Y.out] at hp
          rcases Nat.lt_or_ge t ((lo + hi) / 2) with q | q
          · exact less_trans (HU.out t ((lo + hi) / 2) q (by omega)) hp
          · obtain rfl : t = (lo + hi) / 2 := by omega
            exact hp
      · have HP := Aside0.mk (show Op.bytesLess y.f0.toList key.toList = false by
          cases q : Op.bytesLess y.f0.toList key.toList with
          | false => rfl
          | true => exact absurd (cmpS_neg.2 q) hyx)
        go_wp2_with (go_at_call 133; refine HCC.out.mono ?_; rintro e w' ⟨rfl, hb⟩)
        go_roundg ((lo + hi) / 2 - lo)
        case measure => omega
        case rel =>
          refine ⟨lo, (lo + hi) / 2, rfl, by rw [show ((lo : Int) + (hi : Int)) / 2 = (((lo + hi) / 2 : Nat) : Int) by omega], by omega, by omega, Nat.le_refl _, ⟨below_step HB.out hb⟩, ⟨⟨I.out.1, fun t ht htn => ?_⟩⟩⟩
          have hp := HP.out
          rw [← Y.out] at hp
          rcases Nat.lt_or_ge ((lo + hi) / 2) t with q | q
          · cases q2 : Op.bytesLess (rd_T47 l0 (t : Nat)).f0.toList key.toList with
            | false => rfl
            | true => have := less_trans (HU.out ((lo + hi) / 2) t q htn) q2; rw [hp] at this; cases this
          · obtain rfl : t = (lo + hi) / 2 := by omega
            exact hp
    · obtain rfl : hi = lo := by omega
      have ecnt : hi = cnt := by
        rw [← CN.out]
        exact (regPos_of key l0 hi hin I.out.1 (fun h => I.out.2 hi (Nat.le_refl _) h)).symm
      subst ecnt
      by_cases hn : hi < l0.length
      · obtain ⟨ad, e, hx0, hx1, hx2, hx3, hx4⟩ := at_T47 HR.out (hi : Int) (by omega) (by omega)
        cases e
        replace hx0 := (HB.out.cell (World.block_lt_of_cell? w _ hx0)).trans hx0
        replace hx1 := (HB.out.cell (World.block_lt_of_cell? w _ hx1)).trans hx1
        replace hx2 := (HB.out.cell (World.block_lt_of_cell? w _ hx2)).trans hx2
        replace hx3 := (HB.out.cell (World.block_lt_of_cell? w _ hx3)).trans hx3
        replace hx4 := (HB.out.cell (World.block_lt_of_cell? w _ hx4)).trans hx4
        rw [Int.toNat_natCast] at hx0 hx1 hx2 hx3 hx4
        have hc := HC.out wr hi
        have FIN2 := Aside0.mk FIN.out
        generalize hy : rd_T47 l0 (hi : Int) = y at hx0 hx1 hx2 hx3 hx4 hc
        have Y := Aside0.mk hy
        clear hy
        have HCC := Aside0.mk hc
        clear hc
        by_cases hyx : cmpS y.f0 key = 0
        · go_wp2_with (go_at_call 133; refine HCC.out.mono ?_; rintro e w' ⟨rfl, hb⟩)
          go_ret2
          exact ⟨by rw [FIN2.out, Y.out]; simp [hn, hyx], below_step HB.out hb⟩
        · go_wp2_with (go_at_call 133; refine HCC.out.mono ?_; rintro e w' ⟨rfl, hb⟩)
          go_ret2
          exact ⟨by rw [FIN2.out, Y.out]; simp [hn, hyx], below_step HB.out hb⟩
      · go_wp2
        go_ret2
        exact ⟨by rw [FIN.out]; simp [hn], HB.out⟩
theorem reg_find (key : ByteArray) (A0 : Option Addr) (c0 : Nat) (l0 : List S47) (w : World) (hr0 : Kd.C k47 w A0 l0.length l0) (hup : RegUp l0) (hlim : l0.length < 4611686018427387904) :
    Calls Tryz.prog 122 #[.slice A0 l0.length c0, .string key] w fun e w' => e = .returned (.tuple #[.int .i64 (regPos key l0), .bool (regIs key l0)]) ∧ Below w.heap.size w w' := by
  have HC := reg_bs key A0 c0 l0 w hr0 hup hlim
  have H := Aside0.mk HC
  clear HC hr0 hup
  generalize regIs key l0 = fin at H
  generalize regPos key l0 = cnt at H
  go_enter Tryz.func122, Tryz.ntmps122
  go_wp2_with (go_at_call 132; refine H.out.mono ?_; rintro e w' ⟨rfl, hb⟩)
  go_ret2
  exact ⟨rfl, hb⟩
end Go.Proofs.YtmcddoolniaehaaGreat.S
end
