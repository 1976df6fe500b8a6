/- pair.set.has, pair.Add. By hand. -/
import Derived.Test.YtannmdngejdjkaaLHPairList
import Derived.Test.YtannmdngejdjkaaLHPairMay
namespace Go.Proofs.Ytannmdngejdjkaa.L
open Go.RowKit Go.Maps Go.Sort Go.Proofs.YtannmdngejdjkaaW.PrintWords Go.Proofs.YtannmdngejdjkaaW.PrintLast Go.Proofs.YtannmdngejdjkaaW.PrintMore Go.Proofs.YtannmdngejdjkaaW
set_option linter.unusedVariables false
set_option linter.unusedSimpArgs false
set_option maxRecDepth 100000 in
theorem has_calls (gb n : Nat) (es : MapQ) (w : World) (hown : OwnsQ w gb n es) (p : Pr) (hp : okPair p) :
    Calls Try.prog 82 #[.map (some gb), .agg #[.string p.f0, .string p.f1, .int .i64 p.f2.f0, .int .i64 p.f2.f1]] w fun e w' => e = .returned (.bool (decide (0 < getQ es p))) ∧ Below w.heap.size w w' := by
  have HK := Aside0.mk (keyOf_pair p hp)
  have HO := Aside0.mk hown
  have HB := Aside0.mk (Below.refl w.heap.size w)
  clear hown hp
  go_enter Try.func82, Try.ntmps82
  go_wp2_with (first
    | (at_lookup; refine wpList_lookup_own_int _ rfl _ _ 85 rfl 57 3 .i64 lawP Try.underlying85 Try.underlying3 (zeroQ _) gb _ _ rfl (HO.out.alloc _) _ _ rfl HK.out ?_; intro c hat hwc; have HC := Aside0.mk hat; clear hat hwc))
  have h2 := HC.out
  rw [at_datQ] at h2
  injection h2 with h2
  injection h2 with _ h2
  subst h2
  go_ret
  exact ⟨rfl, below_alloc HB.out _⟩
theorem own_lower2 {w : World} {base base' : Nat} {e : TypeId} {size n : Nat} {v : Value} {xs : List Value} (h : w.ownsRow base e size v n xs) (hb : base' ≤ base) : w.ownsRow base' e size v n xs := by
  obtain ⟨h1, h2⟩ := h
  refine ⟨h1, ?_⟩
  rcases h2 with h2 | ⟨g, cap, cur, rfl, hg, hh, r⟩
  · exact .inl h2
  · exact .inr ⟨g, cap, cur, rfl, Nat.le_trans hb hg, hh, r⟩
theorem pairCells_lengthK (p : Pr) : (pairCells p).length = k57.sz := rfl
theorem R_pair {w : World} {base n : Nat} {v : Value} {xs : List Pr} (hn : n = xs.length) (h : w.ownsRow base 57 4 v n (pairRow xs)) : k57.R 57 w base (fun _ => True) v xs := by
  subst hn
  exact R_of_cells (d := k57) (enc := pairCells) pairCells_lengthK (fun w base ok x => k57_mkM w base ok x) h (fun _ _ => trivial)
/-- a list's pairs, in order, each once -/
def setP (l : List Pr) : List Pr := sortP ((ofQ l).map Prod.fst)
def okB (p : Pr) : Bool := decide (p.f0.size ≤ maxLen) && (decide (p.f1.size ≤ maxLen) && ((decide (-9223372036854775808 ≤ p.f2.f0) && decide (p.f2.f0 ≤ 9223372036854775807)) && (decide (-9223372036854775808 ≤ p.f2.f1) && decide (p.f2.f1 ≤ 9223372036854775807))))
theorem okB_iff {p : Pr} : okB p = true ↔ okPair p := by
  unfold okB okPair okT okI
  simp only [Bool.and_eq_true, decide_eq_true_eq]
def smallP (l : List Pr) : Bool := decide ((l.length + 1) * 256 ≤ 140737488351232) && l.all okB
theorem smallP_len {l : List Pr} (h : smallP l = true) : (l.length + 1) * 256 ≤ 140737488351232 := by
  unfold smallP at h; simp at h; exact h.1
theorem smallP_all {l : List Pr} (h : smallP l = true) : ∀ x ∈ l, okPair x := by
  unfold smallP at h
  simp only [Bool.and_eq_true, List.all_eq_true] at h
  exact fun x hx => okB_iff.1 (h.2 x hx)
theorem ofQ_keys (l : List Pr) : ∀ p ∈ ofQ l, p.1 ∈ l := by
  have : ∀ (l : List Pr) (es : MapQ) (S : Pr → Prop), (∀ p ∈ es, S p.1) → (∀ x ∈ l, S x) → ∀ p ∈ l.foldl incQ es, S p.1 := by
    intro l
    induction l with
    | nil => intro es S h _; exact h
    | cons x l ih =>
      intro es S h hl
      refine ih _ S (fun p hp => ?_) (fun y hy => hl y (List.mem_cons_of_mem _ hy))
      rcases setQ_mem hp with rfl | hp
      · exact hl x List.mem_cons_self
      · exact h p hp
  exact this l [] (· ∈ l) (fun p hp => by cases hp) (fun x hx => hx)
theorem setQ_len (es : MapQ) (k : Pr) (n : Int) : (setQ es k n).length ≤ es.length + 1 := by
  induction es with
  | nil => simp [setQ]
  | cons y l ih =>
    unfold setQ
    split
    · simp; exact ih
    · split <;> simp
theorem ofQ_len (l : List Pr) : (ofQ l).length ≤ l.length := by
  have : ∀ (l : List Pr) (es : MapQ), (l.foldl incQ es).length ≤ es.length + l.length := by
    intro l
    induction l with
    | nil => intro es; simp
    | cons x l ih =>
      intro es
      have h1 := ih (incQ es x)
      have h2 := setQ_len es x (wrap64 (getQ es x + 1))
      unfold incQ at h1
      show (l.foldl incQ (incQ es x)).length ≤ _
      unfold incQ at *
      simp only [List.length_cons]
      omega
  have h := this l []
  simp only [List.length_nil, Nat.zero_add] at h
  exact h
theorem ofQ_snoc (l : List Pr) (p : Pr) : ofQ (l ++ [p]) = incQ (ofQ l) p := by
  unfold ofQ
  rw [List.foldl_append]; rfl
def addP (l : List Pr) (p : Pr) : List Pr := if mayP l && mayP [p] then setP (l ++ [p]) else []
def pair_Add.f (l0 : List (S57)) (a1_0 : ByteArray) (a1_1 : ByteArray) (a1_2 : Int) (a1_3 : Int) : Option ((List (S57))) :=
  if smallP l0 = true ∧ okB ⟨a1_0, a1_1, ⟨a1_2, a1_3⟩⟩ = true then some (addP l0 ⟨a1_0, a1_1, ⟨a1_2, a1_3⟩⟩) else none
theorem C_one {w : World} {g : Nat} {p : Pr} (h : w.heap[g]? = some (.cells #[.string p.f0, .string p.f1, .int .i64 p.f2.f0, .int .i64 p.f2.f1] 57 (0, 0))) : Kd.C k57 w (some ⟨g, 0, none⟩) 1 [p] := by
  have ho : w.ownsRow g 57 4 (.slice (some ⟨g, 0, none⟩) 1 1) [p].length (pairRow [p]) :=
    ⟨rfl, .inr ⟨g, 1, _, rfl, Nat.le_refl _, h, Nat.le_refl _, by decide, rfl, rfl⟩⟩
  obtain ⟨A, c, e, _, hC⟩ := Kd.R_reads (R_pair rfl ho)
  cases e
  exact hC
set_option maxHeartbeats 4000000 in
set_option maxRecDepth 100000 in
theorem pair_Add.calls (A0 : Option Addr) (c0 : Nat) (l0 : List (S57)) (a1_0 : ByteArray) (a1_1 : ByteArray) (a1_2 : Int) (a1_3 : Int) (r : List (S57)) (w : World) (hr0 : Kd.C k57 w A0 l0.length l0) (hc0 : l0.length ≤ c0) (h : pair_Add.f l0 a1_0 a1_1 a1_2 a1_3 = some r) :
    Calls Try.prog 49 #[.slice A0 l0.length c0, .agg #[.string a1_0, .string a1_1, .int .i64 a1_2, .int .i64 a1_3]] w fun e w' => ∃ v0_ : Value, e = .returned (v0_) ∧ Kd.R k57 57 w' w.heap.size (fun _ => True) v0_ r ∧ Below w.heap.size w w' := by
  unfold pair_Add.f at h
  split at h
  case isFalse => cases h
  case isTrue hh =>
  cases h
  obtain ⟨p, hp⟩ : ∃ p : Pr, p = ⟨a1_0, a1_1, ⟨a1_2, a1_3⟩⟩ := ⟨_, rfl⟩
  rw [← hp] at hh ⊢
  obtain rfl : p.f0 = a1_0 := by rw [hp]
  obtain rfl : p.f1 = a1_1 := by rw [hp]
  obtain rfl : p.f2.f0 = a1_2 := by rw [hp]
  obtain rfl : p.f2.f1 = a1_3 := by rw [hp]
  clear hp
  have hlen := smallP_len hh.1
  have hl64 : l0.length < 4611686018427387904 := by omega
  have hall := smallP_all hh.1
  have hkp := okB_iff.1 hh.2
  have HMAY := Aside0.mk (fun (W : World) (hb : Below w.heap.size w W) => pair_May.calls (l0.length + 6) A0 c0 l0 (mayP l0) W (Kd.C_below hr0 hb) hc0 (mayP_f _ l0 (by omega) hl64 hall))
  have HMAY1 := Aside0.mk (fun (W : World) (g : Nat) (hW : W.heap[g]? = some (.cells #[.string p.f0, .string p.f1, .int .i64 p.f2.f0, .int .i64 p.f2.f1] 57 (0, 0))) => pair_May.calls 7 (some ⟨g, 0, none⟩) 1 [p] (mayP [p]) W (C_one hW) (Nat.le_refl _) (mayP_f _ [p] (show 1 + 5 < 7 by decide) (show 1 < 4611686018427387904 by decide) (fun x hx => by rw [List.mem_singleton.1 hx]; exact hkp)))
  have HR := Aside0.mk hr0
  have HS := Aside0.mk hall
  have hlm : l0.length < maxLen := by unfold maxLen; omega
  have HOF := Aside0.mk (fun (W : World) (hb : Below w.heap.size w W) => of_calls A0 c0 l0 W (Kd.C_below hr0 hb) hlm hall)
  clear hr0 hh hall
  have hu := Try.underlying57
  have hum := Try.underlying85
  go_enter Try.func49, Try.ntmps49
  go_wp2_with fail
  have hbx := blk_new w (.cells #[.string p.f0, .string p.f1, .int .i64 p.f2.f0, .int .i64 p.f2.f1] 57)
  refine (HMAY.out _ (below_alloc (Below.refl _ _) _)).mono ?_
  rintro e w1 ⟨rfl, hb1⟩
  have HB1 := Aside0.mk (below_step (below_alloc (Below.refl _ _) _) hb1)
  have hbx1 := blk_below hbx hb1
  clear hb1 HMAY hbx
  cases hm : mayP l0 with
  | false =>
    have HI := Aside0.mk (show addP l0 p = [] by simp [addP, hm])
    clear hm
    go_wp2
    go_ret
    exact ⟨_, rfl, by rw [HI.out]; exact Kd.R_nil _ _ _ _ _, HB1.out⟩
  | true =>
    have c0 := (blk_cell hbx1 0).trans rfl
    have c1 := (blk_cell hbx1 1).trans rfl
    have c2 := (blk_cell hbx1 2).trans rfl
    have c3 := (blk_cell hbx1 3).trans rfl
    have HX1 := Aside0.mk hbx1
    clear hbx1
    go_wp2_with fail
    refine (HMAY1.out _ _ (blk_new _ _)).mono ?_
    rintro e w2 ⟨rfl, hb2⟩
    have HB2 := Aside0.mk (below_step (below_alloc HB1.out _) hb2)
    have hbx2 := blk_below (blk_alloc HX1.out _) hb2
    clear hb2 HMAY1 HX1 HB1 c0 c1 c2 c3
    cases hm1 : mayP [p] with
    | false =>
      have HI := Aside0.mk (show addP l0 p = [] by simp [addP, hm1])
      clear hm hm1
      go_wp2
      go_ret
      exact ⟨_, rfl, by rw [HI.out]; exact Kd.R_nil _ _ _ _ _, HB2.out⟩
    | true =>
      have HI := Aside0.mk (show addP l0 p = setP (l0 ++ [p]) by simp [addP, hm, hm1])
      clear hm hm1
      go_wp2_with fail
      refine (HOF.out _ HB2.out).mono ?_
      rintro e w3 ⟨gb, rfl, hgb, ho3, hb3⟩
      have HB3 := Aside0.mk (below_step HB2.out hb3)
      have hbx3 := blk_below hbx2 hb3
      have c0 := (blk_cell hbx3 0).trans rfl
      have c1 := (blk_cell hbx3 1).trans rfl
      have c2 := (blk_cell hbx3 2).trans rfl
      have c3 := (blk_cell hbx3 3).trans rfl
      have hsz2 := HB2.out.size
      obtain ⟨st, w4, w5, c, r1, r2, r3, r5, ho5, hg5⟩ := incQ_at ho3.drew (ofQ_up l0) hlm p hkp
      rw [← ofQ_snoc] at ho5
      have HB5 := Aside0.mk ((below_drew HB3.out).grown hg5 (by have := HB3.out.size; simpa using this) (fun j hj => by simp at hj; omega))
      have hlenI : (ofQ (l0 ++ [p])).length * 64 ≤ 140737488355328 := Nat.le_trans (Nat.mul_le_mul_right 64 (ofQ_len _)) (by simp; omega)
      have HL := Aside0.mk (plist_calls gb _ (ofQ (l0 ++ [p])) w5 ho5 (ofQ_up _) (fun q hq => by
        have := ofQ_keys _ q hq
        rcases List.mem_append.1 this with h | h
        · exact HS.out _ h
        · rw [List.mem_singleton.1 h]; exact hkp) hlenI)
      clear HB2 HB3 HOF ho3 hb3 hbx2 hbx3 ho5 hg5
      go_wp2_with fail
      go_region
      all_goals
        go_wp2_with fail
        refine HL.out.mono ?_
        rintro e w6 ⟨v, rfl, ho6, hb6⟩
        obtain ⟨A', c', rfl⟩ := own_slice ho6
        have HO6 := Aside0.mk (own_lower2 ho6 HB5.out.size)
        have HB6 := Aside0.mk (below_step HB5.out hb6)
        clear ho6 hb6 HL HB5
        go_wp2
        go_ret
        exact ⟨_, rfl, by rw [HI.out]; exact R_pair (by unfold setP; rw [sortP_length, List.length_map]) HO6.out, HB6.out⟩
end Go.Proofs.Ytannmdngejdjkaa.L
