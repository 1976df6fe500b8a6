/- Several texts in one: LPPairLaws, LPPairFuel, LPPairElems, LPKeyP, LPPairRef, LPurePairTells. -/
import Derived.Test.YtannmdngejdjkaaLHPairAll
import Derived.Test.YtannmdngejdjkaaLx34
import Derived.Test.YtannmdngejdjkaaLx35
import Derived.Test.YtannmdngejdjkaaLx38
import Derived.Test.YtannmdngejdjkaaLx11
import Derived.Test.YtannmdngejdjkaaLx37
import Derived.Test.YtannmdngejdjkaaLx39
import Derived.Test.YtannmdngejdjkaaLx40
import Derived.Test.YtannmdngejdjkaaLx41
import Derived.Test.YtannmdngejdjkaaLx43
import Derived.Test.YtannmdngejdjkaaLx42
import Derived.Test.YtannmdngejdjkaaLHRow
import Derived.Test.YtannmdngejdjkaaLx44
section
/- Pairs: what is added, taken away and merged, as sets. Plain. -/
namespace Go.Proofs.Ytannmdngejdjkaa.L
open Go.RowKit Go.Sort Go.Proofs.YtannmdngejdjkaaW.PrintWords Go.Proofs.YtannmdngejdjkaaW.PrintLast Go.Proofs.YtannmdngejdjkaaW.PrintMore Go.Proofs.YtannmdngejdjkaaW
set_option linter.unusedVariables false
set_option linter.unusedSimpArgs false
abbrev okL (l : List Pr) : Prop := ∀ x ∈ l, okPair x
theorem getQ_fold : ∀ (l : List Pr) (es : MapQ) (B : Nat), (∀ q, 0 ≤ getQ es q ∧ getQ es q ≤ B) → B + l.length < 4611686018427387904 → okL l → ∀ p, okPair p →
    (0 < getQ (l.foldl incQ es) p ↔ (0 < getQ es p ∨ p ∈ l))
  | [], es, B, _, _, _, p, _ => by simp
  | x :: l, es, B, hB, hl, ho, p, hp => by
    have h1 : ∀ q, 0 ≤ getQ (incQ es x) q ∧ getQ (incQ es x) q ≤ (B + 1 : Nat) := by
      intro q
      unfold incQ
      rw [getQ_set]
      have := hB x
      have := hB q
      simp at hl
      split
      · unfold wrap64; omega
      · omega
    have ih := getQ_fold l (incQ es x) (B + 1) h1 (by simp at hl; omega) (fun y hy => ho y (List.mem_cons_of_mem _ hy)) p hp
    show 0 < getQ (l.foldl incQ (incQ es x)) p ↔ _
    rw [ih, List.mem_cons]
    have hx := hB x
    have e : 0 < getQ (incQ es x) p ↔ (0 < getQ es p ∨ p = x) := by
      unfold incQ
      rw [getQ_set]
      by_cases hk : kbP p = kbP x
      · have := kbP_inj hp (ho x List.mem_cons_self) hk
        rw [if_pos hk]
        simp at hl
        constructor
        · intro _; exact .inr this
        · intro _; unfold wrap64; omega
      · rw [if_neg hk]
        constructor
        · exact .inl
        · rintro (h | h)
          · exact h
          · exact absurd (by rw [h]) hk
    rw [e]
    constructor
    · rintro ((h | h) | h)
      · exact .inl h
      · exact .inr (.inl h)
      · exact .inr (.inr h)
    · rintro (h | h | h)
      · exact .inl (.inl h)
      · exact .inl (.inr h)
      · exact .inr h
theorem inP_iff {l : List Pr} (ho : okL l) (hl : l.length < 1000000) {p : Pr} (hp : okPair p) : inP l p = true ↔ p ∈ l := by
  unfold inP
  rw [decide_eq_true_eq]
  have := getQ_fold l [] 0 (fun q => by simp [getQ]) (by omega) ho p hp
  rw [show ofQ l = l.foldl incQ [] from rfl, this]
  simp [getQ]
theorem keys_mem {l : List Pr} (ho : okL l) {p : Pr} : p ∈ (ofQ l).map Prod.fst ↔ p ∈ l := by
  constructor
  · intro h
    obtain ⟨q, hq, rfl⟩ := List.mem_map.1 h
    exact ofQ_keys l q hq
  · have hset : ∀ (es : MapQ) (k : Pr) (n : Int) (q : Pr), okPair k → okPair q → q ∈ es.map Prod.fst → q ∈ (setQ es k n).map Prod.fst := by
      intro es k n q hk hq
      induction es with
      | nil => simp
      | cons y l ih =>
        intro h
        unfold setQ
        rw [List.map_cons, List.mem_cons] at h
        split
        · rw [List.map_cons, List.mem_cons]
          rcases h with h | h
          · exact .inl h
          · exact .inr (ih h)
        · split
          · rename_i he
            rw [List.map_cons, List.mem_cons]
            rcases h with h | h
            · left
              rw [← h] at he
              exact kbP_inj hq hk he
            · exact .inr h
          · rw [List.map_cons, List.mem_cons, List.map_cons, List.mem_cons]
            rcases h with h | h
            · exact .inr (.inl h)
            · exact .inr (.inr h)
    have hself : ∀ (es : MapQ) (k : Pr) (n : Int), k ∈ (setQ es k n).map Prod.fst := by
      intro es k n
      induction es with
      | nil => simp [setQ]
      | cons y l ih =>
        unfold setQ
        split
        · rw [List.map_cons, List.mem_cons]; exact .inr ih
        · split <;> simp
    have hfold : ∀ (l : List Pr) (es : MapQ), okL l → okPair p → (p ∈ es.map Prod.fst ∨ p ∈ l) → p ∈ (l.foldl incQ es).map Prod.fst := by
      intro l
      induction l with
      | nil => intro es _ _ h; rcases h with h | h; exact h; cases h
      | cons x l ih =>
        intro es ho hp h
        refine ih (incQ es x) (fun y hy => ho y (List.mem_cons_of_mem _ hy)) hp ?_
        rcases h with h | h
        · exact .inl (hset es x _ p (ho x List.mem_cons_self) hp h)
        · rcases List.mem_cons.1 h with rfl | h
          · exact .inl (hself es _ _)
          · exact .inr h
    intro h
    exact hfold l [] ho (ho p h) (.inr h)
theorem setP_mem {l : List Pr} (ho : okL l) {p : Pr} : p ∈ setP l ↔ p ∈ l := by
  unfold setP sortP
  rw [List.mem_mergeSort, keys_mem ho]
theorem setP_ok {l : List Pr} (ho : okL l) : okL (setP l) := fun x hx => ho x ((setP_mem ho).1 hx)
theorem setP_nodup (l : List Pr) : (setP l).Nodup := (List.mergeSort_perm _ _).nodup_iff.2 (keysQ_nodup (ofQ_up l))
theorem setP_up (l : List Pr) : (setP l).Pairwise pLt := by
  have h1 := sortP_pair ((ofQ l).map Prod.fst)
  have h2 : (setP l).Pairwise (· ≠ ·) := setP_nodup l
  have h3 := List.pairwise_and_iff.2 ⟨h1, h2⟩
  refine List.Pairwise.imp ?_ h3
  intro a b hab
  rcases ltP_tri a b with h | h | h
  · exact h
  · exact absurd h hab.2
  · have : ltOf cmpP b a = true := h
    have h4 := hab.1
    rw [this] at h4
    cases h4
theorem up_ext : ∀ {l l' : List Pr}, l.Pairwise pLt → l'.Pairwise pLt → (∀ x, x ∈ l ↔ x ∈ l') → l = l'
  | [], [], _, _, _ => rfl
  | [], y :: l', _, _, h => by have := (h y).2 List.mem_cons_self; cases this
  | x :: l, [], _, _, h => by have := (h x).1 List.mem_cons_self; cases this
  | x :: l, y :: l', h1, h2, h => by
    rw [List.pairwise_cons] at h1 h2
    have hxy : x = y := by
      rcases List.mem_cons.1 ((h x).1 List.mem_cons_self) with e | hx
      · exact e
      · rcases List.mem_cons.1 ((h y).2 List.mem_cons_self) with e | hy
        · exact e.symm
        · have := ltP_trans (h2.1 x hx) (h1.1 y hy)
          rw [ltP_irrefl] at this; cases this
    subst hxy
    rw [up_ext h1.2 h2.2 (fun z => ?_)]
    have hz := h z
    rw [List.mem_cons, List.mem_cons] at hz
    constructor
    · intro hm
      rcases hz.1 (.inr hm) with e | hm'
      · subst e; have := h1.1 z hm; unfold pLt at this; rw [ltP_irrefl] at this; cases this
      · exact hm'
    · intro hm
      rcases hz.2 (.inr hm) with e | hm'
      · subst e; have := h2.1 z hm; unfold pLt at this; rw [ltP_irrefl] at this; cases this
      · exact hm'
theorem setP_of_up {l : List Pr} (ho : okL l) (hu : l.Pairwise pLt) : setP l = l := up_ext (setP_up l) hu (fun _ => setP_mem ho)
theorem setP_len (l : List Pr) : (setP l).length ≤ l.length := by
  unfold setP
  rw [sortP_length, List.length_map]; exact ofQ_len l
theorem may_up {l : List Pr} (h : mayP l = true) : l.Pairwise pLt := ((mayP_iff l).1 h).2
theorem may_one {l : List Pr} (h : mayP l = true) : ∀ x ∈ l, oneP x = true := ((mayP_iff l).1 h).1
theorem may_of {l : List Pr} (h1 : ∀ x ∈ l, oneP x = true) (h2 : l.Pairwise pLt) : mayP l = true := (mayP_iff l).2 ⟨h1, h2⟩
/-! merged -/
theorem mergeP_mem {base a b : List Pr} (hb : okL base) (ha : okL a) (hc : okL b) (lb : base.length < 1000000) (la : a.length < 1000000) (lc : b.length < 1000000) (m0 : mayP base = true) (m1 : mayP a = true) (m2 : mayP b = true) {x : Pr} :
    x ∈ mergeP base a b ↔ (x ∈ a ∨ x ∈ b) ∧ ((x ∈ a ∧ x ∈ b) ∨ ¬ x ∈ base) := by
  unfold mergeP
  rw [m0, m1, m2]
  have hok : okL ((a ++ b).filter (mcond base a b)) := fun y hy => by
    rcases List.mem_append.1 (List.mem_filter.1 hy).1 with h | h
    · exact ha y h
    · exact hc y h
  rw [if_pos (by rfl), setP_mem hok, List.mem_filter, List.mem_append]
  constructor
  · rintro ⟨h, hq⟩
    refine ⟨h, ?_⟩
    have hx : okPair x := by rcases h with h | h; exact ha x h; exact hc x h
    unfold mcond at hq
    simp only [Bool.or_eq_true, Bool.and_eq_true, Bool.not_eq_true'] at hq
    rcases hq with ⟨q1, q2⟩ | q
    · exact .inl ⟨(inP_iff ha la hx).1 q1, (inP_iff hc lc hx).1 q2⟩
    · right
      intro hm
      rw [(inP_iff hb lb hx).2 hm] at q; cases q
  · rintro ⟨h, hq⟩
    refine ⟨h, ?_⟩
    have hx : okPair x := by rcases h with h | h; exact ha x h; exact hc x h
    unfold mcond
    simp only [Bool.or_eq_true, Bool.and_eq_true, Bool.not_eq_true']
    rcases hq with ⟨q1, q2⟩ | q
    · exact .inl ⟨(inP_iff ha la hx).2 q1, (inP_iff hc lc hx).2 q2⟩
    · right
      cases hi : inP base x with
      | false => rfl
      | true => exact absurd ((inP_iff hb lb hx).1 hi) q
theorem mergeP_up (base a b : List Pr) : (mergeP base a b).Pairwise pLt := by
  unfold mergeP
  split
  · exact setP_up _
  · exact List.Pairwise.nil
theorem mergeP_len (base a b : List Pr) : (mergeP base a b).length ≤ a.length + b.length := by
  unfold mergeP
  split
  · refine Nat.le_trans (setP_len _) (Nat.le_trans (List.length_filter_le _ _) ?_)
    rw [List.length_append]; exact Nat.le_refl _
  · simp
theorem mergeP_sub {base a b : List Pr} (ha : okL a) (hc : okL b) {x : Pr} (h : x ∈ mergeP base a b) : x ∈ a ∨ x ∈ b := by
  unfold mergeP at h
  split at h
  · have hok : okL ((a ++ b).filter (mcond base a b)) := fun y hy => by
      rcases List.mem_append.1 (List.mem_filter.1 hy).1 with h | h
      · exact ha y h
      · exact hc y h
    exact List.mem_append.1 (List.mem_filter.1 ((setP_mem hok).1 h)).1
  · cases h
theorem mergeP_ok {base a b : List Pr} (ha : okL a) (hc : okL b) : okL (mergeP base a b) := fun x hx => by
  rcases mergeP_sub ha hc hx with h | h
  · exact ha x h
  · exact hc x h
theorem mergeP_may {base a b : List Pr} (ha : okL a) (hc : okL b) (m1 : mayP a = true) (m2 : mayP b = true) : mayP (mergeP base a b) = true :=
  may_of (fun x hx => by
    rcases mergeP_sub ha hc hx with h | h
    · exact may_one m1 x h
    · exact may_one m2 x h) (mergeP_up _ _ _)
/-! added, taken away -/
theorem addP_mem {l : List Pr} {p : Pr} (ho : okL l) (hp : okPair p) (m : mayP l = true) (m1 : mayP [p] = true) {x : Pr} : x ∈ addP l p ↔ x ∈ l ∨ x = p := by
  unfold addP
  rw [m, m1]
  have hok : okL (l ++ [p]) := fun y hy => by
    rcases List.mem_append.1 hy with h | h
    · exact ho y h
    · rw [List.mem_singleton.1 h]; exact hp
  rw [if_pos (by rfl), setP_mem hok, List.mem_append, List.mem_singleton]
theorem addP_up (l : List Pr) (p : Pr) : (addP l p).Pairwise pLt := by
  unfold addP
  split
  · exact setP_up _
  · exact List.Pairwise.nil
theorem addP_len (l : List Pr) (p : Pr) : (addP l p).length ≤ l.length + 1 := by
  unfold addP
  split
  · refine Nat.le_trans (setP_len _) ?_; simp
  · simp
theorem addP_ok {l : List Pr} {p : Pr} (ho : okL l) (hp : okPair p) : okL (addP l p) := by
  unfold addP
  split
  · refine setP_ok fun y hy => ?_
    rcases List.mem_append.1 hy with h | h
    · exact ho y h
    · rw [List.mem_singleton.1 h]; exact hp
  · intro x hx; cases hx
theorem addP_may {l : List Pr} {p : Pr} (ho : okL l) (hp : okPair p) (m : mayP l = true) (m1 : mayP [p] = true) : mayP (addP l p) = true :=
  may_of (fun x hx => by
    rcases (addP_mem ho hp m m1).1 hx with h | h
    · exact may_one m x h
    · rw [h]; exact may_one m1 p (List.mem_singleton.2 rfl)) (addP_up _ _)
theorem delP_mem {l : List Pr} {key elem : ByteArray} (m : mayP l = true) {x : Pr} : x ∈ delP l key elem ↔ x ∈ l ∧ goneB key elem x = false := by
  unfold delP keepP
  rw [m, if_pos rfl, List.mem_filter]
  simp
theorem delP_sub (l : List Pr) (key elem : ByteArray) : (delP l key elem).Sublist l := by
  unfold delP keepP
  split
  · exact List.filter_sublist
  · exact List.nil_sublist _
theorem delP_may {l : List Pr} {key elem : ByteArray} (m : mayP l = true) : mayP (delP l key elem) = true :=
  may_of (fun x hx => may_one m x ((delP_sub l key elem).subset hx)) ((may_up m).sublist (delP_sub l key elem))
theorem delP_ok {l : List Pr} {key elem : ByteArray} (ho : okL l) : okL (delP l key elem) := fun x hx => ho x ((delP_sub l key elem).subset hx)
theorem delP_len (l : List Pr) (key elem : ByteArray) : (delP l key elem).length ≤ l.length := (delP_sub l key elem).length_le
end Go.Proofs.Ytannmdngejdjkaa.L
end
section
/- Pairs: what the printed functions come to, with rounds enough. Plain. -/
namespace Go.Proofs.Ytannmdngejdjkaa.L
open Go.RowKit Go.Proofs.YtannmdngejdjkaaW.PrintWords Go.Proofs.YtannmdngejdjkaaW.PrintLast Go.Proofs.YtannmdngejdjkaaW.PrintMore Go.Proofs.YtannmdngejdjkaaW
set_option linter.unusedVariables false
set_option linter.unusedSimpArgs false
def eqQ (x y : Pr) : Bool := (x.f0.toList == y.f0.toList) && ((x.f1.toList == y.f1.toList) && ((x.f2.f0 == y.f2.f0) && (x.f2.f1 == y.f2.f1)))
theorem eqQ_iff {x y : Pr} : eqQ x y = true ↔ x = y := by
  unfold eqQ
  simp only [Bool.and_eq_true, beq_iff_eq]
  constructor
  · rintro ⟨h1, h2, h3, h4⟩
    obtain ⟨a, b, c, d⟩ := x
    obtain ⟨a', b', c', d'⟩ := y
    simp only at h1 h2 h3 h4
    obtain rfl := toList_inj h1
    obtain rfl := toList_inj h2
    subst h3 h4
    rfl
  · rintro rfl; exact ⟨rfl, rfl, rfl, rfl⟩
instance : DecidableEq Pr := fun x y => decidable_of_iff (eqQ x y = true) eqQ_iff
theorem monoP_up {α : Type} {f : Nat → Option α} (hm : ∀ k, LeO (f k) (f (k + 1))) {n : Nat} {r : α} (h : f n = some r) : ∀ k, n ≤ k → f k = some r := by
  intro k hk
  obtain ⟨d, rfl⟩ := Nat.exists_eq_add_of_le hk
  clear hk
  induction d with
  | zero => exact h
  | succ d ih => exact hm _ _ ih
def fewP (l : List Pr) : Bool := decide (l.length ≤ 30) && l.all (fun x => decide (x.f0.size ≤ 100) && decide (x.f1.size ≤ 100))
theorem fewP_loop : ∀ (suf pre : List Pr) (k : Nat), suf.length < k → (pre ++ suf).length < 4611686018427387904 →
    law08_Few.l0 k (pre ++ suf) ((pre.length : Nat) : Int) = some (suf.all (fun x => decide (x.f0.size ≤ 100) && decide (x.f1.size ≤ 100)))
  | suf, pre, 0, hk, _ => by omega
  | [], pre, k + 1, _, _ => by
    simp only [law08_Few.l0]
    rw [if_neg (by simp)]
    rfl
  | x :: suf, pre, k + 1, hk, hl => by
    have hlt : ((pre.length : Nat) : Int) < (((pre ++ x :: suf).length : Nat) : Int) := by simp; omega
    have hpl : pre.length < 4611686018427387904 := by simp at hl; omega
    have ih := fewP_loop suf (pre ++ [x]) k (by simp at hk; omega) (by simpa using hl)
    rw [app_one, len_one] at ih
    simp only [law08_Few.l0]
    rw [if_pos hlt, if_pos (by omega), rdP_mid, wrapUp hpl, ih, List.all_cons]
    by_cases h1 : x.f0.size ≤ 100
    · rw [if_neg (by omega)]
      by_cases h2 : x.f1.size ≤ 100
      · rw [if_neg (by omega)]; simp [h1, h2]
      · rw [if_pos (by omega)]; simp [h1, h2]
    · rw [if_pos (by omega)]; simp [h1]
theorem fewP_f (k : Nat) (l : List Pr) (hk : 31 < k) : law08_Few.f k l = some (fewP l) := by
  unfold law08_Few.f fewP
  by_cases h : l.length ≤ 30
  · rw [if_neg (by omega)]
    have := fewP_loop l [] k (by omega) (by simp; omega)
    simp only [List.nil_append, List.length_nil] at this
    rw [show ((0 : Nat) : Int) = 0 from rfl] at this
    rw [this]; simp [h]
  · rw [if_pos (by omega)]; simp [h]
theorem fewP_len {l : List Pr} (h : fewP l = true) : l.length ≤ 30 := by
  unfold fewP at h; simp at h; exact h.1
theorem smallP_of {l : List Pr} (h : okL l) (hl : l.length ≤ 1000) : smallP l = true := by
  unfold smallP
  simp only [Bool.and_eq_true, decide_eq_true_eq, List.all_eq_true]
  exact ⟨by omega, fun x hx => okB_iff.2 (h x hx)⟩
theorem mayPk (k : Nat) (l : List Pr) (hk : l.length + 5 < k) (hl : l.length ≤ 1000) (ho : okL l) : pair_May.f k l = some (mayP l) := mayP_f k l hk (by omega) ho
theorem addP_f {l : List Pr} {p : Pr} (ho : okL l) (hp : okPair p) (hl : l.length ≤ 1000) : pair_Add.f l p.f0 p.f1 p.f2.f0 p.f2.f1 = some (addP l p) := by
  unfold pair_Add.f
  rw [if_pos ⟨smallP_of ho hl, okB_iff.2 hp⟩]
theorem delP_f {l : List Pr} {a b : ByteArray} (ho : okL l) (hl : l.length ≤ 1000) : pair_Del.f l a b = some (delP l a b) := by
  unfold pair_Del.f
  rw [if_pos (smallP_of ho hl)]
theorem elemsP_f {l : List Pr} {a : ByteArray} (ho : okL l) (hl : l.length ≤ 1000) : pair_Elems.f l a = some (elemsP l a) := by
  unfold pair_Elems.f
  rw [if_pos (smallP_of ho hl)]
theorem mergeP_f {a b c : List Pr} (h0 : okL a) (h1 : okL b) (h2 : okL c) (l0 : a.length ≤ 1000) (l1 : b.length ≤ 1000) (l2 : c.length ≤ 1000) : pair_Merge.f a b c = some (mergeP a b c) := by
  unfold pair_Merge.f
  rw [if_pos ⟨smallP_of h0 l0, smallP_of h1 l1, smallP_of h2 l2⟩]
theorem sameP_loop (l : List Pr) (hl : l.length < 4611686018427387904) : ∀ (d k n : Nat), n + d = l.length → d < k → ref08_Same.l0 k l l (n : Int) = some true
  | d, 0, n, _, h => by omega
  | 0, k + 1, n, h, _ => by
    simp only [ref08_Same.l0]
    rw [if_neg (by omega)]
  | d + 1, k + 1, n, h, hk => by
    have ih := sameP_loop l hl d k (n + 1) (by omega) (by omega)
    simp only [ref08_Same.l0]
    rw [if_pos (by omega), if_pos (by omega), if_pos (by omega), wrapUp (by omega), ih]
    simp
theorem sameP_f (k : Nat) {l l' : List Pr} (h : l = l') (hl : l.length < k) (hk : k < 1000000) : ref08_Same.f k l l' = some true := by
  subst h
  unfold ref08_Same.f
  rw [if_pos rfl]
  exact sameP_loop l (by omega) l.length k 0 (by omega) hl
theorem w_one_ne : ((⟨(⟨#[97]⟩ : ByteArray), (⟨#[120]⟩ : ByteArray), (⟨0, 1⟩ : S24)⟩ : S57) : Pr) ≠ (⟨(⟨#[97]⟩ : ByteArray), (⟨#[120]⟩ : ByteArray), (⟨0, 2⟩ : S24)⟩ : S57) := by
  intro h
  injection h with _ _ h
  injection h with _ h
  cases h
theorem w_ok : okL [(⟨(⟨#[97]⟩ : ByteArray), (⟨#[120]⟩ : ByteArray), (⟨0, 1⟩ : S24)⟩ : S57), (⟨(⟨#[97]⟩ : ByteArray), (⟨#[120]⟩ : ByteArray), (⟨0, 2⟩ : S24)⟩ : S57)] := by
  intro x hx
  rw [← okB_iff]
  rcases List.mem_cons.1 hx with rfl | hx
  · decide +kernel
  · rw [List.mem_singleton.1 hx]; decide +kernel
theorem w_up : ([(⟨(⟨#[97]⟩ : ByteArray), (⟨#[120]⟩ : ByteArray), (⟨0, 1⟩ : S24)⟩ : S57), (⟨(⟨#[97]⟩ : ByteArray), (⟨#[120]⟩ : ByteArray), (⟨0, 2⟩ : S24)⟩ : S57)] : List Pr).Pairwise pLt := by
  refine List.pairwise_cons.2 ⟨fun y hy => ?_, List.pairwise_singleton _ _⟩
  rw [List.mem_singleton.1 hy]
  show ltP _ _ = true
  decide +kernel
theorem w_ok1 : okL [(⟨(⟨#[97]⟩ : ByteArray), (⟨#[120]⟩ : ByteArray), (⟨0, 1⟩ : S24)⟩ : S57)] := fun x hx => w_ok x (by rw [List.mem_singleton.1 hx]; exact List.mem_cons_self)
theorem w_del : pair_Del.f ([(⟨(⟨#[97]⟩ : ByteArray), (⟨#[120]⟩ : ByteArray), (⟨0, 1⟩ : S24)⟩ : S57)] : List (S57)) (⟨#[97]⟩ : ByteArray) (⟨#[120]⟩ : ByteArray) = some [] := by
  have h := delP_f (l := [(⟨(⟨#[97]⟩ : ByteArray), (⟨#[120]⟩ : ByteArray), (⟨0, 1⟩ : S24)⟩ : S57)]) (a := (⟨#[97]⟩ : ByteArray)) (b := (⟨#[120]⟩ : ByteArray)) w_ok1 (by decide)
  have e : (delP [(⟨(⟨#[97]⟩ : ByteArray), (⟨#[120]⟩ : ByteArray), (⟨0, 1⟩ : S24)⟩ : S57)] (⟨#[97]⟩ : ByteArray) (⟨#[120]⟩ : ByteArray)).length = 0 := by decide +kernel
  rw [h, List.eq_nil_of_length_eq_zero e]
theorem w_add : pair_Add.f ([(⟨(⟨#[97]⟩ : ByteArray), (⟨#[120]⟩ : ByteArray), (⟨0, 1⟩ : S24)⟩ : S57)] : List (S57)) (⟨#[97]⟩ : ByteArray) (⟨#[120]⟩ : ByteArray) 0 2 = some [(⟨(⟨#[97]⟩ : ByteArray), (⟨#[120]⟩ : ByteArray), (⟨0, 1⟩ : S24)⟩ : S57), (⟨(⟨#[97]⟩ : ByteArray), (⟨#[120]⟩ : ByteArray), (⟨0, 2⟩ : S24)⟩ : S57)] := by
  have h := addP_f (l := [(⟨(⟨#[97]⟩ : ByteArray), (⟨#[120]⟩ : ByteArray), (⟨0, 1⟩ : S24)⟩ : S57)]) (p := (⟨(⟨#[97]⟩ : ByteArray), (⟨#[120]⟩ : ByteArray), (⟨0, 2⟩ : S24)⟩ : S57)) w_ok1 (w_ok _ (by simp)) (by decide)
  refine h.trans ?_
  have m : (mayP [(⟨(⟨#[97]⟩ : ByteArray), (⟨#[120]⟩ : ByteArray), (⟨0, 1⟩ : S24)⟩ : S57)] && mayP [(⟨(⟨#[97]⟩ : ByteArray), (⟨#[120]⟩ : ByteArray), (⟨0, 2⟩ : S24)⟩ : S57)]) = true := by decide +kernel
  unfold addP
  rw [if_pos m]
  exact congrArg some (setP_of_up w_ok w_up)
theorem w_merge : pair_Merge.f ([(⟨(⟨#[97]⟩ : ByteArray), (⟨#[120]⟩ : ByteArray), (⟨0, 1⟩ : S24)⟩ : S57)] : List (S57)) [] [(⟨(⟨#[97]⟩ : ByteArray), (⟨#[120]⟩ : ByteArray), (⟨0, 1⟩ : S24)⟩ : S57), (⟨(⟨#[97]⟩ : ByteArray), (⟨#[120]⟩ : ByteArray), (⟨0, 2⟩ : S24)⟩ : S57)] = some [(⟨(⟨#[97]⟩ : ByteArray), (⟨#[120]⟩ : ByteArray), (⟨0, 2⟩ : S24)⟩ : S57)] := by
  have h := mergeP_f (a := [(⟨(⟨#[97]⟩ : ByteArray), (⟨#[120]⟩ : ByteArray), (⟨0, 1⟩ : S24)⟩ : S57)]) (b := []) (c := [(⟨(⟨#[97]⟩ : ByteArray), (⟨#[120]⟩ : ByteArray), (⟨0, 1⟩ : S24)⟩ : S57), (⟨(⟨#[97]⟩ : ByteArray), (⟨#[120]⟩ : ByteArray), (⟨0, 2⟩ : S24)⟩ : S57)]) w_ok1 (fun x hx => by cases hx) w_ok (by decide) (by decide) (by decide)
  refine h.trans (congrArg some ?_)
  refine up_ext (mergeP_up _ _ _) (List.pairwise_singleton _ _) fun x => ?_
  rw [mergeP_mem w_ok1 (fun x hx => by cases hx) w_ok (by decide) (by decide) (by decide) (by decide +kernel) rfl (by decide +kernel)]
  have hne := w_one_ne
  constructor
  · rintro ⟨h1 | h1, h2⟩
    · cases h1
    · rcases h2 with ⟨h2, _⟩ | h2
      · cases h2
      · rcases List.mem_cons.1 h1 with rfl | h1
        · exact absurd List.mem_cons_self h2
        · exact h1
  · intro h1
    have := List.mem_singleton.1 h1
    subst this
    exact ⟨.inr (by simp), .inr (fun h2 => hne (List.mem_singleton.1 h2).symm)⟩
theorem w_elems : pair_Elems.f ([(⟨(⟨#[97]⟩ : ByteArray), (⟨#[120]⟩ : ByteArray), (⟨0, 1⟩ : S24)⟩ : S57), (⟨(⟨#[97]⟩ : ByteArray), (⟨#[120]⟩ : ByteArray), (⟨0, 2⟩ : S24)⟩ : S57)] : List (S57)) (⟨#[97]⟩ : ByteArray) = some [(⟨#[120]⟩ : ByteArray)] := by decide +kernel
theorem w_may : pair_May.f 12 ([(⟨(⟨#[97]⟩ : ByteArray), (⟨#[120]⟩ : ByteArray), (⟨0, 2⟩ : S24)⟩ : S57)] : List (S57)) = some true := by decide +kernel
theorem w_less : pair_Less.f 12 (⟨#[97]⟩ : ByteArray) (⟨#[120]⟩ : ByteArray) 0 1 (⟨#[97]⟩ : ByteArray) (⟨#[120]⟩ : ByteArray) 0 2 = some true := by decide +kernel
theorem awakeP_12 : law08_awake.f 12 = some true := by
  unfold law08_awake.f
  rw [Option.bind_some, w_del, Option.bind_some, w_add, Option.bind_some, w_merge, Option.bind_some, w_may, w_less, w_elems]
  decide +kernel
theorem awakeP_k (k : Nat) (hk : 12 ≤ k) : law08_awake.f k = some true := monoP_up law08_awake.mono awakeP_12 k hk
end Go.Proofs.Ytannmdngejdjkaa.L
end
section
/- A key's elements: what slices.Compact makes of elements that rise. Plain. -/
namespace Go.Proofs.Ytannmdngejdjkaa.L
open Go.RowKit Go.Sort Go.Proofs.YtannmdngejdjkaaW.PrintWords Go.Proofs.YtannmdngejdjkaaW.PrintLast Go.Proofs.YtannmdngejdjkaaW.PrintMore Go.Proofs.YtannmdngejdjkaaW
set_option linter.unusedVariables false
set_option linter.unusedSimpArgs false
abbrev Tx := List UInt8
theorem upTo_snoc (zs : List Tx) (x : Tx) : ∀ n, n ≤ zs.length → Lib.compactUpTo (zs ++ [x]).toArray n = Lib.compactUpTo zs.toArray n := by
  intro n
  induction n with
  | zero => intro _; rfl
  | succ n ih =>
    intro hn
    rw [Lib.compactUpTo_succ, Lib.compactUpTo_succ, ih (by omega)]
    have e : ∀ j, j < zs.length → (zs ++ [x]).toArray[j]! = zs.toArray[j]! := fun j hj => by
      simp [getElem!_def, List.getElem?_append_left hj]
    have e2 : Lib.keeps (zs ++ [x]).toArray n = Lib.keeps zs.toArray n := by
      unfold Lib.keeps
      rw [e n (by omega), e (n - 1) (by omega)]
    rw [e2, e n (by omega)]
theorem compact_snoc (zs : List Tx) (x : Tx) : Lib.compact (zs ++ [x]) = if zs.getLast? = some x then Lib.compact zs else Lib.compact zs ++ [x] := by
  unfold Lib.compact
  rw [List.length_append, List.length_singleton, Lib.compactUpTo_succ, upTo_snoc zs x _ (Nat.le_refl _)]
  have e1 : (zs ++ [x]).toArray[zs.length]! = x := by simp [getElem!_def]
  rw [e1]
  rcases List.eq_nil_or_concat zs with rfl | ⟨p, y, rfl⟩
  · simp [Lib.keeps]
  · rw [List.concat_eq_append]
    have e2 : ((p ++ [y]) ++ [x]).toArray[(p ++ [y]).length - 1]! = y := by simp [getElem!_def]
    have hk : Lib.keeps ((p ++ [y]) ++ [x]).toArray (p ++ [y]).length = decide (x ≠ y) := by
      unfold Lib.keeps
      rw [e2]
      have e3 : ((p ++ [y]) ++ [x]).toArray[(p ++ [y]).length]! = x := by simp [getElem!_def]
      rw [e3]
      simp
    rw [hk, List.getLast?_concat]
    by_cases h : x = y
    · subst h; simp
    · have h' : ¬ y = x := fun e => h e.symm
      simp [h, h']
theorem compact_last' : ∀ (n : Nat) (zs : List Tx), zs.length = n → (Lib.compact zs).getLast? = zs.getLast?
  | 0, zs, h => by
    obtain rfl := List.eq_nil_of_length_eq_zero h
    rfl
  | n + 1, zs, h => by
    rcases List.eq_nil_or_concat zs with rfl | ⟨p, y, rfl⟩
    · rfl
    · rw [List.concat_eq_append] at *
      rw [compact_snoc]
      split
      · rename_i hl
        rw [List.getLast?_concat, ← hl]
        exact compact_last' n p (by simp at h; exact h)
      · rw [List.getLast?_concat, List.getLast?_concat]
theorem compact_last (zs : List Tx) : (Lib.compact zs).getLast? = zs.getLast? := compact_last' _ zs rfl
def tLt (a b : Tx) : Prop := Op.bytesLess a b = true
def tLe (a b : Tx) : Prop := Op.bytesLess a b = true ∨ a = b
theorem compact_spec : ∀ (n : Nat) (zs : List Tx), zs.length = n → zs.Pairwise tLe → (Lib.compact zs).Pairwise tLt ∧ (∀ x, x ∈ Lib.compact zs ↔ x ∈ zs)
  | 0, zs, h, _ => by
    obtain rfl := List.eq_nil_of_length_eq_zero h
    exact ⟨List.Pairwise.nil, fun x => Iff.rfl⟩
  | n + 1, zs, h, hp => by
    rcases List.eq_nil_or_concat zs with rfl | ⟨p, y, rfl⟩
    · simp at h
    · rw [List.concat_eq_append] at *
      have hp2 := List.pairwise_append.1 hp
      obtain ⟨h1, h2⟩ := compact_spec n p (by simp at h; exact h) hp2.1
      rw [compact_snoc]
      split
      · rename_i hl
        refine ⟨h1, fun x => ?_⟩
        rw [h2, List.mem_append, List.mem_singleton]
        constructor
        · exact .inl
        · rintro (h | h)
          · exact h
          · rw [h]; exact List.mem_of_getLast? hl
      · rename_i hl
        refine ⟨List.pairwise_append.2 ⟨h1, List.pairwise_singleton _ _, fun a ha b hb => ?_⟩, fun x => by rw [List.mem_append, h2, List.mem_append]⟩
        rw [List.mem_singleton.1 hb]
        rcases hp2.2.2 a ((h2 a).1 ha) y (List.mem_singleton.2 rfl) with h | h
        · exact h
        · subst h
          exfalso
          -- a is the last one of the compacted list too
          rcases List.eq_nil_or_concat p with rfl | ⟨q, z, rfl⟩
          · have := (h2 a).1 ha; cases this
          · rw [List.concat_eq_append] at *
            rw [List.getLast?_concat] at hl
            have hza : z ≠ a := fun e => hl (by rw [e])
            have hmem := (h2 a).1 ha
            have hzle : tLe z a := hp2.2.2 z (by simp) a (by simp)
            rcases List.mem_append.1 hmem with hm | hm
            · have haz := (List.pairwise_append.1 hp2.1).2.2 a hm z (by simp)
              rcases haz with h3 | h3
              · rcases hzle with h4 | h4
                · have := less_trans h3 h4; rw [less_irrefl] at this; cases this
                · exact hza h4
              · exact hza h3.symm
            · exact hza (List.mem_singleton.1 hm).symm
theorem tLt_ext : ∀ {l l' : List Tx}, l.Pairwise tLt → l'.Pairwise tLt → (∀ x, x ∈ l ↔ x ∈ l') → l = l'
  | [], [], _, _, _ => rfl
  | [], y :: l', _, _, h => by have := (h y).2 List.mem_cons_self; cases this
  | x :: l, [], _, _, h => by have := (h x).1 List.mem_cons_self; cases this
  | x :: l, y :: l', h1, h2, h => by
    rw [List.pairwise_cons] at h1 h2
    have irr : ∀ z, ¬ tLt z z := fun z hz => by unfold tLt at hz; rw [less_irrefl] at hz; cases hz
    have hxy : x = y := by
      rcases List.mem_cons.1 ((h x).1 List.mem_cons_self) with e | hx
      · exact e
      · rcases List.mem_cons.1 ((h y).2 List.mem_cons_self) with e | hy
        · exact e.symm
        · exact absurd (less_trans (h2.1 x hx) (h1.1 y hy)) (irr y)
    subst hxy
    rw [tLt_ext h1.2 h2.2 (fun z => ?_)]
    have hz := h z
    rw [List.mem_cons, List.mem_cons] at hz
    constructor
    · intro hm
      rcases hz.1 (.inr hm) with e | hm'
      · subst e; exact absurd (h1.1 z hm) (irr z)
      · exact hm'
    · intro hm
      rcases hz.2 (.inr hm) with e | hm'
      · subst e; exact absurd (h2.1 z hm) (irr z)
      · exact hm'
/-- among pairs of one key, the elements rise -/
theorem elemL_le {l : List Pr} (key : ByteArray) (hu : l.Pairwise pLt) : (elemL l key).Pairwise tLe := by
  unfold elemL
  rw [List.pairwise_map]
  have h1 : (l.filter (keyIs key)).Pairwise pLt := hu.sublist List.filter_sublist
  refine h1.imp_of_mem fun {a b} ha hb hab => ?_
  have ka := (List.mem_filter.1 ha).2
  have kb := (List.mem_filter.1 hb).2
  unfold keyIs at ka kb
  have e : a.f0 = b.f0 := toList_inj ((beq_iff_eq.1 ka).trans (beq_iff_eq.1 kb).symm)
  have hlt : cmpP a b < 0 := by
    have := hab
    unfold pLt ltP at this
    simpa using this
  unfold cmpP or4 at hlt
  have e0 : cS a.f0 b.f0 = 0 := (cS_ok.eq _ _).2 e
  rw [if_pos e0] at hlt
  unfold tLe
  rw [← dl_toList, ← dl_toList]
  by_cases h2 : cS a.f1 b.f1 = 0
  · right
    rw [(cS_ok.eq _ _).1 h2]
  · rw [if_neg h2] at hlt
    exact .inl (cS_neg.1 hlt)
def elemC (l : List Pr) (key : ByteArray) : List Tx := Lib.compact (elemL l key)
theorem elemsP_eq (l : List Pr) (key : ByteArray) : elemsP l key = (elemC l key).map fun b => ⟨b.toArray⟩ := rfl
theorem elemC_spec {l : List Pr} (key : ByteArray) (hu : l.Pairwise pLt) : (elemC l key).Pairwise tLt ∧ ∀ x, x ∈ elemC l key ↔ ∃ p ∈ l, p.f0 = key ∧ p.f1.data.toList = x := by
  obtain ⟨h1, h2⟩ := compact_spec _ (elemL l key) rfl (elemL_le key hu)
  refine ⟨h1, fun x => ?_⟩
  unfold elemC
  rw [h2]
  unfold elemL
  simp only [List.mem_map, List.mem_filter]
  constructor
  · rintro ⟨p, ⟨hp, hk⟩, rfl⟩
    exact ⟨p, hp, toList_inj (beq_iff_eq.1 hk), rfl⟩
  · rintro ⟨p, hp, rfl, rfl⟩
    exact ⟨p, ⟨hp, by unfold keyIs; simp⟩, rfl⟩
theorem elemC_len (l : List Pr) (key : ByteArray) : (elemC l key).length ≤ l.length := Nat.le_trans (compact_len _) (elemL_len l key)
/-- of a list that rises, without one that is in it -/
theorem erase_len : ∀ {l : List Tx} {x : Tx}, l.Pairwise tLt → x ∈ l → l.length = (l.filter fun y => decide (y ≠ x)).length + 1
  | [], x, _, h => by cases h
  | y :: l, x, hp, h => by
    rw [List.pairwise_cons] at hp
    by_cases e : y = x
    · subst e
      have : l.filter (fun z => decide (z ≠ y)) = l := by
        rw [List.filter_eq_self]
        intro a ha
        have := hp.1 a ha
        rw [decide_eq_true_eq]
        intro e
        rw [e] at this
        unfold tLt at this; rw [less_irrefl] at this; cases this
      rw [List.filter_cons_of_neg (by simp), this, List.length_cons]
    · have hm : x ∈ l := by
        rcases List.mem_cons.1 h with h | h
        · exact absurd h.symm e
        · exact h
      have ih := erase_len hp.2 hm
      rw [List.filter_cons_of_pos (by simpa using e), List.length_cons, List.length_cons, ih]
end Go.Proofs.Ytannmdngejdjkaa.L
end
section
/- The document's key, with rounds enough (for pairs). Plain. -/
namespace Go.Proofs.Ytannmdngejdjkaa.L
open Go.RowKit Go.Proofs.YtannmdngejdjkaaW.PrintWords Go.Proofs.YtannmdngejdjkaaW.PrintLast Go.Proofs.YtannmdngejdjkaaW.PrintMore Go.Proofs.YtannmdngejdjkaaW
set_option linter.unusedVariables false
set_option linter.unusedSimpArgs false
theorem bt_midS {a : ByteArray} {pre suf : List UInt8} {c : UInt8} (e : a.data.toList = pre ++ c :: suf) : bt a ((pre.length : Nat) : Int) = (c.toNat : Int) := by
  have hl : a.size = pre.length + (suf.length + 1) := by
    have h := congrArg List.length e
    simpa using h
  unfold bt
  have h : (((pre.length : Nat) : Int)).toNat < a.size := by simp; omega
  rw [dif_pos h]
  have h2 : pre.length < a.data.toList.length := by rw [e]; simp
  have : a[(((pre.length : Nat) : Int)).toNat]'h = a.data.toList[pre.length]'h2 := rfl
  rw [this]
  simp [e]
theorem wrapK {n : Nat} (h : n < 9223372036854775807) : wrap64 ((n : Int) + 1) = ((n + 1 : Nat) : Int) := by unfold wrap64; omega
theorem keyD_loop (a : ByteArray) (hs : a.size ≤ 9223372036854775807) : ∀ (suf pre : List UInt8) (k : Nat), a.data.toList = pre ++ suf → suf.length < k →
    ref05_Key.l0 k a ((pre.length : Nat) : Int) = some (suf.all keyChar && (decide (1 ≤ a.data.toList.length) && decide (a.data.toList.length ≤ 8)))
  | suf, pre, 0, _, hk => by omega
  | [], pre, k + 1, e, _ => by
    have hl : a.size = pre.length := by
      have h := congrArg List.length e
      simpa using h
    simp only [ref05_Key.l0]
    have hL : a.data.toList.length = a.size := by simp
    rw [if_neg (by omega), hL]
    by_cases h1 : 1 ≤ a.size
    · rw [if_pos (by omega)]
      simp only [List.all_nil, Bool.true_and, h1, decide_true]
      congr 1
      exact decide_eq_decide.2 (by omega)
    · rw [if_neg (by omega)]; simp [h1]
  | c :: suf, pre, k + 1, e, hk => by
    have hl : a.size = pre.length + (suf.length + 1) := by
      have h := congrArg List.length e
      simpa using h
    have ih := keyD_loop a hs suf (pre ++ [c]) k (by rw [app_one]; exact e) (by simp at hk; omega)
    rw [len_one] at ih
    simp only [ref05_Key.l0]
    rw [if_pos (by omega), if_pos (by omega), bt_midS e, wrapK (by omega), ih, List.all_cons]
    by_cases h1 : 97 ≤ c.toNat
    · rw [if_pos (by omega)]
      by_cases h2 : c.toNat ≤ 122
      · rw [if_pos (by omega)]
        have : keyChar c = true := by simp [keyChar, h1, h2]
        rw [this]; rfl
      · rw [if_neg (by omega)]
        have : keyChar c = false := by simp [keyChar]; omega
        rw [this]
        rw [if_pos (by omega), if_neg (by omega)]; rfl
    · rw [if_neg (by omega)]
      by_cases h3 : 48 ≤ c.toNat
      · rw [if_pos (by omega)]
        by_cases h4 : c.toNat ≤ 57
        · rw [if_pos (by omega)]
          have : keyChar c = true := by simp [keyChar, h3, h4]
          rw [this]; rfl
        · rw [if_neg (by omega)]
          have : keyChar c = false := by simp [keyChar]; omega
          rw [this]; rfl
      · rw [if_neg (by omega)]
        have : keyChar c = false := by simp [keyChar]; omega
        rw [this]; rfl
theorem keyD_f (a : ByteArray) (k : Nat) (hs : a.size ≤ 9223372036854775807) (hk : a.size < k) : ref05_Key.f k a = some (keyB a.data.toList) := by
  have h := keyD_loop a hs a.data.toList [] k rfl (by simpa using hk)
  simpa [ref05_Key.f, keyB] using h
theorem key_size {a : ByteArray} (h : keyB a.data.toList = true) : a.size ≤ 8 := by
  unfold keyB at h
  simp at h
  exact h.2.2
end Go.Proofs.Ytannmdngejdjkaa.L
end
section
/- Pairs: what the document's functions come to, with rounds enough. Plain. -/
namespace Go.Proofs.Ytannmdngejdjkaa.L
open Go.RowKit Go.Proofs.YtannmdngejdjkaaW.PrintWords Go.Proofs.YtannmdngejdjkaaW.PrintLast Go.Proofs.YtannmdngejdjkaaW.PrintMore Go.Proofs.YtannmdngejdjkaaW
set_option linter.unusedVariables false
set_option linter.unusedSimpArgs false
theorem rless_f (x y : Pr) : ref08_Less.f x.f0 x.f1 x.f2.f0 x.f2.f1 y.f0 y.f1 y.f2.f0 y.f2.f1 = some (ltP x y) := by
  unfold ref08_Less.f ltP cmpP or4
  have hS : ∀ a b : ByteArray, a.toList ≠ b.toList → (cS a b ≠ 0 ∧ (decide (cS a b < 0) = Op.bytesLess a.toList b.toList)) := fun a b h => by
    refine ⟨fun e => h (by rw [(cS_ok.eq a b).1 e]), ?_⟩
    rw [Bool.eq_iff_iff, decide_eq_true_eq, cS_neg]
  have hI : ∀ a b : Int, a ≠ b → (cI a b ≠ 0) := fun a b h e => h ((cI_ok.eq a b).1 e)
  have hL : ∀ a b : Int, decide (cI a b < 0) = decide (a < b) := fun a b => by
    rw [decide_eq_decide]
    unfold cI; split
    · rename_i h; simp [h]
    · split <;> omega
  by_cases h0 : x.f0.toList = y.f0.toList
  · have e0 := toList_inj h0
    rw [if_pos h0, if_pos ((cS_ok.eq _ _).2 e0)]
    by_cases h1 : x.f1.toList = y.f1.toList
    · have e1 := toList_inj h1
      rw [if_pos h1, if_pos ((cS_ok.eq _ _).2 e1)]
      by_cases h2 : x.f2.f0 = y.f2.f0
      · rw [if_pos h2, if_pos ((cI_ok.eq _ _).2 h2), hL]
      · rw [if_neg h2, if_neg (hI _ _ h2), hL]
    · rw [if_neg h1, if_neg (hS _ _ h1).1, (hS _ _ h1).2]
  · rw [if_neg h0, if_neg (hS _ _ h0).1, (hS _ _ h0).2]
theorem rkey {a : ByteArray} (h : a.size ≤ 100) (k : Nat) (hk : 101 < k) : ref05_Key.f k a = some (keyB a.data.toList) := keyD_f a k (by omega) (by omega)
abbrev smL (l : List Pr) : Prop := ∀ x ∈ l, x.f0.size ≤ 100 ∧ x.f1.size ≤ 100
theorem fewP_sm {l : List Pr} (h : fewP l = true) : smL l := by
  unfold fewP at h
  simp only [Bool.and_eq_true, List.all_eq_true, decide_eq_true_eq] at h
  exact h.2
theorem rmay_loop : ∀ (suf pre : List Pr) (k : Nat), suf.length * 2 + 210 < k → (pre ++ suf).length < 4611686018427387904 → smL suf →
    ref08_May.l0 k (pre ++ suf) ((pre.length : Nat) : Int) = some (mayPP pre.getLast? suf)
  | suf, pre, 0, hk, _, _ => by omega
  | [], pre, k + 1, _, _, _ => by
    simp only [ref08_May.l0]
    rw [if_neg (by simp)]
    rfl
  | x :: suf, pre, k + 1, hk, hl, ho => by
    have hlt : ((pre.length : Nat) : Int) < (((pre ++ x :: suf).length : Nat) : Int) := by simp; omega
    have hpl : pre.length < 4611686018427387904 := by simp at hl; omega
    obtain ⟨q, rfl⟩ : ∃ q, k = q + 1 := ⟨k - 1, by simp at hk; omega⟩
    have ih := rmay_loop suf (pre ++ [x]) q (by simp at hk; omega) (by simpa using hl) (fun y hy => ho y (List.mem_cons_of_mem _ hy))
    rw [app_one, List.getLast?_concat, len_one] at ih
    have hox := ho x List.mem_cons_self
    have hj1 : ref08_May.j1 (q + 1) (pre ++ x :: suf) ((pre.length : Nat) : Int) true x.f0 x.f1 x.f2.f0 x.f2.f1 = some false := by simp [ref08_May.j1]
    have hj0 : ref08_May.j1 (q + 1) (pre ++ x :: suf) ((pre.length : Nat) : Int) false x.f0 x.f1 x.f2.f0 x.f2.f1 = some ((match pre.getLast? with | none => true | some y => ltP y x) && mayPP (some x) suf) := by
      simp only [ref08_May.j1]
      rw [if_neg (by simp)]
      rcases List.eq_nil_or_concat pre with rfl | ⟨p, y, rfl⟩
      · rw [if_neg (by simp), wrapUp hpl, ih]; rfl
      · rw [List.concat_eq_append] at *
        have hw : wrap64 ((((p ++ [y]).length : Nat) : Int) - 1) = ((p.length : Nat) : Int) := by
          rw [List.length_append, List.length_singleton]; exact wrapDn (by simp at hpl; omega)
        rw [if_pos (by simp), hw, if_pos (by omega), if_pos (by simp; omega), app_one, rdP_mid, rless_f, Option.bind_some, List.getLast?_concat]
        rw [app_one] at ih
        cases h6 : ltP y x with
        | false => simp [h6]
        | true =>
          simp only [if_true, h6, Bool.true_and]
          rw [wrapUp hpl]
          exact ih
    simp only [ref08_May.l0]
    rw [if_pos hlt, if_pos (by omega), rdP_mid, rkey hox.1 (q + 1) (by simp at hk; omega), rkey hox.2 (q + 1) (by simp at hk; omega)]
    simp only [Option.bind_some]
    unfold mayPP oneP
    cases h1 : keyB x.f0.data.toList with
    | false => rw [if_neg (by simp), hj1]; rfl
    | true =>
      rw [if_pos rfl]
      cases h2 : keyB x.f1.data.toList with
      | false => rw [if_neg (by simp), hj1]; rfl
      | true =>
        rw [if_pos rfl]
        by_cases h3 : x.f2.f0 < 0
        · rw [if_pos h3, hj1]
          have : ¬ (0 ≤ x.f2.f0) := by omega
          simp [this]
        · rw [if_neg h3]
          by_cases h4 : x.f2.f0 ≥ 8
          · rw [if_pos h4, hj1]
            have : ¬ (x.f2.f0 < 8) := by omega
            simp [this]
          · rw [if_neg h4]
            by_cases h5 : x.f2.f1 < 1
            · rw [decide_eq_true h5, hj1]
              have : ¬ (1 ≤ x.f2.f1) := by omega
              simp [this]
            · rw [decide_eq_false h5, hj0]
              have h3' : 0 ≤ x.f2.f0 := by omega
              have h4' : x.f2.f0 < 8 := by omega
              have h5' : 1 ≤ x.f2.f1 := by omega
              simp only [h3', h4', h5', decide_true, Bool.true_and]
              rfl
theorem rmay_f (k : Nat) (l : List Pr) (hk : l.length * 2 + 210 < k) (hl : l.length ≤ 1000) (ho : smL l) : ref08_May.f k l = some (mayP l) := by
  have := rmay_loop l [] k hk (by simp; omega) ho
  simpa [ref08_May.f, mayP] using this
def eqR (x : Pr) (p0 p1 : ByteArray) (p2 p3 : Int) : Bool := (x.f0.toList == p0.toList) && ((x.f1.toList == p1.toList) && ((x.f2.f0 == p2) && (x.f2.f1 == p3)))
theorem eqR_iff {x p : Pr} : eqR x p.f0 p.f1 p.f2.f0 p.f2.f1 = true ↔ x = p := by
  unfold eqR
  simp only [Bool.and_eq_true, beq_iff_eq]
  constructor
  · rintro ⟨h1, h2, h3, h4⟩
    obtain ⟨a, b, c, d⟩ := x
    obtain ⟨a', b', c', d'⟩ := p
    simp only at h1 h2 h3 h4
    obtain rfl := toList_inj h1
    obtain rfl := toList_inj h2
    subst h3 h4
    rfl
  · rintro rfl; exact ⟨rfl, rfl, rfl, rfl⟩
theorem rhas_loop (p : Pr) : ∀ (suf pre : List Pr) (k : Nat), suf.length < k → (pre ++ suf).length < 4611686018427387904 →
    ref08_has.l0 k (pre ++ suf) ((pre.length : Nat) : Int) p.f0 p.f1 p.f2.f0 p.f2.f1 = some (suf.any fun x => eqR x p.f0 p.f1 p.f2.f0 p.f2.f1)
  | suf, pre, 0, hk, _ => by omega
  | [], pre, k + 1, _, _ => by
    simp only [ref08_has.l0]
    rw [if_neg (by simp)]
    rfl
  | x :: suf, pre, k + 1, hk, hl => by
    have hlt : ((pre.length : Nat) : Int) < (((pre ++ x :: suf).length : Nat) : Int) := by simp; omega
    have hpl : pre.length < 4611686018427387904 := by simp at hl; omega
    have ih := rhas_loop p suf (pre ++ [x]) k (by simp at hk; omega) (by simpa using hl)
    rw [app_one, len_one] at ih
    simp only [ref08_has.l0]
    rw [if_pos hlt, if_pos (by omega), rdP_mid, wrapUp hpl, ih, List.any_cons]
    show (if eqR x p.f0 p.f1 p.f2.f0 p.f2.f1 = true then some true else _) = _
    cases h : eqR x p.f0 p.f1 p.f2.f0 p.f2.f1 <;> simp
theorem rhas_f (k : Nat) (l : List Pr) (p : Pr) (hk : l.length < k) (hl : l.length ≤ 1000) : ref08_has.f k l p.f0 p.f1 p.f2.f0 p.f2.f1 = some (decide (p ∈ l)) := by
  have h := rhas_loop p l [] k hk (by simp; omega)
  have e : (l.any fun x => eqR x p.f0 p.f1 p.f2.f0 p.f2.f1) = decide (p ∈ l) := by
    rw [Bool.eq_iff_iff, decide_eq_true_eq, List.any_eq_true]
    constructor
    · rintro ⟨x, hx, hq⟩; rw [← eqR_iff.1 hq]; exact hx
    · intro hx; exact ⟨p, hx, eqR_iff.2 rfl⟩
  rw [← e]
  simpa [ref08_has.f] using h
/-- put: with one more, in order -/
theorem rput_stop (k : Nat) (l : List Pr) (p : Pr) (a : Nat) (ha : a ≤ l.length) (hl : l.length ≤ 1000) (hs : a = 0 ∨ ∃ h : a - 1 < l.length, ltP p l[a - 1] = false ∧ 0 < a) :
    ref08_put.l0 (k + 1) l (a : Int) p.f0 p.f1 p.f2.f0 p.f2.f1 = some (l.take a ++ [p] ++ l.drop a) := by
  have e1 : (0 : Int) ≤ (a : Int) := by omega
  have e2 : (a : Int) ≤ (l.length : Int) := by omega
  have e3 : ([] : List Pr).length + (l.take a).length < 2932031007402 := by simp; omega
  have e4 : (([] : List Pr) ++ l.take a).length < 2932031007402 := by simp; omega
  have e5 : ((([] : List Pr) ++ l.take a) ++ [p]).length + (l.drop a).length < 2932031007402 := by simp; omega
  have e0 : ((a : Int)).toNat = a := by omega
  simp only [ref08_put.l0]
  rcases hs with rfl | ⟨h, hq, h0⟩
  · rw [if_neg (by omega), if_pos e1, if_pos e2]
    simp only [Option.bind_some, e0]
    rw [if_pos e3, if_pos e4, if_pos e5]
    rfl
  · have hw : wrap64 ((a : Int) - 1) = ((a - 1 : Nat) : Int) := by unfold wrap64; omega
    rw [if_pos (by omega), hw, if_pos (by omega), if_pos (by omega), rdP_at l (a - 1) h, rless_f, hq]
    simp only [Option.bind_some]
    rw [if_neg (by simp), if_pos e1, if_pos e2]
    simp only [Option.bind_some, e0]
    rw [if_pos e3, if_pos e4, if_pos e5]
    rfl
theorem rput_loop (l : List Pr) (p : Pr) (hl : l.length ≤ 1000) (hu : l.Pairwise pLt) (hp : p ∉ l) : ∀ (a k : Nat), a ≤ l.length → a < k → (∀ x ∈ l.drop a, ltP p x = true) →
    ∃ r, ref08_put.l0 k l (a : Int) p.f0 p.f1 p.f2.f0 p.f2.f1 = some r ∧ r.Pairwise pLt ∧ (∀ x, x ∈ r ↔ x ∈ l ∨ x = p) ∧ r.length = l.length + 1
  | a, 0, _, h, _ => by omega
  | 0, k + 1, h0, hk, hd => by
    refine ⟨_, rput_stop k l p 0 h0 hl (.inl rfl), ?_, ?_, ?_⟩
    · simp only [List.take_zero, List.nil_append, List.drop_zero]
      refine List.pairwise_append.2 ⟨List.pairwise_singleton _ _, hu, fun x hx y hy => ?_⟩
      rw [List.mem_singleton.1 hx]
      exact hd y (by simpa using hy)
    · intro x; simp; exact or_comm
    · simp
  | a + 1, k + 1, h0, hk, hd => by
    have ha : a < l.length := by omega
    cases hq : ltP p l[a] with
    | true =>
      have hd' : ∀ x ∈ l.drop a, ltP p x = true := fun x hx => by
        rw [List.drop_eq_getElem_cons ha] at hx
        rcases List.mem_cons.1 hx with rfl | hx
        · exact hq
        · exact hd x hx
      obtain ⟨r, h1, h2⟩ := rput_loop l p hl hu hp a k (by omega) (by omega) hd'
      refine ⟨r, ?_, h2⟩
      have hw : wrap64 (((a + 1 : Nat) : Int) - 1) = (a : Int) := wrapDn (by omega)
      simp only [ref08_put.l0]
      rw [if_pos (by omega), hw, if_pos (by omega), if_pos (by omega), rdP_at l a ha, rless_f, hq]
      simp only [Option.bind_some, if_true]
      exact h1
    | false =>
      refine ⟨_, rput_stop k l p (a + 1) h0 hl (.inr ⟨by simpa using ha, by simpa using hq, by omega⟩), ?_, ?_, ?_⟩
      · have hlt : ltP l[a] p = true := by
          rcases ltP_tri l[a] p with h | h | h
          · exact h
          · exact absurd (h ▸ List.getElem_mem ha) hp
          · rw [hq] at h; cases h
        have ht : ∀ x ∈ l.take (a + 1), ltP x p = true := fun x hx => by
          obtain ⟨i, hi, rfl⟩ := List.mem_iff_getElem.1 hx
          rw [List.getElem_take]
          rw [List.length_take] at hi
          rcases Nat.lt_or_ge i a with h | h
          · exact ltP_trans (List.pairwise_iff_getElem.1 hu i a (by omega) ha h) hlt
          · have : i = a := by omega
            subst this; exact hlt
        refine List.pairwise_append.2 ⟨List.pairwise_append.2 ⟨hu.sublist (List.take_sublist _ _), List.pairwise_singleton _ _, fun x hx y hy => ?_⟩, hu.sublist (List.drop_sublist _ _), fun x hx y hy => ?_⟩
        · rw [List.mem_singleton.1 hy]; exact ht x hx
        · rcases List.mem_append.1 hx with hx | hx
          · exact ltP_trans (ht x hx) (hd y hy)
          · rw [List.mem_singleton.1 hx]; exact hd y hy
      · intro x
        have : x ∈ l ↔ x ∈ l.take (a + 1) ∨ x ∈ l.drop (a + 1) := by
          rw [← List.mem_append, List.take_append_drop]
        rw [this]
        simp only [List.mem_append, List.mem_singleton]
        constructor
        · rintro ((h | h) | h)
          · exact .inl (.inl h)
          · exact .inr h
          · exact .inl (.inr h)
        · rintro ((h | h) | h)
          · exact .inl (.inl h)
          · exact .inr h
          · exact .inl (.inr h)
      · simp; omega
theorem rput_f (k : Nat) (l : List Pr) (p : Pr) (hk : l.length < k) (hl : l.length ≤ 1000) (hu : l.Pairwise pLt) : ∃ r, ref08_put.f k l p.f0 p.f1 p.f2.f0 p.f2.f1 = some r ∧ r.Pairwise pLt ∧ (∀ x, x ∈ r ↔ x ∈ l ∨ x = p) ∧ r.length ≤ l.length + 1 := by
  unfold ref08_put.f
  rw [rhas_f k l p hk hl]
  simp only [Option.bind_some, decide_eq_true_eq]
  by_cases h : p ∈ l
  · rw [if_pos h]
    exact ⟨l, rfl, hu, fun x => ⟨.inl, fun hx => hx.elim id (fun e => e ▸ h)⟩, by omega⟩
  · rw [if_neg h]
    obtain ⟨r, h1, h2, h3, h4⟩ := rput_loop l p hl hu h l.length k (Nat.le_refl _) hk (by simp)
    exact ⟨r, h1, h2, h3, by omega⟩
theorem radd_f (k : Nat) (l : List Pr) (p : Pr) (hk : 300 < k) (hl : l.length ≤ 30) (ho : okL l) (hp : okPair p) (hs : smL l) (hs1 : smL [p]) : ref08_Add.f k l p.f0 p.f1 p.f2.f0 p.f2.f1 = some (addP l p) := by
  unfold ref08_Add.f
  rw [rmay_f k l (by omega) (by omega) hs]
  simp only [Option.bind_some]
  rw [show ref08_May.f k [(⟨p.f0, p.f1, ⟨p.f2.f0, p.f2.f1⟩⟩ : Pr)] = some (mayP [p]) from rmay_f k [p] (by simp; omega) (by simp) hs1]
  simp only [Option.bind_some]
  cases m : mayP l with
  | false => simp [addP, m]
  | true =>
    cases m1 : mayP [p] with
    | false => simp [addP, m1]
    | true =>
      rw [if_pos rfl, if_pos rfl, if_pos (by simp; omega), List.nil_append]
      obtain ⟨r, h1, h2, h3, _⟩ := rput_f k l p (by omega) (by omega) (may_up m)
      rw [h1]
      simp only [Option.bind_some]
      rw [up_ext h2 (addP_up l p) (fun x => by rw [h3, addP_mem ho hp m m1])]
theorem rdel_loop (a b : ByteArray) : ∀ (suf pre out : List Pr) (k : Nat), suf.length * 2 + 1 < k → (pre ++ suf).length ≤ 1000 → out.length ≤ pre.length →
    ref08_Del.l0 k (pre ++ suf) a b true out ((pre.length : Nat) : Int) = some (out ++ keepP a b suf)
  | suf, pre, out, 0, hk, _, _ => by omega
  | suf, pre, out, 1, hk, _, _ => by omega
  | [], pre, out, k + 1 + 1, _, _, _ => by
    simp only [ref08_Del.l0]
    rw [if_neg (by simp)]
    simp [ref08_Del.j1, keepP]
  | x :: suf, pre, out, k + 1 + 1, hk, hl, ho => by
    have hlt : ((pre.length : Nat) : Int) < (((pre ++ x :: suf).length : Nat) : Int) := by simp; omega
    have hpl : pre.length < 4611686018427387904 := by simp at hl; omega
    have hol : out.length < 2932031007402 := by simp at hl; omega
    have ih0 := rdel_loop a b suf (pre ++ [x]) out k (by simp at hk; omega) (by simpa using hl) (by simp; omega)
    have ih1 := rdel_loop a b suf (pre ++ [x]) (out ++ [x]) k (by simp at hk; omega) (by simpa using hl) (by simp; omega)
    rw [app_one, len_one] at ih0 ih1
    simp only [ref08_Del.l0]
    rw [if_pos hlt]
    simp only [ref08_Del.j1]
    rw [if_pos (by first | rfl | trivial), if_pos (by omega), if_pos hlt, rdP_mid, wrapUp hpl]
    have hk1 : keepP a b (x :: suf) = if goneB a b x = true then keepP a b suf else x :: keepP a b suf := by
      unfold keepP
      cases h : goneB a b x <;> simp [h]
    rw [hk1]
    unfold goneB
    split
    · rename_i h1
      split
      · rename_i h2
        rw [ih0, if_pos (by simp [h1, h2])]
      · rename_i h2
        first | rw [if_pos hol, if_neg (by simp [h2])] | rw [if_neg (by simp [h2])]
        refine ih1.trans ?_
        simp
    · rename_i h1
      first | rw [if_pos hol, if_neg (by simp [h1])] | rw [if_neg (by simp [h1])]
      refine ih1.trans ?_
      simp
theorem rdel_f (k : Nat) (l : List Pr) (a b : ByteArray) (hk : 300 < k) (hl : l.length ≤ 30) (hs : smL l) : ref08_Del.f k l a b = some (delP l a b) := by
  unfold ref08_Del.f
  rw [rmay_f k l (by omega) (by omega) hs]
  simp only [Option.bind_some]
  cases m : mayP l with
  | false =>
    obtain ⟨q, rfl⟩ : ∃ q, k = q + 1 + 1 := ⟨k - 2, by omega⟩
    simp only [ref08_Del.l0]
    have hj : ref08_Del.j1 (q + 1) l a b false [] 0 false = some [] := by simp [ref08_Del.j1]
    simp only [delP, m]
    split
    · exact hj
    · exact hj
  | true =>
    have h := rdel_loop a b l [] [] k (by omega) (by simp; omega) (Nat.le_refl _)
    simp only [List.nil_append, List.length_nil] at h
    refine h.trans ?_
    simp [delP, m]
/-- what the document merges, in between -/
def rcondA (base b : List Pr) (x : Pr) : Prop := x ∈ b ∨ ¬ x ∈ base
def rcondB (base a : List Pr) (x : Pr) : Prop := ¬ x ∈ a ∧ ¬ x ∈ base
theorem rmerge_l1 (base a : List Pr) (hb : base.length ≤ 30) (ha : a.length ≤ 30) : ∀ (suf pre out : List Pr) (k : Nat), suf.length + 200 < k → (pre ++ suf).length ≤ 30 → out.length ≤ 30 + pre.length → out.Pairwise pLt →
    ∃ r, ref08_Merge.l1 k base a (pre ++ suf) out ((pre.length : Nat) : Int) = some r ∧ r.Pairwise pLt ∧ (∀ x, x ∈ r ↔ x ∈ out ∨ (x ∈ suf ∧ rcondB base a x)) ∧ r.length ≤ 30 + (pre ++ suf).length
  | suf, pre, out, 0, hk, _, _, _ => by omega
  | [], pre, out, k + 1, _, hl, hol, hu => by
    simp only [ref08_Merge.l1]
    rw [if_neg (by simp)]
    exact ⟨out, rfl, hu, fun x => by simp, by simpa using hol⟩
  | x :: suf, pre, out, k + 1, hk, hl, hol, hu => by
    have hlt : ((pre.length : Nat) : Int) < (((pre ++ x :: suf).length : Nat) : Int) := by simp; omega
    have hpl : pre.length < 4611686018427387904 := by simp at hl; omega
    have hpl2 : pre.length < 30 := by simp at hl; omega
    have ih := fun (out' : List Pr) (h1 : out'.length ≤ 30 + (pre.length + 1)) (h2 : out'.Pairwise pLt) => rmerge_l1 base a hb ha suf (pre ++ [x]) out' k (by simp at hk; omega) (by simpa using hl) (by simpa using h1) h2
    simp only [app_one, len_one] at ih
    simp only [ref08_Merge.l1]
    rw [if_pos hlt, if_pos (by omega), rdP_mid, rhas_f k a x (by simp at hk; omega) (by omega), rhas_f k base x (by simp at hk; omega) (by omega)]
    simp only [Option.bind_some, decide_eq_true_eq, wrapUp hpl]
    by_cases h1 : x ∈ a
    · rw [if_pos h1]
      obtain ⟨r, e1, e2, e3, e4⟩ := ih out (by omega) hu
      refine ⟨r, e1, e2, fun y => ?_, e4⟩
      rw [e3]
      constructor
      · rintro (h | ⟨h, h'⟩)
        · exact .inl h
        · exact .inr ⟨List.mem_cons_of_mem _ h, h'⟩
      · rintro (h | ⟨h, h'⟩)
        · exact .inl h
        · rcases List.mem_cons.1 h with rfl | h
          · exact absurd h1 h'.1
          · exact .inr ⟨h, h'⟩
    · rw [if_neg h1]
      by_cases h2 : x ∈ base
      · rw [if_pos h2]
        obtain ⟨r, e1, e2, e3, e4⟩ := ih out (by omega) hu
        refine ⟨r, e1, e2, fun y => ?_, e4⟩
        rw [e3]
        constructor
        · rintro (h | ⟨h, h'⟩)
          · exact .inl h
          · exact .inr ⟨List.mem_cons_of_mem _ h, h'⟩
        · rintro (h | ⟨h, h'⟩)
          · exact .inl h
          · rcases List.mem_cons.1 h with rfl | h
            · exact absurd h2 h'.2
            · exact .inr ⟨h, h'⟩
      · rw [if_neg h2]
        obtain ⟨o, p1, p2, p3, p4⟩ := rput_f k out x (by simp at hk; omega) (by omega) hu
        rw [p1]
        simp only [Option.bind_some]
        obtain ⟨r, e1, e2, e3, e4⟩ := ih o (by omega) p2
        refine ⟨r, e1, e2, fun y => ?_, e4⟩
        rw [e3, p3]
        constructor
        · rintro ((h | h) | ⟨h, h'⟩)
          · exact .inl h
          · exact .inr ⟨by rw [h]; exact List.mem_cons_self, by rw [h]; exact ⟨h1, h2⟩⟩
          · exact .inr ⟨List.mem_cons_of_mem _ h, h'⟩
        · rintro (h | ⟨h, h'⟩)
          · exact .inl (.inl h)
          · rcases List.mem_cons.1 h with h | h
            · exact .inl (.inr h)
            · exact .inr ⟨h, h'⟩
theorem rmerge_l0 (base b : List Pr) (hb : base.length ≤ 30) (hbl : b.length ≤ 30) : ∀ (suf pre out : List Pr) (k : Nat), suf.length + 300 < k → (pre ++ suf).length ≤ 30 → out.length ≤ pre.length → out.Pairwise pLt →
    ∃ r, ref08_Merge.l0 k base (pre ++ suf) b out ((pre.length : Nat) : Int) = some r ∧ r.Pairwise pLt ∧ (∀ x, x ∈ r ↔ (x ∈ out ∨ (x ∈ suf ∧ rcondA base b x)) ∨ (x ∈ b ∧ rcondB base (pre ++ suf) x)) ∧ r.length ≤ 60
  | suf, pre, out, 0, hk, _, _, _ => by omega
  | [], pre, out, k + 1, hk, hl, hol, hu => by
    simp only [ref08_Merge.l0]
    rw [if_neg (by simp)]
    obtain ⟨r, e1, e2, e3, e4⟩ := rmerge_l1 base (pre ++ []) hb hl b [] out k (by simp at hk; omega) (by simpa using hbl) (by simp at hl; simp; omega) hu
    simp only [List.nil_append, List.length_nil] at e1 e4
    refine ⟨r, e1, e2, fun x => ?_, by omega⟩
    rw [e3]; simp
  | x :: suf, pre, out, k + 1, hk, hl, hol, hu => by
    have hlt : ((pre.length : Nat) : Int) < (((pre ++ x :: suf).length : Nat) : Int) := by simp; omega
    have hpl : pre.length < 4611686018427387904 := by simp at hl; omega
    have hpl2 : pre.length < 30 := by simp at hl; omega
    have ih := fun (out' : List Pr) (h1 : out'.length ≤ pre.length + 1) (h2 : out'.Pairwise pLt) => rmerge_l0 base b hb hbl suf (pre ++ [x]) out' k (by simp at hk; omega) (by simpa using hl) (by simpa using h1) h2
    simp only [app_one, len_one] at ih
    simp only [ref08_Merge.l0]
    rw [if_pos hlt, if_pos (by omega), rdP_mid, rhas_f k b x (by simp at hk; omega) (by omega), rhas_f k base x (by simp at hk; omega) (by omega)]
    simp only [Option.bind_some, decide_eq_true_eq, wrapUp hpl]
    have skip : ¬ rcondA base b x → ∀ (r : List Pr), (∀ y, y ∈ r ↔ (y ∈ out ∨ (y ∈ suf ∧ rcondA base b y)) ∨ (y ∈ b ∧ rcondB base (pre ++ x :: suf) y)) → ∀ y, y ∈ r ↔ (y ∈ out ∨ (y ∈ x :: suf ∧ rcondA base b y)) ∨ (y ∈ b ∧ rcondB base (pre ++ x :: suf) y) := by
      intro hn r hr y
      rw [hr]
      constructor
      · rintro ((h | ⟨h, h'⟩) | h)
        · exact .inl (.inl h)
        · exact .inl (.inr ⟨List.mem_cons_of_mem _ h, h'⟩)
        · exact .inr h
      · rintro ((h | ⟨h, h'⟩) | h)
        · exact .inl (.inl h)
        · rcases List.mem_cons.1 h with rfl | h
          · exact absurd h' hn
          · exact .inl (.inr ⟨h, h'⟩)
        · exact .inr h
    have put : rcondA base b x → ∀ (o r : List Pr), (∀ y, y ∈ o ↔ y ∈ out ∨ y = x) → (∀ y, y ∈ r ↔ (y ∈ o ∨ (y ∈ suf ∧ rcondA base b y)) ∨ (y ∈ b ∧ rcondB base (pre ++ x :: suf) y)) → ∀ y, y ∈ r ↔ (y ∈ out ∨ (y ∈ x :: suf ∧ rcondA base b y)) ∨ (y ∈ b ∧ rcondB base (pre ++ x :: suf) y) := by
      intro hn o r ho hr y
      rw [hr, ho]
      constructor
      · rintro (((h | h) | ⟨h, h'⟩) | h)
        · exact .inl (.inl h)
        · exact .inl (.inr ⟨by rw [h]; exact List.mem_cons_self, by rw [h]; exact hn⟩)
        · exact .inl (.inr ⟨List.mem_cons_of_mem _ h, h'⟩)
        · exact .inr h
      · rintro ((h | ⟨h, h'⟩) | h)
        · exact .inl (.inl (.inl h))
        · rcases List.mem_cons.1 h with h | h
          · exact .inl (.inl (.inr h))
          · exact .inl (.inr ⟨h, h'⟩)
        · exact .inr h
    have doput : rcondA base b x → ∃ r, ((ref08_put.f k out x.f0 x.f1 x.f2.f0 x.f2.f1).bind fun t => ref08_Merge.l0 k base (pre ++ x :: suf) b t ((pre.length + 1 : Nat) : Int)) = some r ∧ r.Pairwise pLt ∧ (∀ y, y ∈ r ↔ (y ∈ out ∨ (y ∈ x :: suf ∧ rcondA base b y)) ∨ (y ∈ b ∧ rcondB base (pre ++ x :: suf) y)) ∧ r.length ≤ 60 := by
      intro hn
      obtain ⟨o, p1, p2, p3, p4⟩ := rput_f k out x (by simp at hk; omega) (by omega) hu
      rw [p1]
      simp only [Option.bind_some]
      obtain ⟨r, e1, e2, e3, e4⟩ := ih o (by omega) p2
      exact ⟨r, e1, e2, put hn o r p3 e3, e4⟩
    by_cases h1 : x ∈ b
    · rw [if_pos h1]
      exact doput (.inl h1)
    · rw [if_neg h1]
      by_cases h2 : x ∈ base
      · rw [if_pos h2]
        obtain ⟨r, e1, e2, e3, e4⟩ := ih out (by omega) hu
        exact ⟨r, e1, e2, skip (fun h => h.elim h1 (fun h => h h2)) r e3, e4⟩
      · rw [if_neg h2]
        exact doput (.inr h2)
theorem rmerge_f (k : Nat) (base a b : List Pr) (hk : 500 < k) (lb : base.length ≤ 30) (la : a.length ≤ 30) (lc : b.length ≤ 30) (ob : okL base) (oa : okL a) (oc : okL b) (sb : smL base) (sa : smL a) (sc : smL b) : ref08_Merge.f k base a b = some (mergeP base a b) := by
  obtain ⟨q, rfl⟩ : ∃ q, k = q + 1 := ⟨k - 1, by omega⟩
  have hj : ref08_Merge.j0 (q + 1) base a b true = some [] := by simp [ref08_Merge.j0]
  unfold ref08_Merge.f
  rw [rmay_f _ base (by omega) (by omega) sb, rmay_f _ a (by omega) (by omega) sa, rmay_f _ b (by omega) (by omega) sc]
  simp only [Option.bind_some]
  cases m0 : mayP base with
  | false => rw [if_neg (by simp), hj]; simp [mergeP, m0]
  | true =>
    cases m1 : mayP a with
    | false => rw [if_pos rfl, if_neg (by simp), hj]; simp [mergeP, m1]
    | true =>
      rw [if_pos rfl, if_pos rfl]
      cases m2 : mayP b with
      | false => rw [Bool.not_false, hj]; simp [mergeP, m2]
      | true =>
        obtain ⟨r, e1, e2, e3, _⟩ := rmerge_l0 base b lb lc a [] [] q (by omega) (by simpa using la) (by simp) List.Pairwise.nil
        simp only [ref08_Merge.j0, Bool.not_true]
        rw [if_neg (by simp)]
        refine e1.trans (congrArg some (up_ext e2 (mergeP_up _ _ _) fun x => ?_))
        rw [e3, mergeP_mem ob oa oc (by omega) (by omega) (by omega) m0 m1 m2]
        unfold rcondA rcondB
        by_cases h1 : x ∈ base <;> by_cases h2 : x ∈ a <;> by_cases h3 : x ∈ b <;> simp [h1, h2, h3]
/-- a key's elements -/
theorem mk_inj (a : ByteArray) : (⟨a.data.toList.toArray⟩ : ByteArray) = a := by simp
theorem relems_loop (key : ByteArray) : ∀ (suf pre : List Pr) (k : Nat), suf.length < k → (pre ++ suf).length ≤ 1000 →
    ref08_Elems.l0 k (pre ++ suf) key ((Lib.compact (elemL pre key)).map fun b => ⟨b.toArray⟩) ((pre.length : Nat) : Int) = some (elemsP (pre ++ suf) key)
  | suf, pre, 0, hk, _ => by omega
  | [], pre, k + 1, _, _ => by
    simp only [ref08_Elems.l0]
    rw [if_neg (by simp)]
    simp [elemsP]
  | x :: suf, pre, k + 1, hk, hl => by
    have hlt : ((pre.length : Nat) : Int) < (((pre ++ x :: suf).length : Nat) : Int) := by simp; omega
    have hpl : pre.length < 4611686018427387904 := by simp at hl; omega
    have hpl2 : pre.length ≤ 1000 := by simp at hl; omega
    have ih := relems_loop key suf (pre ++ [x]) k (by simp at hk; omega) (by simpa using hl)
    rw [app_one, len_one] at ih
    have he : elemL (pre ++ [x]) key = elemL pre key ++ (if keyIs key x = true then [x.f1.data.toList] else []) := by
      unfold elemL
      rw [List.filter_append, List.map_append]
      congr 1
      cases hq : keyIs key x <;> simp [hq]
    have hcl : (Lib.compact (elemL pre key)).length ≤ 1000 := Nat.le_trans (compact_len _) (Nat.le_trans (elemL_len _ _) hpl2)
    have hlast := compact_last (elemL pre key)
    simp only [ref08_Elems.l0]
    rw [if_pos hlt, if_pos (by omega), rdP_mid, wrapUp hpl]
    by_cases hk1 : x.f0.toList = key.toList
    · have hkk : keyIs key x = true := by unfold keyIs; exact beq_iff_eq.2 hk1
      rw [if_pos hk1]
      rw [he, if_pos hkk, compact_snoc] at ih
      generalize hZ : elemL pre key = Z at ih hcl hlast ⊢
      have hmk : (fun b : Tx => (⟨b.toArray⟩ : ByteArray)) x.f1.data.toList = x.f1 := mk_inj x.f1
      rcases List.eq_nil_or_concat (Lib.compact Z) with h0 | ⟨p, y, h0⟩
      · have hzl : Z.getLast? = none := by rw [← hlast, h0]; rfl
        rw [hzl, if_neg (by simp), h0] at ih
        rw [h0]
        simp only [List.map_nil, List.length_nil]
        rw [if_neg (by simp), if_pos (by omega)]
        simpa using ih
      · rw [List.concat_eq_append] at h0
        have hzl : Z.getLast? = some y := by rw [← hlast, h0, List.getLast?_concat]
        rw [hzl] at ih
        have hlen : (Lib.compact Z).length = p.length + 1 := by rw [h0]; simp
        have hrd : (rdOf ByteArray.empty ((Lib.compact Z).map fun b => (⟨b.toArray⟩ : ByteArray)) ((p.length : Nat) : Int)).toList = y := by
          have : rdOf ByteArray.empty ((Lib.compact Z).map fun b => (⟨b.toArray⟩ : ByteArray)) ((p.length : Nat) : Int) = ⟨y.toArray⟩ := by
            rw [h0]; simp [rdOf, List.getD_eq_getElem?_getD]
          rw [this, dl_toList]
        have hw : wrap64 ((((Lib.compact Z).map fun b => (⟨b.toArray⟩ : ByteArray)).length : Int) - 1) = ((p.length : Nat) : Int) := by
          rw [List.length_map, hlen]; exact wrapDn (by omega)
        rw [if_pos (by rw [List.length_map]; omega), hw, if_pos (by omega), if_pos (by rw [List.length_map]; omega), hrd]
        by_cases h2 : y = x.f1.toList
        · rw [if_pos h2]
          rw [if_pos (by rw [h2, dl_toList])] at ih
          exact ih
        · rw [if_neg h2, if_pos (by rw [List.length_map]; omega)]
          rw [if_neg (by rw [← dl_toList]; simpa using h2), List.map_append] at ih
          simpa using ih
    · have hkk : keyIs key x = false := by unfold keyIs; exact beq_eq_false_iff_ne.2 hk1
      rw [if_neg hk1]
      rw [he, if_neg (by simp [hkk]), List.append_nil] at ih
      exact ih
theorem relems_f (k : Nat) (l : List Pr) (key : ByteArray) (hk : l.length < k) (hl : l.length ≤ 1000) : ref08_Elems.f k l key = some (elemsP l key) := by
  have h := relems_loop key l [] k hk (by simpa using hl)
  have e : elemL [] key = [] := rfl
  rw [e] at h
  simpa [ref08_Elems.f, Lib.compact, Lib.compactUpTo] using h
theorem rtexts_loop (l : List ByteArray) (hl : l.length < 4611686018427387904) : ∀ (d k n : Nat), n + d = l.length → d < k → law08_texts.l0 k l l (n : Int) = some true
  | d, 0, n, _, h => by omega
  | 0, k + 1, n, h, _ => by
    simp only [law08_texts.l0]
    rw [if_neg (by omega)]
  | d + 1, k + 1, n, h, hk => by
    have ih := rtexts_loop l hl d k (n + 1) (by omega) (by omega)
    simp only [law08_texts.l0]
    rw [if_pos (by omega), if_pos (by omega), if_pos (by omega), if_pos trivial, wrapUp (by omega)]
    exact ih
theorem rtexts_f (k : Nat) (l : List ByteArray) (hl : l.length < k) (hk : k < 1000000) : law08_texts.f k l l = some true := by
  unfold law08_texts.f
  rw [if_pos rfl]
  exact rtexts_loop l (by omega) l.length k 0 (by omega) hl
end Go.Proofs.Ytannmdngejdjkaa.L
end
section
/- PairTells, plain: it answers true. -/
namespace Go.Proofs.Ytannmdngejdjkaa.L
open Go.RowKit Go.Proofs.YtannmdngejdjkaaW.PrintWords Go.Proofs.YtannmdngejdjkaaW.PrintLast Go.Proofs.YtannmdngejdjkaaW.PrintMore Go.Proofs.YtannmdngejdjkaaW
set_option linter.unusedVariables false
theorem tells_true (k : Nat) (l a b : List Pr) (x y : ByteArray) (z u : Int) : law08_PairTells.j0 (k + 1) l a b true true x y z u = some true := by
  simp only [law08_PairTells.j0]; rfl
theorem tells_loop (a : List Pr) (la : a.length ≤ 30) (oa : okL a) (p : Pr) : ∀ (suf pre : List Pr) (k : Nat), a = pre ++ suf → suf.length + 100 < k →
    law08_PairTells.l0 k a (mayP a) true true true true ((pre.length : Nat) : Int) p.f0 p.f1 p.f2.f0 p.f2.f1 = some true
  | suf, pre, 0, _, hk => by omega
  | [], pre, k + 1, e, hk => by
    have hl : a.length = pre.length := by rw [e]; simp
    simp only [law08_PairTells.l0]
    rw [if_neg (by omega), mayPk k a (by simp at hk; omega) (by omega) oa]
    simp
  | x :: suf, pre, k + 1, e, hk => by
    have hlt : ((pre.length : Nat) : Int) < ((a.length : Nat) : Int) := by rw [e]; simp; omega
    have hpl : pre.length < 4611686018427387904 := by omega
    have ih := tells_loop a la oa p suf (pre ++ [x]) k (by rw [app_one]; exact e) (by simp at hk; omega)
    rw [len_one] at ih
    have hrd : rd_T57 a ((pre.length : Nat) : Int) = x := by rw [e]; exact rdP_mid pre suf x
    obtain ⟨q, rfl⟩ : ∃ q, k = q + 5 := ⟨k - 5, by simp at hk; omega⟩
    simp only [law08_PairTells.l0]
    rw [if_pos hlt, if_pos (by omega), hrd, rless_f, less_f]
    simp only [Option.bind_some, wrapUp hpl]
    rw [if_neg (by simp)]
    exact ih
theorem addP_fT {l : List Pr} (a b : ByteArray) (c d : Int) (ho : okL l) (hp : okPair ⟨a, b, ⟨c, d⟩⟩) (hl : l.length ≤ 1000) : pair_Add.f l a b c d = some (addP l ⟨a, b, ⟨c, d⟩⟩) := addP_f (p := ⟨a, b, ⟨c, d⟩⟩) ho hp hl
theorem tells_j (k : Nat) (hk : 900 ≤ k) (hk2 : k < 1000) (l a b : List Pr) (x y : ByteArray) (z u : Int) (ol : okL l) (oa : okL a) (ob : okL b) (op : okPair ⟨x, y, ⟨z, u⟩⟩) (fl : fewP l = true) (fa : fewP a = true) (fb : fewP b = true) (fp : fewP [(⟨x, y, ⟨z, u⟩⟩ : Pr)] = true) : law08_PairTells.j0 (k + 1) l a b true false x y z u = some true := by
  have ll := fewP_len fl
  have la := fewP_len fa
  have lb := fewP_len fb
  have sl := fewP_sm fl
  have sa := fewP_sm fa
  have sb := fewP_sm fb
  have sp := fewP_sm fp
  have l1 := addP_len a ⟨x, y, ⟨z, u⟩⟩
  have l2 := delP_len a x y
  have l3 := mergeP_len l a b
  have l4 : (elemsP a x).length ≤ a.length := by rw [elemsP_eq, List.length_map]; exact elemC_len a x
  simp only [law08_PairTells.j0]
  rw [if_neg (by simp), rmay_f k a (by omega) (by omega) sa]
  simp only [Option.bind_some]
  rw [addP_fT x y z u oa op (by omega)]
  simp only [Option.bind_some]
  rw [show ref08_Add.f k a x y z u = some (addP a ⟨x, y, ⟨z, u⟩⟩) from radd_f k a ⟨x, y, ⟨z, u⟩⟩ (by omega) la oa op sa sp]
  simp only [Option.bind_some]
  rw [sameP_f k rfl (by omega) (by omega)]
  simp only [Option.bind_some]
  rw [delP_f oa (by omega)]
  simp only [Option.bind_some]
  rw [rdel_f k a x y (by omega) la sa]
  simp only [Option.bind_some]
  rw [sameP_f k rfl (by omega) (by omega)]
  simp only [Option.bind_some]
  rw [mergeP_f ol oa ob (by omega) (by omega) (by omega)]
  simp only [Option.bind_some]
  rw [rmerge_f k l a b (by omega) ll la lb ol oa ob sl sa sb]
  simp only [Option.bind_some]
  rw [sameP_f k rfl (by omega) (by omega)]
  simp only [Option.bind_some]
  rw [elemsP_f oa (by omega)]
  simp only [Option.bind_some]
  rw [relems_f k a x (by omega) (by omega)]
  simp only [Option.bind_some]
  rw [rtexts_f k _ (by omega) (by omega)]
  simp only [Option.bind_some]
  exact tells_loop a la oa ⟨x, y, ⟨z, u⟩⟩ a [] k rfl (by omega)
theorem pairTells_pure' (k : Nat) (hk : 900 ≤ k) (hk2 : k < 1000) (l a b : List Pr) (x y : ByteArray) (z u : Int) (ol : okL l) (oa : okL a) (ob : okL b) (op : okPair ⟨x, y, ⟨z, u⟩⟩) : law08_PairTells.f (k + 1) l a b x y z u = some true := by
  have ht := tells_true k l a b x y z u
  unfold law08_PairTells.f
  rw [awakeP_k _ (by omega), fewP_f _ l (by omega), fewP_f _ a (by omega), fewP_f _ b (by omega), fewP_f _ [(⟨x, y, ⟨z, u⟩⟩ : Pr)] (by omega)]
  simp only [Option.bind_some, if_true]
  cases h1 : fewP l with
  | false => exact ht
  | true =>
    cases h2 : fewP a with
    | false => exact ht
    | true =>
      cases h3 : fewP b with
      | false => exact ht
      | true =>
        cases h4 : fewP [(⟨x, y, ⟨z, u⟩⟩ : Pr)] with
        | false => exact ht
        | true => exact tells_j k hk hk2 l a b x y z u ol oa ob op h1 h2 h3 h4
theorem pairTells_pure (l0 l1 l2 : List Pr) (x y : ByteArray) (z u : Int) (h0 : okL l0) (h1 : okL l1) (h2 : okL l2) (h3 : okPair ⟨x, y, ⟨z, u⟩⟩) : ∃ k, law08_PairTells.f k l0 l1 l2 x y z u = some true := ⟨900 + 1, pairTells_pure' 900 (by omega) (by omega) l0 l1 l2 x y z u h0 h1 h2 h3⟩
end Go.Proofs.Ytannmdngejdjkaa.L
end
