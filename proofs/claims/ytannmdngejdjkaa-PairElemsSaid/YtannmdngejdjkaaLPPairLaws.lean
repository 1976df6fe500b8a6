/- Pairs: what is added, taken away and merged, as sets. Plain. -/
import Derived.Test.YtannmdngejdjkaaLHPairMerge
import Derived.Test.YtannmdngejdjkaaLHPairElems
namespace Go.Proofs.Ytannmdngejdjkaa.L
open Go.RowKit Go.Sort Go.Proofs.YtannmdngejdjkaaW.PrintWords Go.Proofs.YtannmdngejdjkaaW.PrintLast Go.Proofs.YtannmdngejdjkaaW.PrintMore Go.Proofs.YtannmdngejdjkaaW
set_option linter.unusedVariables false
set_option linter.unusedSimpArgs false
abbrev okL (l : List Pr) : Prop := ∀ x ∈ l, okPair x
theorem getQ_fold : ∀ (l : List Pr) (es : MapQ) (B : Nat), (∀ q, 0 ≤ getQ es q ∧ getQ es q ≤ B) → B + l.length < 4611686018427387904 → okL l → ∀ p, okPair p →
    (0 < getQ (l.foldl incQ es) p ↔ (0 < getQ es p ∨ p ∈ l))
  | [], es, B, _, _, _, p, _ => by simp
  | x :: l, es, B, hB, hl, ho, p, hp => by
    have h1 : ∀ q, 0 ≤ getQ (incQ es x) q ∧ getQ (incQ es x) q ≤ (B + 1 : Nat) := by
      intro q
      unfold incQ
      rw [getQ_set]
      have := hB x
      have := hB q
      simp at hl
      split
      · unfold wrap64; omega
      · omega
    have ih := getQ_fold l (incQ es x) (B + 1) h1 (by simp at hl; omega) (fun y hy => ho y (List.mem_cons_of_mem _ hy)) p hp
    show 0 < getQ (l.foldl incQ (incQ es x)) p ↔ _
    rw [ih, List.mem_cons]
    have hx := hB x
    have e : 0 < getQ (incQ es x) p ↔ (0 < getQ es p ∨ p = x) := by
      unfold incQ
      rw [getQ_set]
      by_cases hk : kbP p = kbP x
      · have := kbP_inj hp (ho x List.mem_cons_self) hk
        rw [if_pos hk]
        simp at hl
        constructor
        · intro _; exact .inr this
        · intro _; unfold wrap64; omega
      · rw [if_neg hk]
        constructor
        · exact .inl
        · rintro (h | h)
          · exact h
          · exact absurd (by rw [h]) hk
    rw [e]
    constructor
    · rintro ((h | h) | h)
      · exact .inl h
      · exact .inr (.inl h)
      · exact .inr (.inr h)
    · rintro (h | h | h)
      · exact .inl (.inl h)
      · exact .inl (.inr h)
      · exact .inr h
theorem inP_iff {l : List Pr} (ho : okL l) (hl : l.length < 1000000) {p : Pr} (hp : okPair p) : inP l p = true ↔ p ∈ l := by
  unfold inP
  rw [decide_eq_true_eq]
  have := getQ_fold l [] 0 (fun q => by simp [getQ]) (by omega) ho p hp
  rw [show ofQ l = l.foldl incQ [] from rfl, this]
  simp [getQ]
theorem keys_mem {l : List Pr} (ho : okL l) {p : Pr} : p ∈ (ofQ l).map Prod.fst ↔ p ∈ l := by
  constructor
  · intro h
    obtain ⟨q, hq, rfl⟩ := List.mem_map.1 h
    exact ofQ_keys l q hq
  · have hset : ∀ (es : MapQ) (k : Pr) (n : Int) (q : Pr), okPair k → okPair q → q ∈ es.map Prod.fst → q ∈ (setQ es k n).map Prod.fst := by
      intro es k n q hk hq
      induction es with
      | nil => simp
      | cons y l ih =>
        intro h
        unfold setQ
        rw [List.map_cons, List.mem_cons] at h
        split
        · rw [List.map_cons, List.mem_cons]
          rcases h with h | h
          · exact .inl h
          · exact .inr (ih h)
        · split
          · rename_i he
            rw [List.map_cons, List.mem_cons]
            rcases h with h | h
            · left
              rw [← h] at he
              exact kbP_inj hq hk he
            · exact .inr h
          · rw [List.map_cons, List.mem_cons, List.map_cons, List.mem_cons]
            rcases h with h | h
            · exact .inr (.inl h)
            · exact .inr (.inr h)
    have hself : ∀ (es : MapQ) (k : Pr) (n : Int), k ∈ (setQ es k n).map Prod.fst := by
      intro es k n
      induction es with
      | nil => simp [setQ]
      | cons y l ih =>
        unfold setQ
        split
        · rw [List.map_cons, List.mem_cons]; exact .inr ih
        · split <;> simp
    have hfold : ∀ (l : List Pr) (es : MapQ), okL l → okPair p → (p ∈ es.map Prod.fst ∨ p ∈ l) → p ∈ (l.foldl incQ es).map Prod.fst := by
      intro l
      induction l with
      | nil => intro es _ _ h; rcases h with h | h; exact h; cases h
      | cons x l ih =>
        intro es ho hp h
        refine ih (incQ es x) (fun y hy => ho y (List.mem_cons_of_mem _ hy)) hp ?_
        rcases h with h | h
        · exact .inl (hset es x _ p (ho x List.mem_cons_self) hp h)
        · rcases List.mem_cons.1 h with rfl | h
          · exact .inl (hself es _ _)
          · exact .inr h
    intro h
    exact hfold l [] ho (ho p h) (.inr h)
theorem setP_mem {l : List Pr} (ho : okL l) {p : Pr} : p ∈ setP l ↔ p ∈ l := by
  unfold setP sortP
  rw [List.mem_mergeSort, keys_mem ho]
theorem setP_ok {l : List Pr} (ho : okL l) : okL (setP l) := fun x hx => ho x ((setP_mem ho).1 hx)
theorem setP_nodup (l : List Pr) : (setP l).Nodup := (List.mergeSort_perm _ _).nodup_iff.2 (keysQ_nodup (ofQ_up l))
theorem setP_up (l : List Pr) : (setP l).Pairwise pLt := by
  have h1 := sortP_pair ((ofQ l).map Prod.fst)
  have h2 : (setP l).Pairwise (· ≠ ·) := setP_nodup l
  have h3 := List.pairwise_and_iff.2 ⟨h1, h2⟩
  refine List.Pairwise.imp ?_ h3
  intro a b hab
  rcases ltP_tri a b with h | h | h
  · exact h
  · exact absurd h hab.2
  · have : ltOf cmpP b a = true := h
    have h4 := hab.1
    rw [this] at h4
    cases h4
theorem up_ext : ∀ {l l' : List Pr}, l.Pairwise pLt → l'.Pairwise pLt → (∀ x, x ∈ l ↔ x ∈ l') → l = l'
  | [], [], _, _, _ => rfl
  | [], y :: l', _, _, h => by have := (h y).2 List.mem_cons_self; cases this
  | x :: l, [], _, _, h => by have := (h x).1 List.mem_cons_self; cases this
  | x :: l, y :: l', h1, h2, h => by
    rw [List.pairwise_cons] at h1 h2
    have hxy : x = y := by
      rcases List.mem_cons.1 ((h x).1 List.mem_cons_self) with e | hx
      · exact e
      · rcases List.mem_cons.1 ((h y).2 List.mem_cons_self) with e | hy
        · exact e.symm
        · have := ltP_trans (h2.1 x hx) (h1.1 y hy)
          rw [ltP_irrefl] at this; cases this
    subst hxy
    rw [up_ext h1.2 h2.2 (fun z => ?_)]
    have hz := h z
    rw [List.mem_cons, List.mem_cons] at hz
    constructor
    · intro hm
      rcases hz.1 (.inr hm) with e | hm'
      · subst e; have := h1.1 z hm; unfold pLt at this; rw [ltP_irrefl] at this; cases this
      · exact hm'
    · intro hm
      rcases hz.2 (.inr hm) with e | hm'
      · subst e; have := h2.1 z hm; unfold pLt at this; rw [ltP_irrefl] at this; cases this
      · exact hm'
theorem setP_of_up {l : List Pr} (ho : okL l) (hu : l.Pairwise pLt) : setP l = l := up_ext (setP_up l) hu (fun _ => setP_mem ho)
theorem setP_len (l : List Pr) : (setP l).length ≤ l.length := by
  unfold setP
  rw [sortP_length, List.length_map]; exact ofQ_len l
theorem may_up {l : List Pr} (h : mayP l = true) : l.Pairwise pLt := ((mayP_iff l).1 h).2
theorem may_one {l : List Pr} (h : mayP l = true) : ∀ x ∈ l, oneP x = true := ((mayP_iff l).1 h).1
theorem may_of {l : List Pr} (h1 : ∀ x ∈ l, oneP x = true) (h2 : l.Pairwise pLt) : mayP l = true := (mayP_iff l).2 ⟨h1, h2⟩
/-! merged -/
theorem mergeP_mem {base a b : List Pr} (hb : okL base) (ha : okL a) (hc : okL b) (lb : base.length < 1000000) (la : a.length < 1000000) (lc : b.length < 1000000) (m0 : mayP base = true) (m1 : mayP a = true) (m2 : mayP b = true) {x : Pr} :
    x ∈ mergeP base a b ↔ (x ∈ a ∨ x ∈ b) ∧ ((x ∈ a ∧ x ∈ b) ∨ ¬ x ∈ base) := by
  unfold mergeP
  rw [m0, m1, m2]
  have hok : okL ((a ++ b).filter (mcond base a b)) := fun y hy => by
    rcases List.mem_append.1 (List.mem_filter.1 hy).1 with h | h
    · exact ha y h
    · exact hc y h
  rw [if_pos (by rfl), setP_mem hok, List.mem_filter, List.mem_append]
  constructor
  · rintro ⟨h, hq⟩
    refine ⟨h, ?_⟩
    have hx : okPair x := by rcases h with h | h; exact ha x h; exact hc x h
    unfold mcond at hq
    simp only [Bool.or_eq_true, Bool.and_eq_true, Bool.not_eq_true'] at hq
    rcases hq with ⟨q1, q2⟩ | q
    · exact .inl ⟨(inP_iff ha la hx).1 q1, (inP_iff hc lc hx).1 q2⟩
    · right
      intro hm
      rw [(inP_iff hb lb hx).2 hm] at q; cases q
  · rintro ⟨h, hq⟩
    refine ⟨h, ?_⟩
    have hx : okPair x := by rcases h with h | h; exact ha x h; exact hc x h
    unfold mcond
    simp only [Bool.or_eq_true, Bool.and_eq_true, Bool.not_eq_true']
    rcases hq with ⟨q1, q2⟩ | q
    · exact .inl ⟨(inP_iff ha la hx).2 q1, (inP_iff hc lc hx).2 q2⟩
    · right
      cases hi : inP base x with
      | false => rfl
      | true => exact absurd ((inP_iff hb lb hx).1 hi) q
theorem mergeP_up (base a b : List Pr) : (mergeP base a b).Pairwise pLt := by
  unfold mergeP
  split
  · exact setP_up _
  · exact List.Pairwise.nil
theorem mergeP_len (base a b : List Pr) : (mergeP base a b).length ≤ a.length + b.length := by
  unfold mergeP
  split
  · refine Nat.le_trans (setP_len _) (Nat.le_trans (List.length_filter_le _ _) ?_)
    rw [List.length_append]; exact Nat.le_refl _
  · simp
theorem mergeP_sub {base a b : List Pr} (ha : okL a) (hc : okL b) {x : Pr} (h : x ∈ mergeP base a b) : x ∈ a ∨ x ∈ b := by
  unfold mergeP at h
  split at h
  · have hok : okL ((a ++ b).filter (mcond base a b)) := fun y hy => by
      rcases List.mem_append.1 (List.mem_filter.1 hy).1 with h | h
      · exact ha y h
      · exact hc y h
    exact List.mem_append.1 (List.mem_filter.1 ((setP_mem hok).1 h)).1
  · cases h
theorem mergeP_ok {base a b : List Pr} (ha : okL a) (hc : okL b) : okL (mergeP base a b) := fun x hx => by
  rcases mergeP_sub ha hc hx with h | h
  · exact ha x h
  · exact hc x h
theorem mergeP_may {base a b : List Pr} (ha : okL a) (hc : okL b) (m1 : mayP a = true) (m2 : mayP b = true) : mayP (mergeP base a b) = true :=
  may_of (fun x hx => by
    rcases mergeP_sub ha hc hx with h | h
    · exact may_one m1 x h
    · exact may_one m2 x h) (mergeP_up _ _ _)
/-! added, taken away -/
theorem addP_mem {l : List Pr} {p : Pr} (ho : okL l) (hp : okPair p) (m : mayP l = true) (m1 : mayP [p] = true) {x : Pr} : x ∈ addP l p ↔ x ∈ l ∨ x = p := by
  unfold addP
  rw [m, m1]
  have hok : okL (l ++ [p]) := fun y hy => by
    rcases List.mem_append.1 hy with h | h
    · exact ho y h
    · rw [List.mem_singleton.1 h]; exact hp
  rw [if_pos (by rfl), setP_mem hok, List.mem_append, List.mem_singleton]
theorem addP_up (l : List Pr) (p : Pr) : (addP l p).Pairwise pLt := by
  unfold addP
  split
  · exact setP_up _
  · exact List.Pairwise.nil
theorem addP_len (l : List Pr) (p : Pr) : (addP l p).length ≤ l.length + 1 := by
  unfold addP
  split
  · refine Nat.le_trans (setP_len _) ?_; simp
  · simp
theorem addP_ok {l : List Pr} {p : Pr} (ho : okL l) (hp : okPair p) : okL (addP l p) := by
  unfold addP
  split
  · refine setP_ok fun y hy => ?_
    rcases List.mem_append.1 hy with h | h
    · exact ho y h
    · rw [List.mem_singleton.1 h]; exact hp
  · intro x hx; cases hx
theorem addP_may {l : List Pr} {p : Pr} (ho : okL l) (hp : okPair p) (m : mayP l = true) (m1 : mayP [p] = true) : mayP (addP l p) = true :=
  may_of (fun x hx => by
    rcases (addP_mem ho hp m m1).1 hx with h | h
    · exact may_one m x h
    · rw [h]; exact may_one m1 p (List.mem_singleton.2 rfl)) (addP_up _ _)
theorem delP_mem {l : List Pr} {key elem : ByteArray} (m : mayP l = true) {x : Pr} : x ∈ delP l key elem ↔ x ∈ l ∧ goneB key elem x = false := by
  unfold delP keepP
  rw [m, if_pos rfl, List.mem_filter]
  simp
theorem delP_sub (l : List Pr) (key elem : ByteArray) : (delP l key elem).Sublist l := by
  unfold delP keepP
  split
  · exact List.filter_sublist
  · exact List.nil_sublist _
theorem delP_may {l : List Pr} {key elem : ByteArray} (m : mayP l = true) : mayP (delP l key elem) = true :=
  may_of (fun x hx => may_one m x ((delP_sub l key elem).subset hx)) ((may_up m).sublist (delP_sub l key elem))
theorem delP_ok {l : List Pr} {key elem : ByteArray} (ho : okL l) : okL (delP l key elem) := fun x hx => ho x ((delP_sub l key elem).subset hx)
theorem delP_len (l : List Pr) (key elem : ByteArray) : (delP l key elem).length ≤ l.length := (delP_sub l key elem).length_le
end Go.Proofs.Ytannmdngejdjkaa.L
