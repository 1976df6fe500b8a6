/- Registers with one more: plain facts. No walk. -/
import Derived.Test.YtannmdngejdjkaaLHRegPut
namespace Go.Proofs.Ytannmdngejdjkaa.L
open Go.RowKit Go.Proofs.YtannmdngejdjkaaW.PrintWords Go.Proofs.YtannmdngejdjkaaW.PrintLast Go.Proofs.YtannmdngejdjkaaW.PrintMore Go.Proofs.YtannmdngejdjkaaW
set_option linter.unusedVariables false
set_option linter.unusedSimpArgs false
def kLt (x y : S26) : Prop := Op.bytesLess x.f0.toList y.f0.toList = true
theorem rd_at (l : List S26) (k : Nat) (h : k < l.length) : rd_T26 l (k : Int) = l[k] := by
  simp [rd_T26, List.getD_eq_getElem?_getD, List.getElem?_eq_getElem h]
theorem regUp_iff (l : List S26) : RegUp l ↔ l.Pairwise kLt := by
  rw [List.pairwise_iff_getElem]
  constructor
  · intro h i j hi hj hij
    have := h i j hij hj
    rwa [rd_at l i hi, rd_at l j hj] at this
  · intro h i j hij hj
    have := h i j (by omega) hj hij
    rw [rd_at l i (by omega), rd_at l j hj]; exact this
def regUpB : List S26 → Bool
  | [] => true
  | x :: l => (match l with | [] => true | y :: _ => Op.bytesLess x.f0.toList y.f0.toList) && regUpB l
theorem regUpB_up : ∀ l, regUpB l = true → l.Pairwise kLt
  | [], _ => List.Pairwise.nil
  | [x], _ => List.pairwise_singleton _ _
  | x :: y :: l, h => by
    have h1 : Op.bytesLess x.f0.toList y.f0.toList = true ∧ regUpB (y :: l) = true := by
      unfold regUpB at h; simpa using h
    have ih := regUpB_up (y :: l) h1.2
    rw [List.pairwise_cons]
    refine ⟨fun z hz => ?_, ih⟩
    rcases List.mem_cons.1 hz with rfl | hz
    · exact h1.1
    · exact less_trans h1.1 ((List.pairwise_cons.1 ih).1 z hz)
theorem up_regUpB : ∀ l : List S26, l.Pairwise kLt → regUpB l = true
  | [], _ => rfl
  | [x], _ => rfl
  | x :: y :: l, h => by
    rw [List.pairwise_cons] at h
    have := up_regUpB (y :: l) h.2
    unfold regUpB
    simp only [Bool.and_eq_true]
    exact ⟨h.1 y List.mem_cons_self, this⟩
theorem take_regPos (key : ByteArray) : ∀ l : List S26, ∀ x ∈ l.take (regPos key l), Op.bytesLess x.f0.toList key.toList = true
  | [], x, h => by simp at h
  | y :: l, x, h => by
    unfold regPos at h
    split at h
    · rename_i hy
      rw [List.take_succ_cons] at h
      rcases List.mem_cons.1 h with rfl | h
      · exact hy
      · exact take_regPos key l x h
    · simp at h
theorem drop_regPos (key : ByteArray) : ∀ l : List S26, l.Pairwise kLt → ∀ x ∈ l.drop (regPos key l), Op.bytesLess x.f0.toList key.toList = false
  | [], _, x, h => by simp at h
  | y :: l, hp, x, h => by
    rw [List.pairwise_cons] at hp
    unfold regPos at h
    split at h
    · rw [List.drop_succ_cons] at h
      exact drop_regPos key l hp.2 x h
    · rename_i hy
      rw [List.drop_zero] at h
      rcases List.mem_cons.1 h with rfl | h
      · simpa using hy
      · cases q : Op.bytesLess x.f0.toList key.toList with
        | false => rfl
        | true => exact absurd (less_trans (hp.1 x h) q) hy
theorem cmpS_zero {a b : ByteArray} : cmpS a b = 0 ↔ a = b := by
  unfold cmpS
  constructor
  · intro h
    split at h
    · cases h
    · split at h
      · cases h
      · rename_i h1 h2
        exact toList_inj (less_antisymm (by simpa using h1) (by simpa using h2))
  · rintro rfl
    rw [less_irrefl]; rfl
/-- where a key stands, it is that key's -/
theorem regIs_true {key : ByteArray} {l : List S26} (h : regIs key l = true) : ∃ hp : regPos key l < l.length, l[regPos key l].f0 = key := by
  unfold regIs at h
  rw [Bool.and_eq_true, decide_eq_true_eq, decide_eq_true_eq] at h
  refine ⟨h.1, ?_⟩
  have := h.2
  rw [rd_at l _ h.1] at this
  exact cmpS_zero.1 this
theorem regIs_false {key : ByteArray} {l : List S26} (hp : l.Pairwise kLt) (h : regIs key l = false) : ∀ x ∈ l.drop (regPos key l), Op.bytesLess key.toList x.f0.toList = true := by
  intro x hx
  have h1 := drop_regPos key l hp x hx
  cases q : Op.bytesLess key.toList x.f0.toList with
  | true => rfl
  | false =>
    exfalso
    have e : x.f0 = key := toList_inj (less_antisymm h1 q)
    have hlt : regPos key l < l.length := by
      rcases Nat.lt_or_ge (regPos key l) l.length with z | z
      · exact z
      · rw [List.drop_of_length_le z] at hx; cases hx
    rw [List.drop_eq_getElem_cons hlt] at hx
    rcases List.mem_cons.1 hx with rfl | hx2
    · unfold regIs at h
      rw [rd_at l _ hlt, e, cmpS_zero.2 rfl] at h
      simp [hlt] at h
    · have hd := drop_regPos key l hp l[regPos key l] (by rw [List.drop_eq_getElem_cons hlt]; exact List.mem_cons_self)
      have hpd : (l.drop (regPos key l)).Pairwise kLt := List.Pairwise.sublist (List.drop_sublist _ _) hp
      rw [List.drop_eq_getElem_cons hlt, List.pairwise_cons] at hpd
      have := hpd.1 x hx2
      unfold kLt at this
      rw [e] at this
      rw [hd] at this
      cases this
theorem pairwise_keys {l m : List S26} (h : l.map (fun x => x.f0) = m.map (fun x => x.f0)) (hp : l.Pairwise kLt) : m.Pairwise kLt := by
  have h1 : (l.map (fun x => x.f0)).Pairwise (fun a b => Op.bytesLess a.toList b.toList = true) := (List.pairwise_map (f := fun x : S26 => x.f0)).2 hp
  rw [h] at h1
  exact (List.pairwise_map (f := fun x : S26 => x.f0)).1 h1
theorem putL_up {l : List S26} (r : S26) (hp : l.Pairwise kLt) : (putL l r).Pairwise kLt := by
  unfold putL
  cases his : regIs r.f0 l with
  | true =>
    obtain ⟨hlt, hk⟩ := regIs_true his
    simp only [if_true]
    split
    · refine pairwise_keys (l := l) ?_ hp
      rw [List.map_set]
      apply List.ext_getElem
      · simp
      · intro i h1 h2
        rw [List.getElem_set]
        split
        · rename_i e; subst e; simp [hk]
        · rfl
    · exact hp
  | false =>
    simp only [Bool.false_eq_true, if_false]
    rw [List.pairwise_append]
    refine ⟨hp.sublist (List.take_sublist _ _), ?_, ?_⟩
    · rw [List.pairwise_cons]
      exact ⟨fun x hx => regIs_false hp his x hx, hp.sublist (List.drop_sublist _ _)⟩
    · intro a ha b hb
      have h1 := take_regPos r.f0 l a ha
      rcases List.mem_cons.1 hb with rfl | hb
      · exact h1
      · exact less_trans h1 (regIs_false hp his b hb)
theorem putL_length (l : List S26) (r : S26) : (putL l r).length ≤ l.length + 1 := by
  unfold putL
  split
  · split <;> simp
  · have := regPos_le r.f0 l
    simp; omega
theorem foldl_up : ∀ (m l : List S26), l.Pairwise kLt → (m.foldl putL l).Pairwise kLt
  | [], _, h => h
  | r :: m, l, h => foldl_up m _ (putL_up r h)
theorem foldl_length : ∀ (m l : List S26), (m.foldl putL l).length ≤ l.length + m.length
  | [], _ => by simp
  | r :: m, l => by
    have h1 := foldl_length m (putL l r)
    have h2 := putL_length l r
    simp only [List.foldl_cons, List.length_cons]
    omega
theorem take_foldl (m l : List S26) (k : Nat) (h : k < m.length) : (m.take (k + 1)).foldl putL l = putL ((m.take k).foldl putL l) (rd_T26 m (k : Nat)) := by
  rw [List.take_succ_eq_append_getElem h, List.foldl_append, rd_at m k h]; rfl
end Go.Proofs.Ytannmdngejdjkaa.L
