/- Several texts in one: PNLeave, PNPure. -/
import Derived.Test.YtameeejfkgoheaaPNLeaveOk
section
/- peer.Leave at any node. By hand. -/
namespace Go.Proofs.Ytameeejfkgoheaa.P
open Go.RowKit Go.Proofs.YtameeejfkgoheaaW.PrintWords Go.Proofs.YtameeejfkgoheaaW.PrintLast Go.Proofs.YtameeejfkgoheaaW.PrintMore Go.Proofs.YtameeejfkgoheaaW
set_option linter.unusedVariables false
set_option linter.unusedSimpArgs false
set_option maxHeartbeats 4000000 in
set_option maxRecDepth 100000 in
theorem leave_calls (cs : List Value) (n : Nd) (p : Int) (w : World) (hn : NodeIs w cs n) (hf : FitN n) :
    Calls Try.prog 19 #[.agg cs.toArray, .int .i64 p] w (RetN w (leaveN n p)) := by
  obtain ⟨dA, dc, lA, lc, tA, tc, pA, pc, rfl, h1, h2, h3, h4, h5⟩ := hn
  cases hc : n.peers.contains p with
  | false =>
    have hj : leaveN n p = (zeroN, 3) := by unfold leaveN; rw [if_neg (by rw [hc]; simp)]
    rw [hj]
    have HHAS := Aside0.mk (fun V (h : Kd.C kP V pA n.peers.length n.peers) => join_has pA pc n.peers p V (RdI_of h) (Plain_of h))
    obtain ⟨X, hX⟩ : ∃ X, X = cellsN n (.slice dA n.disk.length dc) (.slice lA n.L.length lc) (.slice tA n.T.length tc) (.slice pA n.peers.length pc) := ⟨_, rfl⟩
    rw [← hX]
    obtain ⟨b1, b2, b3⟩ := blk_new3 w (.cells X.toArray 37) (.cells #[.int .i64 p] 3) (.cells zeroV.toArray 37)
    have HB := Aside0.mk (below_alloc (below_alloc (below_alloc (Below.refl w.heap.size w) (.cells X.toArray 37)) (.cells #[.int .i64 p] 3)) (.cells zeroV.toArray 37))
    have HS := Aside0.mk (HHAS.out _ (Kd.C_below h4 HB.out))
    rw [hc] at HS
    have c0 : (((w.alloc (.cells X.toArray 37)).alloc (.cells #[.int .i64 p] 3)).alloc (.cells zeroV.toArray 37)).cell? ⟨w.heap.size, 0, none⟩ = some (.int .i64 n.no) := by rw [blk_cell b1 0, hX]; rfl
    have c7 : (((w.alloc (.cells X.toArray 37)).alloc (.cells #[.int .i64 p] 3)).alloc (.cells zeroV.toArray 37)).cell? ⟨w.heap.size, 7, none⟩ = some (.slice pA n.peers.length pc) := by rw [blk_cell b1 7, hX]; rfl
    have cp : (((w.alloc (.cells X.toArray 37)).alloc (.cells #[.int .i64 p] 3)).alloc (.cells zeroV.toArray 37)).cell? ⟨w.heap.size + 1, 0, none⟩ = some (.int .i64 p) := blk_cell b2 0
    have H3 := Aside0.mk b3
    clear h1 h2 h3 h4 h5 hX b1 b2 b3 HHAS hc
    go_enter Try.func19, Try.ntmps19
    go_wp2_with (first
      | (refine wpl_allocN (by rfl) (by rfl) ?_; go_frame)
      | (go_at_call 25; refine HS.out.mono ?_; rintro e w' ⟨rfl, hw⟩; subst hw; go_frame)
      | (refine wpl_build0N (by rfl) (by rfl) ?_; go_frame)
      | (refine wpl_store_blkA 37 ((w.alloc (.cells X.toArray 37)).alloc (.cells #[.int .i64 p] 3)).heap.size zeroV.toArray zeroV (zero_is w).one (by rw [(zero_is w).len]; exact info_N) H3.out (by rfl) (by rfl) _ _ (by rfl) (by rfl) (by rfl) ?_; intro W1 hb1 hB1 hf1 hs1 ht1; have HB1 := Aside0.mk (hB1 w (size_alloc2 _ _ _) HB.out); clear hB1 hf1 hs1 ht1; go_frame))
    have hb1' := hb1
    simp only [heap_alloc2] at hb1'
    first
    | exact bodyPost_ret (results_N rfl hb1 (zero_is w).len _ rfl rfl) rfl ⟨zeroV, rfl, zero_is _, HB1.out⟩
    | exact bodyPost_ret (results_N rfl hb1' (zero_is w).len _ rfl rfl) rfl ⟨zeroV, rfl, zero_is _, HB1.out⟩
  | true =>
    have hj : leaveN n p = ({n with peers := n.peers.filter fun q => !eqI p q}, 0) := by unfold leaveN; rw [if_pos hc]; rfl
    rw [hj]
    obtain ⟨hf1, hf2, hf3, hf4⟩ := hf
    refine (leave_ok w n.no n.room n.seq n.nx n.ms n.up dA lA tA pA n.disk.length dc n.L.length lc n.T.length tc pc n.peers p (CpB n.disk) (CpC n.L) (CpC n.T) (stays_B _) (stays_C _) (stays_C _)
      (copies_B h1 (by omega)) (copies_C h2 hf2) (copies_C h3 hf3) (RdI_of h4) (Plain_of h4) (by omega) hc).mono ?_
    rintro e w' ⟨⟨dA', dn', dc', lA', ln', lc', tA', tn', tc', A, k, c, rfl, hk, ho, q1, q2, q3⟩, hb⟩
    obtain ⟨e1, r1⟩ := read_B q1
    obtain ⟨e2, r2⟩ := read_C q2
    obtain ⟨e3, r3⟩ := read_C q3
    obtain ⟨r4, r5⟩ := read_P hk ho
    subst e1 e2 e3 hk
    exact ⟨_, rfl, ⟨dA', dc', lA', lc', tA', tc', A, c, rfl, r1, r2, r3, r4, r5⟩, hb⟩
end Go.Proofs.Ytameeejfkgoheaa.P
end
section
/- Peers that rise: one put in, one taken out. Plain. -/
namespace Go.Proofs.Ytameeejfkgoheaa.P
open Go.RowKit Go.Proofs.YtameeejfkgoheaaW.PrintWords Go.Proofs.YtameeejfkgoheaaW.PrintLast Go.Proofs.YtameeejfkgoheaaW.PrintMore Go.Proofs.YtameeejfkgoheaaW
set_option linter.unusedVariables false
set_option linter.unusedSimpArgs false
def Up (l : List Int) : Prop := l.Pairwise (fun a b => a < b)
theorem up_extZ : ∀ {a b : List Int}, Up a → Up b → (∀ x, x ∈ a ↔ x ∈ b) → a = b
  | [], [], _, _, _ => rfl
  | [], y :: b, _, _, h => by have := (h y).2 List.mem_cons_self; cases this
  | x :: a, [], _, _, h => by have := (h x).1 List.mem_cons_self; cases this
  | x :: a, y :: b, ha, hb, h => by
    have ha' := List.pairwise_cons.1 ha
    have hb' := List.pairwise_cons.1 hb
    have e : x = y := by
      rcases List.mem_cons.1 ((h x).1 List.mem_cons_self) with e | h1
      · exact e
      · rcases List.mem_cons.1 ((h y).2 List.mem_cons_self) with e | h2
        · exact e.symm
        · have q1 := ha'.1 y h2
          have q2 := hb'.1 x h1
          omega
    subst e
    rw [up_extZ ha'.2 hb'.2 fun z => ?_]
    constructor
    · intro hz
      rcases List.mem_cons.1 ((h z).1 (List.mem_cons_of_mem _ hz)) with rfl | q
      · have := ha'.1 z hz; omega
      · exact q
    · intro hz
      rcases List.mem_cons.1 ((h z).2 (List.mem_cons_of_mem _ hz)) with rfl | q
      · have := hb'.1 z hz; omega
      · exact q
theorem mem_insP (x p : Int) (l : List Int) : x ∈ insP p l ↔ x = p ∨ x ∈ l := by
  unfold insP
  have h : x ∈ l ↔ x ∈ l.take (posI p l) ∨ x ∈ l.drop (posI p l) := by rw [← List.mem_append, List.take_append_drop]
  rw [List.mem_append, List.mem_cons, h]
  constructor
  · rintro (h | h | h)
    · exact .inr (.inl h)
    · exact .inl h
    · exact .inr (.inr h)
  · rintro (h | h | h)
    · exact .inr (.inl h)
    · exact .inl h
    · exact .inr (.inr h)
theorem len_insP (p : Int) (l : List Int) : (insP p l).length = l.length + 1 := by
  unfold insP
  have := posI_le p l
  simp
  omega
theorem up_insP {p : Int} {l : List Int} (h : Up l) (hn : p ∉ l) : Up (insP p l) := by
  obtain ⟨m, hm, h1, h2⟩ : ∃ m, posI p l = m ∧ (∀ x ∈ l.take m, x < p) ∧ (∀ x ∈ l.drop m, p < x) := by
    rcases firstAt_cases (geI p) l 0 with ⟨e, hall⟩ | ⟨j, hj, e, hge, hlt⟩
    · refine ⟨l.length, by unfold posI; rw [e, if_pos (by decide)], fun x hx => ?_, fun x hx => ?_⟩
      · have := hall x (List.mem_of_mem_take hx)
        unfold geI at this
        have := of_decide_eq_false this
        omega
      · rw [List.drop_length] at hx; cases hx
    · refine ⟨j, by unfold posI; rw [e, if_neg (by omega)]; simp, fun x hx => ?_, fun x hx => ?_⟩
      · obtain ⟨i, hi, rfl⟩ := List.mem_iff_getElem.1 hx
        rw [List.getElem_take]
        have := hlt i (by simp at hi; omega) (by simp at hi; omega)
        unfold geI at this
        have := of_decide_eq_false this
        omega
      · unfold geI at hge
        have hge := of_decide_eq_true hge
        have hne : l[j] ≠ p := fun e => hn (e ▸ List.getElem_mem _)
        rw [List.drop_eq_getElem_cons hj] at hx
        rcases List.mem_cons.1 hx with rfl | hx
        · omega
        · have hd : Up (l.drop j) := List.Pairwise.drop h
          rw [List.drop_eq_getElem_cons hj] at hd
          have := (List.pairwise_cons.1 hd).1 x hx
          omega
  unfold insP
  rw [hm]
  refine List.pairwise_append.2 ⟨List.Pairwise.take h, List.pairwise_cons.2 ⟨h2, List.Pairwise.drop h⟩, fun a ha b hb => ?_⟩
  rcases List.mem_cons.1 hb with rfl | hb
  · exact h1 a ha
  · have := h1 a ha
    have := h2 b hb
    omega
theorem ins_comm {p q : Int} {l : List Int} (h : Up l) (hp : p ∉ l) (hq : q ∉ l) (hpq : p ≠ q) : insP q (insP p l) = insP p (insP q l) := by
  refine up_extZ (up_insP (up_insP h hp) (fun h' => ?_)) (up_insP (up_insP h hq) (fun h' => ?_)) fun x => ?_
  · rcases (mem_insP _ _ _).1 h' with e | e
    · exact hpq e.symm
    · exact hq e
  · rcases (mem_insP _ _ _).1 h' with e | e
    · exact hpq e
    · exact hp e
  · rw [mem_insP, mem_insP, mem_insP, mem_insP]
    constructor
    · rintro (h | h | h)
      · exact .inr (.inl h)
      · exact .inl h
      · exact .inr (.inr h)
    · rintro (h | h | h)
      · exact .inr (.inl h)
      · exact .inl h
      · exact .inr (.inr h)
theorem filter_ins {p : Int} {l : List Int} (h : Up l) (hp : p ∉ l) : (insP p l).filter (fun x => !(x == p)) = l := by
  refine up_extZ (List.Pairwise.filter _ (up_insP h hp)) h fun x => ?_
  rw [List.mem_filter, mem_insP]
  constructor
  · rintro ⟨h1 | h1, h2⟩
    · subst h1; simp at h2
    · exact h1
  · intro h1
    exact ⟨.inr h1, by simp; exact fun e => hp (e ▸ h1)⟩
/-- when one may join -/
def okJ (n : Nd) (p : Int) : Prop := ¬ (p < 0 ∨ 8 ≤ p ∨ p = n.no) ∧ p ∉ n.peers
theorem join_ok_of {n : Nd} {p : Int} (h : okJ n p) : joinN n p = ({n with peers := insP p n.peers}, 0) := by
  unfold joinN
  rw [if_neg h.1, if_neg (by simpa using h.2)]
theorem join_bad {n : Nd} {p : Int} (h : ¬ okJ n p) : ∃ e, joinN n p = (zeroN, e) ∧ e ≠ 0 := by
  unfold joinN
  by_cases h1 : p < 0 ∨ 8 ≤ p ∨ p = n.no
  · exact ⟨1, by rw [if_pos h1], by decide⟩
  · by_cases h2 : n.peers.contains p
    · exact ⟨7, by rw [if_neg h1, if_pos h2], by decide⟩
    · exact absurd ⟨h1, by simpa using h2⟩ h
theorem few_fit {n : Nd} (h : fewN n = true) : FitN n ∧ n.peers.length ≤ 20 := by
  unfold fewN fewL at h
  simp only [Bool.and_eq_true, decide_eq_true_eq, List.all_eq_true] at h
  obtain ⟨⟨⟨⟨h1, h2⟩, h3, h4⟩, h5⟩, h6⟩ := h
  refine ⟨⟨by omega, ⟨by omega, fun x hx => ?_⟩, ⟨by omega, fun x hx => ?_⟩, by omega⟩, h6⟩
  · have := of_decide_eq_true (h2 x hx); omega
  · have := of_decide_eq_true (h4 x hx); omega
theorem fit_with {n : Nd} {l : List Int} (h : FitN n) (hl : l.length ≤ 100000) : FitN {n with peers := l} := ⟨h.1, h.2.1, h.2.2.1, hl⟩
def upK (l : List Int) (k : Nat) : Prop := ∀ i, i + 1 < k → l.getD i 0 < l.getD (i + 1) 0
theorem up_of {l : List Int} (h : upK l l.length) : Up l := by
  unfold Up
  have key : ∀ i j (hi : i < l.length) (hj : j < l.length), i < j → l[i] < l[j] := by
    intro i j hi hj hij
    induction j with
    | zero => omega
    | succ j ih =>
      have h1 := h j (by omega)
      rw [List.getD_eq_getElem?_getD, List.getD_eq_getElem?_getD, List.getElem?_eq_getElem (by omega : j < l.length), List.getElem?_eq_getElem hj] at h1
      have h1 : l[j] < l[j + 1] := h1
      by_cases e : i = j
      · subst e; exact h1
      · have := ih (by omega) (by omega)
        omega
  exact List.pairwise_iff_getElem.2 key
end Go.Proofs.Ytameeejfkgoheaa.P
end
