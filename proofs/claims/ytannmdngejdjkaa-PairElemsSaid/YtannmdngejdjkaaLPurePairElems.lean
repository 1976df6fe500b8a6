/- PairElems, plain: it answers true. -/
import Derived.Test.YtannmdngejdjkaaLPPairFuel
import Derived.Test.YtannmdngejdjkaaLPPairElems
import Derived.Test.YtannmdngejdjkaaLHRow
import Derived.Test.YtannmdngejdjkaaLx47
namespace Go.Proofs.Ytannmdngejdjkaa.L
open Go.RowKit Go.Proofs.YtannmdngejdjkaaW.PrintWords Go.Proofs.YtannmdngejdjkaaW.PrintLast Go.Proofs.YtannmdngejdjkaaW.PrintMore Go.Proofs.YtannmdngejdjkaaW
set_option linter.unusedVariables false
theorem addP_fE {l : List Pr} (a b : ByteArray) (c d : Int) (ho : okL l) (hp : okPair ⟨a, b, ⟨c, d⟩⟩) (hl : l.length ≤ 1000) : pair_Add.f l a b c d = some (addP l ⟨a, b, ⟨c, d⟩⟩) := addP_f (p := ⟨a, b, ⟨c, d⟩⟩) ho hp hl
theorem elems_true (k : Nat) (l : List Pr) (a b : ByteArray) (c d : Int) : law08_PairElems.j0 (k + 1) l true true a b c d = some true := by
  simp only [law08_PairElems.j0]; rfl
abbrev mkT (X : List Tx) : List ByteArray := X.map fun b => ⟨b.toArray⟩
theorem mk_toList (b : Tx) : (⟨b.toArray⟩ : ByteArray).toList = b := by rw [dl_toList]
theorem rd_mk (X : List Tx) (n : Nat) (hn : n < X.length) : (rdOf ByteArray.empty (mkT X) (n : Int)).toList = X[n] := by
  have : rdOf ByteArray.empty (mkT X) (n : Int) = ⟨X[n].toArray⟩ := by
    simp [rdOf, List.getD_eq_getElem?_getD, hn]
  rw [this, mk_toList]
theorem wrapB {n : Nat} (h : n < 4611686018427387904) : wrap64 (((n + 1 : Nat) : Int) - 1) = (n : Int) := by unfold wrap64; omega
theorem elems_l1 (X Y : List Tx) (a b : ByteArray) (c d : Int) (hY : Y.length ≤ 100) (hno : b.toList ∉ Y) (hlen : X.length = Y.length + 1) : ∀ (r q n : Nat), n + r = Y.length → r < q → law08_PairElems.l1 q (mkT X) (mkT Y) true (n : Int) a b c d = some true
  | r, 0, n, _, h => by omega
  | 0, q + 1, n, h, _ => by
    simp only [law08_PairElems.l1]
    rw [if_neg (by simp; omega)]
    have e : wrap64 (((mkT Y).length : Int) + 1) = ((mkT X).length : Int) := by
      simp only [List.length_map]
      unfold wrap64; omega
    rw [e]; simp
  | r + 1, q + 1, n, h, hq => by
    have hn : n < Y.length := by omega
    have ih := elems_l1 X Y a b c d hY hno hlen r q (n + 1) (by omega) (by omega)
    simp only [law08_PairElems.l1]
    rw [if_pos (by simp; omega), if_pos (by omega), rd_mk Y n hn, if_neg (fun e : Y[n] = b.toList => hno (e ▸ List.getElem_mem hn)), wrapUp (by omega)]
    exact ih
theorem elems_l0 (X Y : List Tx) (a b : ByteArray) (c d : Int) (hX : X.length ≤ 100) (hY : Y.length ≤ 100) (hup : X.Pairwise tLt) (hin : b.toList ∈ X) (hno : b.toList ∉ Y) (hlen : X.length = Y.length + 1) : ∀ (r q n : Nat) (is : Bool), n + r = X.length → is = decide (b.toList ∈ X.take n) → r + 150 < q → law08_PairElems.l0 q (mkT X) (mkT Y) is (n : Int) a b c d = some true
  | r, 0, n, _, _, _, h => by omega
  | 0, q + 1, n, is, h, hi, hq => by
    have e : X.take n = X := List.take_of_length_le (by omega)
    rw [e] at hi
    have : is = true := by rw [hi]; exact decide_eq_true hin
    subst this
    simp only [law08_PairElems.l0]
    rw [if_neg (by simp; omega)]
    exact elems_l1 X Y a b c d hY hno hlen Y.length q 0 (by omega) (by omega)
  | r + 1, q + 1, n, is, h, hi, hq => by
    have hn : n < X.length := by omega
    have hmem : decide (b.toList ∈ X.take (n + 1)) = (is || (X[n] == b.toList)) := by
      rw [hi, List.take_succ_eq_append_getElem hn, Bool.eq_iff_iff]
      simp only [decide_eq_true_eq, List.mem_append, List.mem_singleton, Bool.or_eq_true, beq_iff_eq]
      constructor
      · rintro (h | h)
        · exact .inl h
        · exact .inr h.symm
      · rintro (h | h)
        · exact .inl h
        · exact .inr h.symm
    have hpc : ∀ is', is' = (is || (X[n] == b.toList)) → law08_PairElems.l0 q (mkT X) (mkT Y) is' (wrap64 ((n : Int) + 1)) a b c d = some true := fun is' h' => by
      rw [wrapUp (by omega)]
      exact elems_l0 X Y a b c d hX hY hup hin hno hlen r q (n + 1) is' (by omega) (by rw [h', hmem]) (by omega)
    have hlt : ((n : Nat) : Int) < ((mkT X).length : Int) := by simp; omega
    simp only [law08_PairElems.l0]
    rw [if_pos hlt]
    cases n with
    | zero =>
      cases is with
      | true =>
        rw [if_pos rfl, if_neg (by omega)]
        exact hpc _ (by simp)
      | false =>
        rw [if_neg (by simp), if_pos (by omega), if_neg (by omega), rd_mk X 0 hn]
        exact hpc _ (by simp)
    | succ m =>
      have hm : m < X.length := by omega
      have hl : Op.bytesLess X[m] X[m + 1] = true := List.pairwise_iff_getElem.1 hup m (m + 1) hm hn (by omega)
      have hw : wrap64 (((m + 1 : Nat) : Int) - 1) = (m : Int) := wrapB (by omega)
      have hlm : ((m : Nat) : Int) < ((mkT X).length : Int) := by simp; omega
      cases is with
      | true =>
        rw [if_pos rfl, if_pos (by omega), if_pos (by omega), hw, if_pos (by omega), if_pos hlm, rd_mk X m hm, rd_mk X (m + 1) hn, if_pos hl]
        exact hpc _ (by simp)
      | false =>
        rw [if_neg (by simp), if_pos (by omega), if_pos (by omega), hw, if_pos (by omega), if_pos hlm, rd_mk X m hm, rd_mk X (m + 1) hn, if_pos hl]
        exact hpc _ (by simp)
theorem elems_j (k : Nat) (hk : 900 ≤ k) (hk2 : k < 1000) (l : List Pr) (a b : ByteArray) (c d : Int) (ol : okL l) (hl : l.length ≤ 30) (op : okPair ⟨a, b, ⟨c, d⟩⟩) (ml : mayP l = true) (mp : mayP [(⟨a, b, ⟨c, d⟩⟩ : Pr)] = true) :
    law08_PairElems.j0 (k + 1) l true false a b c d = some true := by
  have l1 := addP_len l ⟨a, b, ⟨c, d⟩⟩
  have l2 := delP_len l a b
  have ma := addP_may ol op ml mp
  have md := delP_may (key := a) (elem := b) ml
  obtain ⟨x1, x2⟩ := elemC_spec a (may_up ma)
  obtain ⟨y1, y2⟩ := elemC_spec a (may_up md)
  have lx := elemC_len (addP l ⟨a, b, ⟨c, d⟩⟩) a
  have ly := elemC_len (delP l a b) a
  have hin : b.toList ∈ elemC (addP l ⟨a, b, ⟨c, d⟩⟩) a := (x2 _).2 ⟨⟨a, b, ⟨c, d⟩⟩, (addP_mem ol op ml mp).2 (.inr rfl), rfl, by rw [dl_toList]⟩
  have hno : b.toList ∉ elemC (delP l a b) a := fun h => by
    obtain ⟨q, hq, h1, h2⟩ := (y2 _).1 h
    have h3 := ((delP_mem ml).1 hq).2
    unfold goneB at h3
    rw [h1, ← dl_toList] at *
    simp [h2] at h3
  have he : elemC (delP l a b) a = (elemC (addP l ⟨a, b, ⟨c, d⟩⟩) a).filter fun y => decide (y ≠ b.toList) := by
    refine tLt_ext y1 (x1.sublist List.filter_sublist) fun x => ?_
    rw [y2, List.mem_filter, x2]
    simp only [decide_eq_true_eq]
    constructor
    · rintro ⟨q, hq, h1, h2⟩
      have h3 := (delP_mem ml).1 hq
      refine ⟨⟨q, (addP_mem ol op ml mp).2 (.inl h3.1), h1, h2⟩, fun e => ?_⟩
      have h4 := h3.2
      unfold goneB at h4
      rw [h1, dl_toList q.f1, h2, e] at h4
      simp at h4
    · rintro ⟨⟨q, hq, h1, h2⟩, hne⟩
      rcases (addP_mem ol op ml mp).1 hq with h3 | h3
      · refine ⟨q, (delP_mem ml).2 ⟨h3, ?_⟩, h1, h2⟩
        unfold goneB
        rw [h1, dl_toList q.f1, h2]
        simp [hne]
      · rw [h3] at h2
        exact absurd (by rw [← h2, dl_toList]) hne
  have hlen : (elemC (addP l ⟨a, b, ⟨c, d⟩⟩) a).length = (elemC (delP l a b) a).length + 1 := by rw [he]; exact erase_len x1 hin
  simp only [law08_PairElems.j0]
  rw [if_neg (by simp), addP_fE a b c d ol op (by omega)]
  simp only [Option.bind_some]
  rw [elemsP_f (addP_ok ol op) (by omega)]
  simp only [Option.bind_some]
  rw [delP_f ol (by omega)]
  simp only [Option.bind_some]
  rw [elemsP_f (delP_ok ol) (by omega)]
  simp only [Option.bind_some]
  exact elems_l0 (elemC (addP l ⟨a, b, ⟨c, d⟩⟩) a) (elemC (delP l a b) a) a b c d (by omega) (by omega) x1 hin hno hlen _ k 0 false (Nat.zero_add _) (by simp) (by omega)
theorem pairElems_pure' (k : Nat) (hk : 900 ≤ k) (hk2 : k < 1000) (l : List Pr) (a b : ByteArray) (c d : Int) (ol : okL l) (op : okPair ⟨a, b, ⟨c, d⟩⟩) : law08_PairElems.f (k + 1) l a b c d = some true := by
  have ht := elems_true k l a b c d
  have o1 : okL [(⟨a, b, ⟨c, d⟩⟩ : Pr)] := fun x hx => by rw [List.mem_singleton.1 hx]; exact op
  unfold law08_PairElems.f
  rw [awakeP_k _ (by omega), fewP_f _ l (by omega), fewP_f _ _ (by omega)]
  simp only [Option.bind_some, if_true]
  cases h1 : fewP l with
  | false => exact ht
  | true =>
    cases h2 : fewP [(⟨a, b, ⟨c, d⟩⟩ : Pr)] with
    | false => exact ht
    | true =>
      have ll := fewP_len h1
      rw [mayPk _ l (by omega) (by omega) ol, mayPk _ [(⟨a, b, ⟨c, d⟩⟩ : Pr)] (by simp; omega) (by simp) o1]
      simp only [Option.bind_some, if_true]
      cases h5 : mayP l with
      | false => exact ht
      | true =>
        cases h6 : mayP [(⟨a, b, ⟨c, d⟩⟩ : Pr)] with
        | false => exact ht
        | true => exact elems_j k hk hk2 l a b c d ol ll op h5 h6
theorem pairElems_pure (l0 : List Pr) (a b : ByteArray) (c d : Int) (h0 : okL l0) (h1 : okPair ⟨a, b, ⟨c, d⟩⟩) : ∃ k, law08_PairElems.f k l0 a b c d = some true := ⟨900 + 1, pairElems_pure' 900 (by omega) (by omega) l0 a b c d h0 h1⟩
end Go.Proofs.Ytannmdngejdjkaa.L
