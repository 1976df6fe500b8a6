/- pair.set.list: the pairs of a map, in order. By hand: the loop over the map in whatever order, the sort by its contract. -/
import Derived.Test.YtannmdngejdjkaaLHPairSort
import Derived.Test.YtannmdngejdjkaaLHPairOf
import Derived.Maps.RangeWalk
import Derived.Sort.KeysCollected
import Derived.OwnWalk
namespace Go.Proofs.Ytannmdngejdjkaa.L
open Go.RowKit Go.Maps Go.Sort Go.Proofs.YtannmdngejdjkaaW.PrintWords Go.Proofs.YtannmdngejdjkaaW.PrintLast Go.Proofs.YtannmdngejdjkaaW.PrintMore Go.Proofs.YtannmdngejdjkaaW
set_option linter.unusedVariables false
set_option linter.unusedSimpArgs false
theorem sortP_pair (l : List Pr) : (sortP l).Pairwise (fun x y => (!(ltOf cmpP) y x) = true) := by
  refine List.pairwise_mergeSort ?_ ?_ l
  · intro a b c h1 h2
    simp only [Bool.not_eq_true'] at *
    exact ltP_swo.ntrans c b a h2 h1
  · intro a b
    simp only [Bool.or_eq_true, Bool.not_eq_true']
    cases h : ltOf cmpP b a with
    | false => exact .inl rfl
    | true =>
      right
      cases h2 : ltOf cmpP a b with
      | false => rfl
      | true =>
        have := ltP_swo.trans a b a h2 h
        rw [ltP_swo.irrefl] at this; cases this
theorem sorted_unique {l l' : List Pr} (h : l.Perm l') (h1 : l.Pairwise (fun x y => (!(ltOf cmpP) y x) = true)) (h2 : l'.Pairwise (fun x y => (!(ltOf cmpP) y x) = true)) : l = l' := by
  refine List.Perm.eq_of_pairwise (le := fun x y => (!(ltOf cmpP) y x) = true) (fun a b _ _ q1 q2 => ?_) h1 h2 h
  simp only [Bool.not_eq_true'] at q1 q2
  exact ltP_tot a b q2 q1
theorem sortP_perm {l l' : List Pr} (h : l.Perm l') : sortP l = sortP l' :=
  sorted_unique (((List.mergeSort_perm l _).trans h).trans (List.mergeSort_perm l' _).symm) (sortP_pair l) (sortP_pair l')
theorem keysQ_nodup {es : MapQ} (h : es.Pairwise qLt) : (es.map Prod.fst).Nodup := by
  show (es.map Prod.fst).Pairwise (· ≠ ·)
  rw [List.pairwise_map]
  refine h.imp fun {a b} hab e => ?_
  unfold qLt at hab
  rw [e, less_irrefl] at hab
  cases hab
theorem strKeysQ (es : MapQ) : Go.strKeys (datQ es) = es.map fun p => kbP p.1 := by
  unfold Go.strKeys datQ
  simp [List.map_map, Function.comp_def, entQ, Go.strOf]
theorem collQ_perm {es : MapQ} (hup : es.Pairwise qLt) (hok : ∀ p ∈ es, okPair p.1) {left : Lit → Bool} {ks : List Pr} (hks : ∀ x ∈ ks, okPair x) (h : Collected (datQ es) left (ks.map kbP)) (hl : ∀ kl, left kl = false) : ks.Perm (es.map Prod.fst) := by
  have hp : (es.map entQ).Pairwise (fun p q => p.1 ≠ q.1) := by
    rw [List.pairwise_map]
    refine hup.imp fun {a b} hab e => ?_
    unfold qLt at hab
    simp only [entQ, Lit.string.injEq] at e
    rw [e, less_irrefl] at hab
    cases hab
  have h1 := perm_strKeys hp (fun p hp => by obtain ⟨q, _, rfl⟩ := List.mem_map.1 hp; exact ⟨_, rfl⟩) h.1 (fun x => by rw [h.2 x, hl]; simp [datQ])
  have h2 : (ks.map kbP).Perm (es.map fun p => kbP p.1) := by
    have := strKeysQ es
    unfold datQ at this
    rwa [this] at h1
  have hn : ks.Nodup := (List.pairwise_map.1 h.1).imp fun {a b} hab e => hab (by rw [e])
  refine (List.perm_ext_iff_of_nodup hn (keysQ_nodup hup)).2 fun x => ?_
  constructor
  · intro hx
    have : kbP x ∈ es.map fun p => kbP p.1 := h2.mem_iff.1 (List.mem_map_of_mem hx)
    obtain ⟨p, hp, e⟩ := List.mem_map.1 this
    rw [← kbP_inj (hok p hp) (hks x hx) e]
    exact List.mem_map_of_mem hp
  · intro hx
    obtain ⟨p, hp, rfl⟩ := List.mem_map.1 hx
    have : kbP p.1 ∈ ks.map kbP := h2.mem_iff.2 (List.mem_map.2 ⟨p, hp, rfl⟩)
    obtain ⟨y, hy, e⟩ := List.mem_map.1 this
    rw [← kbP_inj (hks y hy) (hok p hp) e]
    exact hy
theorem cells4_new (w4 : World) (o : Obj) (p : Pr) : ∀ j u, (pairCells p)[j]? = some u → ((w4.alloc o).alloc (.cells #[.string p.f0, .string p.f1, .int .i64 p.f2.f0, .int .i64 p.f2.f1] 57)).cell? ((⟨w4.heap.size + 1, 0, none⟩ : Addr).add j) = some u := by
  have hb : ((w4.alloc o).alloc (.cells #[.string p.f0, .string p.f1, .int .i64 p.f2.f0, .int .i64 p.f2.f1] 57)).heap[w4.heap.size + 1]? = some (.cells #[.string p.f0, .string p.f1, .int .i64 p.f2.f0, .int .i64 p.f2.f1] 57 (0, 0)) := by
    have := blk_new (w4.alloc o) (.cells #[.string p.f0, .string p.f1, .int .i64 p.f2.f0, .int .i64 p.f2.f1] 57)
    simpa using this
  intro j u hj
  rw [add_plain, blk_cell hb j]
  match j, hj with
  | 0, hj => exact hj
  | 1, hj => exact hj
  | 2, hj => exact hj
  | 3, hj => exact hj
  | j + 4, hj => simp [pairCells] at hj
set_option maxHeartbeats 4000000 in
set_option maxRecDepth 100000 in
theorem plist_calls (gb n : Nat) (es : MapQ) (w : World) (hown : OwnsQ w gb n es) (hup : es.Pairwise qLt) (hok : ∀ p ∈ es, okPair p.1) (hlim : es.length * 64 ≤ 140737488355328) :
    Calls Try.prog 76 #[.map (some gb)] w fun e w' => ∃ v, e = .returned v ∧ w'.ownsRow w.heap.size 57 4 v es.length (pairRow (sortP (es.map Prod.fst))) ∧ Below w.heap.size w w' := by
  obtain ⟨j0, hj, hy0, hy1, hy2⟩ := info_parts info57
  have hbl := hown.lt
  have HO := Aside0.mk hown
  have hsize : Maps.size (datQ es) = es.length := size_datQ es
  have HOK := Aside0.mk hok
  have hu := Try.underlying57
  clear hown hok
  go_enter Try.func76, Try.ntmps76
  go_wp2_with (first
    | (at_range; refine wpList_range_own _ rfl _ 85 rfl 57 3 lawP Try.underlying85 _ gb n _ rfl HO.out ?_; intro w1 hrg0 hg0 hs0))
  go_frame
  go_loopw [3] (fun v wr => ∃ (left : Lit → Bool) (cnt : Nat) (ks : List Pr), Aside0 (wr.ranges Try.prog 57 (plainElem (H := Unit) Try.prog 3) gb w.heap.size n (datQ es) left cnt) ∧ Aside0 (ks.length + cnt ≤ es.length) ∧
      Aside0 (wr.ownsRow w.heap.size 57 4 v ks.length (pairRow ks)) ∧ Aside0 (Collected (datQ es) left (ks.map kbP)) ∧ Aside0 (∀ x ∈ ks, okPair x) ∧ Aside0 (Below w.heap.size w wr))
    (fun _ wr => wr.rangeLeft gb w.heap.size)
  case atStart => exact ⟨_, _, [], ⟨hrg0⟩, ⟨by simp [hsize]⟩, ⟨own_nil _ _ _ _⟩, ⟨Collected.start _⟩, ⟨fun x hx => by cases hx⟩, ⟨(Below.refl _ _).grown hg0 (Nat.le_refl _) (fun j hj => by cases hj)⟩⟩
  case round =>
    clear hrg0 hg0 hs0
    obtain ⟨left, cnt, ks, hrg, hcs, hrow, hC, hks, hnx⟩ := hrel
    obtain ⟨A, c, rfl⟩ := own_slice hrow.out
    go_wp2_with (first
      | (at_next; refine wpList_next_ranges _ rfl _ rfl 57 lawP (plainElem Try.prog 3) valP (Value.int .i64) (fun key kl hk => by obtain ⟨x, hx, _⟩ := keyOf_inv hk; exact ⟨x, hx⟩) (fun v y hv => by obtain ⟨c, rfl, _⟩ := plainElem_int_inv Try.underlying3 hv; exact ⟨c, rfl⟩) gb w.heap.size n _ _ _ rfl hrg.out ?_ ?_))
    · intro hc0 hl0
      have hperm : ks.Perm (es.map Prod.fst) := collQ_perm hup HOK.out hks.out hC.out hl0
      have hlen : ks.length = es.length := by rw [hperm.length_eq]; simp
      have HSK := Aside0.mk (sort_pairs w.heap.size A c ks wr hrow.out (by omega))
      have HF := Aside0.mk (And.intro hlen (sortP_perm hperm))
      have hsl : ks.length ≤ 9223372036854775807 := by omega
      have HOB := Aside0.mk (own_base hrow.out)
      clear hc0 hl0 hrg hC hcs hperm hlen hrow
      go_wp2_with (first | (go_at_call 93; refine HSK.out.mono ?_; rintro e w3 ⟨rfl, hrow3, hg3⟩))
      go_ret
      refine ⟨_, rfl, ?_, hnx.out.grown hg3 hnx.out.size HOB.out⟩
      rw [← HF.out.2, ← HF.out.1]
      exact hrow3
    · intro x cv kl yd yp w2 cnt2 hkey hlk hv hat hrg2 hlt hg2 hs2 hen
      obtain ⟨x', ex, rfl, hokx⟩ := keyOf_inv hkey
      obtain rfl : x = x' := by
        unfold valP at ex
        injection ex with ex
        obtain ⟨a, b, c, d⟩ := x
        obtain ⟨a', b', c', d'⟩ := x'
        simp at ex
        obtain ⟨rfl, rfl, rfl, rfl⟩ := ex
        rfl
      have HROW2 := Aside0.mk (hrow.out.kept hg2 (Or.inr (row_ne_iter hrow.out hrg.out).symm))
      have HRG2 := Aside0.mk hrg2
      have HC2 : Aside0 (Collected (datQ es) (fun z => left z && !z.sameKey (.string (kbP x))) ((ks ++ [x]).map kbP)) := ⟨by rw [List.map_append]; exact hC.out.step hlk hat⟩
      have HK2 : Aside0 (∀ y ∈ ks ++ [x], okPair y) := ⟨fun y hy => by
        rcases List.mem_append.1 hy with h | h
        · exact hks.out y h
        · obtain rfl : y = x := by simpa using h
          exact hokx⟩
      have HLT := Aside0.mk hlt
      have HG2 := Aside0.mk hg2
      have hnew : ks.length + 1 ≤ es.length := by have := hcs.out; omega
      have hb48 : (ks.length + 1) * 48 ≤ 140737488355328 := Nat.le_trans (Nat.mul_le_mul_right 48 hnew) (by omega)
      have hml : ks.length + 1 ≤ maxLen := by unfold maxLen; omega
      have hw2 := Nat.le_trans hnx.out.size hg2.size
      have hnw := Aside0.mk (cells4_new w2 (.cells #[.string x.f0, .string x.f1, .int .i64 x.f2.f0, .int .i64 x.f2.f1] 57) x)
      have hones := pairCells_one x
      unfold valP at hen
      clear hs2 hkey hlk hv hat hrg2 hlt hg2 ex hC
      go_wp2_with (first
        | (at_builtin; refine wpList_append_own _ rfl _ _ 55 rfl w.heap.size 57 j0 _ 4 48 Try.underlying55 hj hy0 hy1 hy2 rfl (by decide) _ _ _ rfl ((HROW2.out.alloc _).alloc _) ⟨w2.heap.size + 1, 0, none⟩ 1 1 (pairCells x) rfl rfl hnw.out hones hml hb48 (by simp; omega) ?_; intro v' w3 hown' hg3 hnil3; go_frame))
      have HRG3 := Aside0.mk (((HRG2.out.alloc _).alloc _).kept hg3 (row_ne_low HROW2.out hbl) (row_ne_iter HROW2.out HRG2.out))
      have HB3 := Aside0.mk ((below_alloc (below_alloc (hnx.out.grown HG2.out hnx.out.size (fun j hj => by cases hj; exact Nat.le_refl _)) _) _).grown hg3 (by simp; omega) (own_base HROW2.out))
      have HO3 : Aside0 (w3.ownsRow w.heap.size 57 4 v' (ks ++ [x]).length (pairRow (ks ++ [x]))) := ⟨by rw [List.length_append]; unfold pairRow; rw [List.flatMap_append]; simpa using hown'⟩
      have HN3 : Aside0 ((ks ++ [x]).length + cnt2 ≤ es.length) := ⟨by have := HLT.out; have := hcs.out; simp; omega⟩
      clear hown' hnil3
      go_roundw
      case rel => exact ⟨_, cnt2, ks ++ [x], HRG3, HN3, HO3, HC2, HK2, HB3⟩
      case measure => rw [HRG3.out.left_eq, hrg.out.left_eq]; exact HLT.out
end Go.Proofs.Ytannmdngejdjkaa.L
