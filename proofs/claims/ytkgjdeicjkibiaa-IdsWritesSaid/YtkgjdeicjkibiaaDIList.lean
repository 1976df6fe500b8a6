/- ids.set.list: the ids of a set, in order. By hand: the loop over the map in whatever order, the sort by its contract. -/
import Derived.Test.YtkgjdeicjkibiaaDIBuild
import Derived.Test.YtkgjdeicjkibiaaDIOf
import Derived.Maps.RangeWalk
import Derived.Sort.KeysCollected
import Derived.OwnWalk
namespace Go.Proofs.Ytkgjdeicjkibiaa.D
open Go.RowKit Go.Maps Go.Sort Go.Proofs.YtkgjdeicjkibiaaW.PrintWords Go.Proofs.YtkgjdeicjkibiaaW.PrintLast Go.Proofs.YtkgjdeicjkibiaaW.PrintMore Go.Proofs.YtkgjdeicjkibiaaW
set_option linter.unusedVariables false
set_option linter.unusedSimpArgs false
theorem info_app : ∃ i z, Try.prog.info? 23 = some i ∧ i.zero = some z ∧ i.size = 32 ∧ i.bytes = 32 ∧ z.cells.size = 32 := by
  have h : (Try.prog.info? 23).map (fun i => (i.zero.map (fun z => z.cells.size), i.size, i.bytes)) = some (some 32, 32, 32) := by kernel_rfl
  cases hi : Try.prog.info? 23 with
  | none => simp [hi] at h
  | some i =>
    simp only [hi, Option.map_some, Option.some.injEq, Prod.mk.injEq] at h
    obtain ⟨h1, h2, h3⟩ := h
    obtain ⟨z, hz, hs⟩ := Option.map_eq_some_iff.1 h1
    exact ⟨i, z, rfl, hz, h2, h3, hs⟩
theorem up_nodup {es : List Id} (h : UpI es) : es.Nodup := h.imp fun {a b} hab => ltI_ne hab
theorem strKeysI (es : List Id) : Go.strKeys (datI es) = es := by
  unfold Go.strKeys datI
  simp [List.map_map, Function.comp_def, entI, Go.strOf]
theorem collI_perm {es : List Id} (hup : UpI es) {left : Lit → Bool} {ks : List Id} (h : Collected (datI es) left ks) (hl : ∀ kl, left kl = false) : ks.Perm es := by
  have hp : (es.map entI).Pairwise (fun p q => p.1 ≠ q.1) := by
    rw [List.pairwise_map]
    refine hup.imp fun {a b} hab e => ?_
    simp only [entI, Lit.string.injEq] at e
    exact ltI_ne hab e
  have h1 := perm_strKeys hp (fun p hp => by obtain ⟨q, _, rfl⟩ := List.mem_map.1 hp; exact ⟨_, rfl⟩) h.1 (fun x => by rw [h.2 x, hl]; simp [datI])
  have := strKeysI es
  unfold datI at this
  rwa [this] at h1
theorem grown_of_below {w w1 : World} (h : Below w.heap.size w w1) : w.grownBy w1 none := ⟨h.os, h.tape, h.output, h.size, fun i hi _ => h.block i hi⟩
theorem own_below {w w1 : World} {base : Nat} {e : TypeId} {size n : Nat} {v : Value} {xs : List Value} (h : w.ownsRow base e size v n xs) (hb : Below w.heap.size w w1) : w1.ownsRow base e size v n xs := own_move h (fun k hk => hb.block k (own_lt h k hk))
def bv (n : Nat) : Value := .bool (n == 1)
theorem bv_inv {v : Value} {z : DataW Unit × List MemPlace} (h : plainElem (H := Unit) Try.prog 4 v = some z) : ∃ n, v = bv n := by
  obtain ⟨c, rfl, _⟩ := plainElem_bool_inv h
  cases c with
  | true => exact ⟨1, rfl⟩
  | false => exact ⟨0, rfl⟩
theorem cellsI_new (w4 : World) (x : Id) : ∀ j u, (cellsI x)[j]? = some u → (w4.alloc (.cells (rowI [x]).toArray 23)).cell? ((⟨w4.heap.size, 0, none⟩ : Addr).add j) = some u := by
  have hb := blk_new w4 (.cells (rowI [x]).toArray 23)
  intro j u hj
  rw [add_plain, blk_cell hb j]
  simp [rowI, hj]
set_option maxHeartbeats 4000000 in
set_option maxRecDepth 100000 in
theorem list_calls (gb n : Nat) (es : List Id) (w : World) (hown : OwnsI w gb n es) (hup : UpI es) (hlim : es.length * 64 ≤ 140737488355328) :
    Calls Try.prog 34 #[.map (some gb)] w fun e w' => ∃ v, e = .returned v ∧ w'.ownsRow w.heap.size 23 32 v es.length (rowI es) ∧ Below w.heap.size w w' := by
  obtain ⟨j0, z0, hj, hy0, hy1, hy2, hy3⟩ := info_app
  have hbl := hown.lt
  have HO := Aside0.mk hown
  have hsize : Maps.size (datI es) = es.length := size_datI es
  clear hown
  go_enter Try.func34, Try.ntmps34
  go_wp2_with (first
    | (at_range; refine wpList_range_own _ rfl _ 52 rfl 23 4 lawI Try.underlying52 _ gb n _ rfl HO.out ?_; intro w1 hrg0 hg0 hs0))
  go_frame
  go_loopw [3] (fun v wr => ∃ (left : Lit → Bool) (cnt : Nat) (ks : List Id), Aside0 (wr.ranges Try.prog 23 (plainElem (H := Unit) Try.prog 4) gb w.heap.size n (datI es) left cnt) ∧ Aside0 (ks.length + cnt ≤ es.length) ∧
      Aside0 (wr.ownsRow w.heap.size 23 32 v ks.length (rowI ks)) ∧ Aside0 (Collected (datI es) left ks) ∧ Aside0 (∀ x ∈ ks, okId x) ∧ Aside0 (Below w.heap.size w wr))
    (fun _ wr => wr.rangeLeft gb w.heap.size)
  case atStart => exact ⟨_, _, [], ⟨hrg0⟩, ⟨by simp [hsize]⟩, ⟨own_nil _ _ _ _⟩, ⟨Collected.start _⟩, ⟨fun x hx => by cases hx⟩, ⟨(Below.refl _ _).grown hg0 (Nat.le_refl _) (fun j hj => by cases hj)⟩⟩
  case round =>
    clear hrg0 hg0 hs0
    obtain ⟨left, cnt, ks, hrg, hcs, hrow, hC, hks, hnx⟩ := hrel
    obtain ⟨A, c, rfl⟩ := own_slice hrow.out
    go_wp2_with (first
      | (at_next; refine wpList_next_ranges _ rfl _ rfl 23 lawI (plainElem Try.prog 4) valI bv (fun key kl hk => by obtain ⟨x, hx, _⟩ := keyOf_inv hk; exact ⟨x, hx⟩) (fun v y hv => bv_inv hv) gb w.heap.size n _ _ _ rfl hrg.out ?_ ?_))
    · intro hc0 hl0
      have hperm : ks.Perm es := collI_perm hup hC.out hl0
      have hlen : ks.length = es.length := hperm.length_eq
      have hnd : ks.Nodup := hperm.nodup_iff.2 (up_nodup hup)
      have HSK := Aside0.mk (sort_ids w.heap.size A c ks hks.out hnd wr hrow.out (by omega))
      have HF := Aside0.mk (And.intro hlen (show sortI ks = es from (sortI_ext fun x => hperm.mem_iff).trans (sortI_up hup)))
      have hsl : ks.length ≤ 9223372036854775807 := by omega
      have HOB := Aside0.mk (own_base hrow.out)
      clear hc0 hl0 hrg hC hcs hperm hlen hrow hnd
      go_wp2_with (first | (go_at_call 42; refine HSK.out.mono ?_; rintro e w3 ⟨rfl, hrow3, hg3⟩))
      go_ret
      refine ⟨_, rfl, ?_, hnx.out.grown hg3 hnx.out.size HOB.out⟩
      rw [HF.out.2, HF.out.1] at hrow3
      rw [HF.out.1]
      exact hrow3
    · intro x cv kl yd yp w2 cnt2 hkey hlk hv hat hrg2 hlt hg2 hs2 hen
      obtain ⟨x', ex, rfl, hokx⟩ := keyOf_inv hkey
      obtain rfl : x = x' := valI_inj ex
      have HROW2 := Aside0.mk (hrow.out.kept hg2 (Or.inr (row_ne_iter hrow.out hrg.out).symm))
      have HRG2 := Aside0.mk hrg2
      have HC2 : Aside0 (Collected (datI es) (fun z => left z && !z.sameKey (.string x)) (ks ++ [x])) := ⟨hC.out.step hlk hat⟩
      have HK2 : Aside0 (∀ y ∈ ks ++ [x], okId y) := ⟨fun y hy => by
        rcases List.mem_append.1 hy with h | h
        · exact hks.out y h
        · obtain rfl : y = x := by simpa using h
          exact hokx⟩
      have HLT := Aside0.mk hlt
      have HG2 := Aside0.mk hg2
      have hnew : ks.length + 1 ≤ es.length := by have := hcs.out; omega
      have hb48 : (ks.length + 1) * 32 ≤ 140737488355328 := Nat.le_trans (Nat.mul_le_mul_right 32 hnew) (by omega)
      have hml : ks.length + 1 ≤ maxLen := by unfold maxLen; omega
      have hw2 := Nat.le_trans hnx.out.size hg2.size
      have hones := cellsI_one x
      clear hs2 hkey hlk hv hat hrg2 hlt hg2 ex hC
      go_wp2_with (first
        | (refine wpl_store_new w2 _ x hokx (by rfl) (by rfl) (by rfl) _ _ (by rfl) (by rfl) (by rfl) ?_; intro W1 hb1 hB1 hs1; go_frame)
        | (refine wpl_load _ _ x (range_of_blk (t := 23) hb1) hokx (by rfl) _ (by rfl) (by rfl) ?_; go_frame)
        | (refine wpl_build [x] (fun y hy => by rw [List.mem_singleton.1 hy]; exact hokx) (by simp) (by simp) 1 rfl (by rfl) _ (by rfl) (by rfl) ?_; have HROWW := Aside0.mk ((own_below HROW2.out hB1).alloc (.cells (rowI [x]).toArray 23)); go_frame)
        | (at_builtin; refine wpList_append_own _ rfl _ _ 29 rfl w.heap.size 23 j0 _ 32 32 Try.underlying29 hj hy0 hy1 hy2 hy3 (by decide) _ _ _ rfl HROWW.out ⟨W1.heap.size, 0, none⟩ 1 1 (cellsI x) rfl (cellsI_ok hokx) (cellsI_new W1 x) hones hml hb48 (by simp; omega) ?_; intro v' w3 hown' hg3 hnil3; go_frame))
      have HRG3 := Aside0.mk ((((HRG2.out.kept (grown_of_below hB1) (by simp) (by simp)).alloc _).kept hg3 (row_ne_low HROW2.out hbl) (row_ne_iter HROW2.out HRG2.out)))
      have HB3 := Aside0.mk ((below_alloc (below_step (hnx.out.grown HG2.out hnx.out.size (fun j hj => by cases hj; exact Nat.le_refl _)) hB1) (.cells (rowI [x]).toArray 23)).grown hg3 (by simp; omega) (own_base HROW2.out))
      have HO3 : Aside0 (w3.ownsRow w.heap.size 23 32 v' (ks ++ [x]).length (rowI (ks ++ [x]))) := ⟨by rw [List.length_append]; unfold rowI; rw [List.flatMap_append]; simpa using hown'⟩
      have HN3 : Aside0 ((ks ++ [x]).length + cnt2 ≤ es.length) := ⟨by have := HLT.out; have := hcs.out; simp; omega⟩
      clear hown' hnil3
      go_roundw
      case rel => exact ⟨_, cnt2, ks ++ [x], HRG3, HN3, HO3, HC2, HK2, HB3⟩
      case measure => rw [HRG3.out.left_eq, hrg.out.left_eq]; exact HLT.out
end Go.Proofs.Ytkgjdeicjkibiaa.D
