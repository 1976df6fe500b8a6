/- ids.of: the set of a list. By hand. -/
import Derived.Test.YtkgjdeicjkibiaaDIKey
import Derived.RegionTactic
namespace Go.Proofs.Ytkgjdeicjkibiaa.D
open Go.RowKit Go.Maps Go.Proofs.YtkgjdeicjkibiaaW.PrintWords Go.Proofs.YtkgjdeicjkibiaaW.PrintLast Go.Proofs.YtkgjdeicjkibiaaW.PrintMore Go.Proofs.YtkgjdeicjkibiaaW
set_option linter.unusedVariables false
set_option linter.unusedSimpArgs false
def ofI (l : List Id) : List Id := l.foldl (fun es x => insI x es) []
theorem foldl_up (l : List Id) : ∀ es : List Id, UpI es → UpI (l.foldl (fun es x => insI x es) es) := by
  induction l with
  | nil => intro es h; exact h
  | cons x l ih => intro es h; exact ih _ (up_insI x es h)
theorem foldl_mem (l : List Id) (y : Id) : ∀ es : List Id, y ∈ l.foldl (fun es x => insI x es) es ↔ y ∈ es ∨ y ∈ l := by
  induction l with
  | nil => intro es; simp
  | cons x l ih =>
    intro es
    rw [List.foldl_cons, ih, mem_insI, List.mem_cons]
    constructor
    · rintro ((h | h) | h)
      · exact .inr (.inl h)
      · exact .inl h
      · exact .inr (.inr h)
    · rintro (h | h | h)
      · exact .inl (.inr h)
      · exact .inl (.inl h)
      · exact .inr h
theorem ofI_up (l : List Id) : UpI (ofI l) := foldl_up l [] List.Pairwise.nil
theorem ofI_sort (l : List Id) : ofI l = sortI l := up_ext (ofI_up l) (up_sortI l) fun x => by rw [mem_sortI]; unfold ofI; rw [foldl_mem]; simp
theorem ofI_take (l : List Id) (k : Nat) (h : k < l.length) : ofI (l.take (k + 1)) = insI (rdI l k) (ofI (l.take k)) := by
  unfold ofI
  rw [List.take_succ_eq_append_getElem h, List.foldl_append, rdI_at l k h]; rfl
set_option maxHeartbeats 4000000 in
set_option maxRecDepth 100000 in
theorem of_calls (A0 : Option Addr) (c0 : Nat) (l : List Id) (w : World) (hr0 : Kd.C kI w A0 l.length l) (hlim : l.length < maxLen) :
    Calls Try.prog 33 #[.slice A0 l.length c0] w fun e w' => ∃ gb, e = .returned (.map (some gb)) ∧ w.heap.size ≤ gb ∧ OwnsI w' gb l.length (sortI l) ∧ Below w.heap.size w w' := by
  have HR := Aside0.mk hr0
  have HL := Aside0.mk hr0.2.1
  clear hr0
  have hum := Try.underlying52
  have hmm := @run_makeMap Try.prog
  go_enter Try.func33, Try.ntmps33
  go_wp2
  go_loopw [9] (fun i wr => ∃ k : Nat, k ≤ l.length ∧ i = .int .i64 k ∧ Aside0 (OwnsI wr w.heap.size k (ofI (l.take k))) ∧ Aside0 (Below w.heap.size w wr)) (fun i _ => l.length - (intOf i).toNat)
  case atStart => exact ⟨0, Nat.zero_le _, rfl, ⟨World.ownsMap_made w Try.prog 23 (plainElem (H := Unit) Try.prog 4)⟩, ⟨below_alloc (Below.refl _ _) _⟩⟩
  case round =>
    clear hmm
    obtain ⟨k, hk, rfl, hO, HB⟩ := hrel
    by_cases hlt : k < l.length
    · obtain ⟨b, o, rfl, hx, hok⟩ := at_I HR.out k hlt
      have HX := Aside0.mk (range_below hx HB.out)
      have HS := Aside0.mk (ofI_take l k hlt)
      have hl63 := HL.out
      clear hx
      go_wp2_with (first
        | (refine wpl_load _ _ (rdI l k) HX.out hok (by rfl) _ (by rfl) (by rfl) ?_; go_frame)
        | (refine wpl_store_new wr _ (rdI l k) hok (by rfl) (by rfl) (by rfl) _ _ (by rfl) (by rfl) (by rfl) ?_; intro W1 hb1 hB1 hs1; have HO1 := Aside0.mk (owns_below hO.out hB1); go_frame)
        | (refine wpl_load _ _ (rdI l k) (range_of_blk (t := 23) hb1) hok (by rfl) _ (by rfl) (by rfl) ?_; go_frame)
        | (refine wpList_mapUpdate_own _ (by rfl) _ _ _ 52 (by rfl) 23 4 lawI hum _ w.heap.size k (datI (ofI (l.take k))) (by rfl) HO1.out (by omega) _ _ (.string (rdI l k)) (by rfl) (by rfl) (keyOf_I hok) (.lit (.bool true)) [] (plainElem_bool Try.underlying4 true) ?_; intro w2 hown2 hg2; go_frame))
      have HO2 : Aside0 (OwnsI w2 w.heap.size (k + 1) (ofI (l.take (k + 1)))) := ⟨by rw [put_datI _ (ofI_up _)] at hown2; rw [HS.out]; exact hown2⟩
      have HB2 := Aside0.mk ((below_step HB.out hB1).grown hg2 (by have := HB.out.size; have := hB1.size; omega) (fun j hj => by cases hj; exact Nat.le_refl _))
      clear hown2 hg2 hb1 hB1
      go_roundw
      case rel => exact ⟨k + 1, by omega, by go_num, HO2, HB2⟩
      case measure => simp [intOf]; omega
    · have HE := Aside0.mk (show l.take k = l ∧ k = l.length from ⟨List.take_of_length_le (by omega), by omega⟩)
      go_wp2
      go_ret
      refine ⟨_, rfl, Nat.le_refl _, ?_, HB.out⟩
      have := hO.out
      rw [HE.out.1, HE.out.2, ofI_sort] at this
      exact this
end Go.Proofs.Ytkgjdeicjkibiaa.D
