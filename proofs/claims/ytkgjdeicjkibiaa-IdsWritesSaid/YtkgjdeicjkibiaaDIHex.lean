/- ids.Hex. By hand. -/
import Derived.Test.YtkgjdeicjkibiaaDIBuf
import Derived.Maps.RangeWalk
namespace Go.Proofs.Ytkgjdeicjkibiaa.D
open Go.RowKit Go.Proofs.YtkgjdeicjkibiaaW.PrintWords Go.Proofs.YtkgjdeicjkibiaaW.PrintLast Go.Proofs.YtkgjdeicjkibiaaW.PrintMore Go.Proofs.YtkgjdeicjkibiaaW
set_option linter.unusedVariables false
set_option linter.unusedSimpArgs false
def digitsL : List UInt8 := [48, 49, 50, 51, 52, 53, 54, 55, 56, 57, 97, 98, 99, 100, 101, 102]
def dig (n : Nat) : UInt8 := digitsL.getD n 0
def hexB (c : UInt8) : List UInt8 := [dig (c.toNat / 16), dig (c.toNat % 16)]
def hexI (x : Id) : List UInt8 := x.flatMap hexB
theorem hexI_length : ∀ x : Id, (hexI x).length = 2 * x.length
  | [] => rfl
  | c :: x => by
    have := hexI_length x
    unfold hexI at this ⊢
    rw [List.flatMap_cons, List.length_append, this, List.length_cons]
    show 2 + _ = _
    omega
theorem index_I {x : Id} (hx : okId x) (k : Nat) (hk : k < 32) (w : World) : (Instr.index 23 (valI x) (.int .i64 k)).run Try.prog w = .ok (cellI (x.getD k 0)) w := by
  have hl : k < (cellsI x).length := by rw [cellsI_ok hx]; exact hk
  have hx' : k < x.length := by rw [hx]; exact hk
  have hag := Try.isAgg5
  have hsz := Try.sizeOf5
  have e : (arrI x)[k]? = some (cellI (x.getD k 0)) := by
    simp [arrI, cellsI, List.getD_eq_getElem?_getD, hx']
  simp [Instr.index, asIntOf, run_underlying Try.underlying23, part, hag, hsz, e, Result.andThen, hk]
theorem digit_get (n : Nat) (hn : n < 16) (h : n < (⟨#[48, 49, 50, 51, 52, 53, 54, 55, 56, 57, 97, 98, 99, 100, 101, 102]⟩ : ByteArray).size) : (⟨#[48, 49, 50, 51, 52, 53, 54, 55, 56, 57, 97, 98, 99, 100, 101, 102]⟩ : ByteArray)[n] = dig n := by
  have : ∀ m : Fin 16, (⟨#[48, 49, 50, 51, 52, 53, 54, 55, 56, 57, 97, 98, 99, 100, 101, 102]⟩ : ByteArray)[m.val]'(by have := m.isLt; exact this) = dig m.val := by decide
  exact this ⟨n, hn⟩
theorem hexI_take {x : Id} (k : Nat) (hk : k < x.length) : Lib.byteCells (hexI (x.take (k + 1))) = Lib.byteCells (hexI (x.take k)) ++ [.int .u8 ((dig ((x.getD k 0).toNat / 16)).toNat : Int)] ++ [.int .u8 ((dig ((x.getD k 0).toNat % 16)).toNat : Int)] := by
  have e : x.getD k 0 = x[k] := by simp [List.getD_eq_getElem?_getD, hk]
  rw [e, List.take_succ_eq_append_getElem hk]
  unfold hexI Lib.byteCells
  rw [List.flatMap_append, List.map_append, List.append_assoc]
  rfl
set_option maxHeartbeats 4000000 in
set_option maxRecDepth 100000 in
theorem hex_calls {x : Id} (hx : okId x) (w : World) :
    Calls Try.prog 12 #[valI x] w fun e w' => e = .returned (.string ⟨(hexI x).toArray⟩) ∧ Below w.heap.size w w' := by
  go_enter Try.func12, Try.ntmps12
  have HX0 : Aside0 ((w.alloc (.cells (arrI x) 23)).rangeAt w.heap.size 0 (cellsI x)) := ⟨range_of_blk (t := 23) (blk_new w _)⟩
  have HX1 : Aside0 (((w.alloc (.cells (arrI x) 23)).alloc (.cells #[.pointer none, .slice none 0 0] 46)).rangeAt w.heap.size 0 (cellsI x)) := ⟨World.rangeAt_alloc HX0.out _⟩
  go_wp2_with (first
    | (refine wpl_load _ _ x HX1.out hx (by rfl) _ (by rfl) (by rfl) ?_; go_frame))
  have HI0 : Aside0 (IsBuf w.heap.size (w.heap.size + 1) [] ((w.alloc (.cells (arrI x) 23)).alloc (.cells #[.pointer none, .slice none 0 0] 46))) := ⟨.inl ⟨Nat.le_succ _, .slice none 0 0, by have := blk_new (w.alloc (.cells (arrI x) 23)) (.cells #[.pointer none, .slice none 0 0] 46); simpa using this, own_nil _ _ _ _, by simp [Value.ownBlock]⟩⟩
  go_loopw [7] (fun i wr => ∃ k : Nat, k ≤ 32 ∧ i = .int .i64 k ∧ Aside0 (IsBuf w.heap.size (w.heap.size + 1) (Lib.byteCells (hexI (x.take k))) wr) ∧ Aside0 (Below w.heap.size w wr)) (fun i _ => 32 - (intOf i).toNat)
  case atStart => exact ⟨0, Nat.zero_le _, rfl, HI0, ⟨below_alloc (below_alloc (Below.refl w.heap.size w) _) _⟩⟩
  case round =>
    clear HI0 HX0 HX1
    obtain ⟨k, hk, rfl, hI, HB⟩ := hrel
    by_cases hlt : k < 32
    · have hix := index_I hx k hlt wr
      have HT := Aside0.mk (hexI_take (x := x) k (by rw [hx]; exact hlt))
      generalize x.getD k 0 = c at hix HT
      unfold cellI at hix
      have hcl := c.toNat_lt
      have h0 : (0 : Int) ≤ (c.toNat : Int) / 16 := by omega
      have h1 : (c.toNat : Int) / 16 < 16 := by omega
      have hlb : (Lib.byteCells (hexI (x.take k))).length ≤ 64 := by
        unfold Lib.byteCells
        rw [List.length_map, hexI_length, List.length_take]; omega
      generalize Lib.byteCells (hexI (x.take k)) = bs at hI hlb HT
      go_wp2_with (first
        | (go_at_call 31; refine (writeByte_calls w.heap.size (w.heap.size + 1) bs _ wr hI.out (by omega) HB.out.size).mono ?_; rintro e w1 ⟨rfl, hp1, hq1⟩; have HP1 := Aside0.mk hp1; have HB1 := Aside0.mk (HB.out.trans hq1); clear hp1 hq1 hI HB; go_frame)
        | (go_at_call 31; refine (writeByte_calls w.heap.size (w.heap.size + 1) _ _ w1 (.inr HP1.out) (by simp; omega) HB1.out.size).mono ?_; rintro e w2 ⟨rfl, hp2, hq2⟩; have HP2 := Aside0.mk hp2; have HB2 := Aside0.mk (HB1.out.trans hq2); clear hp2 hq2 HP1 HB1; go_frame))
      rw [digit_get _ (by omega), digit_get _ (by omega), ← HT.out] at HP2
      go_roundw
      case rel => exact ⟨k + 1, by omega, by go_num, ⟨.inr HP2.out⟩, HB2⟩
      case measure => simp [intOf]; omega
    · have hk32 : k = 32 := by omega
      subst hk32
      have HS := Aside0.mk (Try.Builder_String_any w.heap.size (w.heap.size + 1) (hexI (x.take 32)) wr hI.out HB.out.size)
      have hxt : x.take 32 = x := List.take_of_length_le (by rw [hx]; exact Nat.le_refl _)
      rw [hxt] at HS
      clear hI
      go_wp2_with (first
        | (go_at_call 32; refine HS.out.mono ?_; rintro e w1 ⟨rfl, hq1⟩; have HB1 := Aside0.mk (HB.out.trans hq1)))
      go_ret
      exact ⟨rfl, HB1.out⟩
end Go.Proofs.Ytkgjdeicjkibiaa.D
