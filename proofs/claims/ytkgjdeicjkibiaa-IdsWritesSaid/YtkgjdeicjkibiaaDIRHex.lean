/- ref04.Hex. By hand. -/
import Derived.Test.YtkgjdeicjkibiaaDIHex
import Derived.Test.YtkgjdeicjkibiaaDIRLess
import Derived.Laws.Concat
namespace Go.Proofs.Ytkgjdeicjkibiaa.D
open Go.RowKit Go.Proofs.YtkgjdeicjkibiaaW.PrintWords Go.Proofs.YtkgjdeicjkibiaaW.PrintLast Go.Proofs.YtkgjdeicjkibiaaW.PrintMore Go.Proofs.YtkgjdeicjkibiaaW
set_option linter.unusedVariables false
set_option linter.unusedSimpArgs false
theorem hexS_take {x : Id} (k : Nat) (hk : k < x.length) : (⟨(hexI (x.take k)).toArray⟩ : ByteArray) ++ ⟨#[dig ((x.getD k 0).toNat / 16)]⟩ ++ ⟨#[dig ((x.getD k 0).toNat % 16)]⟩ = ⟨(hexI (x.take (k + 1))).toArray⟩ := by
  have e : x.getD k 0 = x[k] := by simp [List.getD_eq_getElem?_getD, hk]
  rw [e, List.take_succ_eq_append_getElem hk]
  have h : hexI (x.take k ++ [x[k]]) = hexI (x.take k) ++ [dig (x[k].toNat / 16), dig (x[k].toNat % 16)] := by unfold hexI; rw [List.flatMap_append]; rfl
  rw [h]
  apply ByteArray.ext
  rw [ByteArray.data_append, ByteArray.data_append]
  generalize hexI (x.take k) = l
  simp
abbrev digS : ByteArray := ⟨#[48, 49, 50, 51, 52, 53, 54, 55, 56, 57, 97, 98, 99, 100, 101, 102]⟩
theorem digS_cut (m : Nat) (h : m < 16) : digS.extract m (m + 1) = ⟨#[dig m]⟩ := by
  have : ∀ n : Fin 16, digS.extract n.val (n.val + 1) = ⟨#[dig n.val]⟩ := by decide
  exact this ⟨m, h⟩
theorem digS_slice (m : Nat) (h : m < 16) (i j : Int) (hi : i = m) (hj : j = (m : Int) + 1) (W : World) : (Instr.slice 9 (.string digS) (some (.int .i64 i)) (some (.int .i64 j)) none).run Try.prog W = .ok (.string ⟨#[dig m]⟩) W := by
  subst hi hj
  have := run_slice_string (P := Try.prog) W 9 digS .i64 .i64 (m : Int) ((m : Int) + 1) Try.underlying9 (by omega) (by omega) (by show _ ≤ ((16 : Nat) : Int); omega)
  rw [this]
  rw [← digS_cut m h]
  congr 3
set_option maxHeartbeats 4000000 in
set_option maxRecDepth 100000 in
theorem rhex_calls {x : Id} (hx : okId x) (w : World) :
    Calls Try.prog 13 #[valI x] w fun e w' => e = .returned (.string ⟨(hexI x).toArray⟩) ∧ Below w.heap.size w w' := by
  have HX0 : Aside0 ((w.alloc (.cells (arrI x) 23)).rangeAt w.heap.size 0 (cellsI x)) := ⟨range_of_blk (t := 23) (blk_new w _)⟩
  have HB0 := Aside0.mk (below_alloc (Below.refl w.heap.size w) (.cells (arrI x) 23))
  go_enter Try.func13, Try.ntmps13
  go_wp2_with fail
  go_loopw [4, 5] (fun s i wr => ∃ k : Nat, k ≤ 32 ∧ i = .int .i64 k ∧ s = .string ⟨(hexI (x.take k)).toArray⟩ ∧ Aside0 (wr.rangeAt w.heap.size 0 (cellsI x)) ∧ Aside0 (Below w.heap.size w wr)) (fun _ i _ => 32 - (intOf i).toNat)
  case atStart => exact ⟨0, Nat.zero_le _, rfl, rfl, HX0, HB0⟩
  case round =>
    clear HX0 HB0
    obtain ⟨k, hk, rfl, rfl, HX, HB⟩ := hrel
    by_cases hlt : k < 32
    · have hcx := cell_I hx HX.out k hlt
      have HXd : Aside0 (wr.drew.rangeAt w.heap.size 0 (cellsI x)) := ⟨HX.out⟩
      have HBd := Aside0.mk (below_drew HB.out)
      obtain ⟨S1, hS1⟩ : ∃ S1 : ByteArray, S1 = ⟨(hexI (x.take k)).toArray⟩ ++ ⟨#[dig ((x.getD k 0).toNat / 16)]⟩ := ⟨_, rfl⟩
      obtain ⟨S2, hS2⟩ : ∃ S2 : ByteArray, S2 = S1 ++ ⟨#[dig ((x.getD k 0).toNat % 16)]⟩ := ⟨_, rfl⟩
      have HT : Aside0 (S2 = ⟨(hexI (x.take (k + 1))).toArray⟩) := ⟨by rw [hS2, hS1]; exact hexS_take k (by rw [hx]; exact hlt)⟩
      have hsz : (⟨(hexI (x.take k)).toArray⟩ : ByteArray).size ≤ 64 := by
        show (hexI (x.take k)).toArray.size ≤ 64
        rw [List.size_toArray, hexI_length, List.length_take]; omega
      have hsz1 : S1.size ≤ 65 := by rw [hS1, ByteArray.size_append]; exact Nat.add_le_add hsz (Nat.le_refl 1)
      have hcc1 := fun W => run_string_add_sum (P := Try.prog) (w := W) ⟨(hexI (x.take k)).toArray⟩ ⟨#[dig ((x.getD k 0).toNat / 16)]⟩ (by have e : (⟨#[dig ((x.getD k 0).toNat / 16)]⟩ : ByteArray).size = 1 := rfl; omega)
      have hcc2 := fun W => run_string_add_sum (P := Try.prog) (w := W) S1 ⟨#[dig ((x.getD k 0).toNat % 16)]⟩ (by have e : (⟨#[dig ((x.getD k 0).toNat % 16)]⟩ : ByteArray).size = 1 := rfl; omega)
      rw [← hS1] at hcc1
      rw [← hS2] at hcc2
      clear hS1 hS2 hsz hsz1
      generalize x.getD k 0 = c at hcx hcc1 hcc2
      generalize (⟨(hexI (x.take k)).toArray⟩ : ByteArray) = S at hcc1
      have hcl := c.toNat_lt
      have hc0 : (0 : Int) ≤ (c.toNat : Int) := Int.natCast_nonneg _
      have hc1 : (c.toNat : Int) < 256 := by omega
      have hk0 : (0 : Int) ≤ (k : Int) := Int.natCast_nonneg _
      have h0 : (0 : Int) ≤ (c.toNat : Int) / 16 := by omega
      have h1 : (c.toNat : Int) / 16 < 16 := by omega
      have h2 : (0 : Int) ≤ (c.toNat : Int) % 16 := by omega
      have h3 : (c.toNat : Int) % 16 < 16 := by omega
      have h4 : wrap64 ((c.toNat : Int) / 16 + 1) = (c.toNat : Int) / 16 + 1 := by unfold wrap64; omega
      have h5 : wrap64 ((c.toNat : Int) % 16 + 1) = (c.toNat : Int) % 16 + 1 := by unfold wrap64; omega
      have h6 : (c.toNat : Int).tdiv 16 = (c.toNat : Int) / 16 := Int.tdiv_eq_ediv_of_nonneg hc0
      have h7 : (c.toNat : Int).tmod 16 = (c.toNat : Int) % 16 := Int.tmod_eq_emod_of_nonneg hc0
      have hs1 := fun W => digS_slice (c.toNat / 16) (by omega) ((c.toNat : Int) / 16) ((c.toNat : Int) / 16 + 1) (by omega) (by omega) W
      have hs2 := fun W => digS_slice (c.toNat % 16) (by omega) ((c.toNat : Int) % 16) ((c.toNat : Int) % 16 + 1) (by omega) (by omega) W
      go_wp2
      go_region
      go_wp2
      go_roundw
      case rel => exact ⟨k + 1, by omega, by go_num, by rw [HT.out], HXd, HBd⟩
      case measure => simp [intOf]; omega
    · have hk32 : k = 32 := by omega
      have HT : Aside0 (x.take k = x) := ⟨by rw [hk32]; exact List.take_of_length_le (by rw [hx]; exact Nat.le_refl _)⟩
      clear hk32
      go_wp2
      go_ret
      exact ⟨by rw [HT.out]; rfl, HB.out⟩
end Go.Proofs.Ytkgjdeicjkibiaa.D
