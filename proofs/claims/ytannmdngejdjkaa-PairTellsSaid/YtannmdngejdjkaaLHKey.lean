/- ops.Key: is a text a key? By hand: the walk, and what it comes to. -/
import Derived.Test.YtannmdngejdjkaaLx0
import Derived.Test.YtannmdngejdjkaaShelf
namespace Go.Proofs.Ytannmdngejdjkaa.L
open Go.RowKit Go.Proofs.YtannmdngejdjkaaW.PrintWords Go.Proofs.YtannmdngejdjkaaW.PrintLast Go.Proofs.YtannmdngejdjkaaW.PrintMore
set_option linter.unusedVariables false
set_option linter.unusedSimpArgs false

/-- a letter or a digit -/
def keyChar (c : UInt8) : Bool := decide (97 ≤ c.toNat ∧ c.toNat ≤ 122) || decide (48 ≤ c.toNat ∧ c.toNat ≤ 57)
def keyB (l : List UInt8) : Bool := l.all keyChar && (decide (1 ≤ l.length) && decide (l.length ≤ 8))
def ops_Key.f (a0 : ByteArray) : Option (Bool) := if a0.size ≤ 9223372036854775807 then some (keyB a0.data.toList) else none
def signs : List UInt8 := [97, 98, 99, 100, 101, 102, 103, 104, 105, 106, 107, 108, 109, 110, 111, 112, 113, 114, 115, 116, 117, 118, 119, 120, 121, 122, 48, 49, 50, 51, 52, 53, 54, 55, 56, 57]
theorem signs_all : ∀ n : Fin 256, decide (Lib.indexByte signs (UInt8.ofNat n.1) < 0) = !keyChar (UInt8.ofNat n.1) := by decide +kernel
theorem signs_at (c : UInt8) : decide (Lib.indexByte signs c < 0) = !keyChar c := by
  have h := signs_all ⟨c.toNat, c.toNat_lt⟩
  simpa using h
theorem ops_Key.calls (a0 : ByteArray) (r : Bool) (w : World) (h : ops_Key.f a0 = some r) :
    Calls Try.prog 69 #[.string a0] w fun e w' => e = .returned (.bool r) ∧ Drawn0 w w' := by
  have hs : a0.size ≤ 9223372036854775807 := by
    by_cases q : a0.size ≤ 9223372036854775807
    · exact q
    · simp [ops_Key.f, q] at h
  obtain rfl : keyB a0.data.toList = r := by simpa [ops_Key.f, hs] using h
  clear h
  go_enter Try.func69, Try.ntmps69
  go_wp2
  go_loop [6] (fun i => ∃ k : Nat, k ≤ a0.size ∧ i = .int .i64 k ∧ Aside0 ((a0.data.toList.take k).all keyChar = true)) (fun i => a0.size - (intOf i).toNat)
  case atStart => exact ⟨0, Nat.zero_le _, rfl, ⟨by simp⟩⟩
  case round =>
    obtain ⟨k, hk, rfl, ha⟩ := hrel
    by_cases hlt : k < a0.size
    · have hc := signs_at a0[k]
      have htk : a0.data.toList.take (k + 1) = a0.data.toList.take k ++ [a0[k]] := by
        rw [List.take_succ_eq_append_getElem (by simpa using hlt)]; rfl
      have hmem : a0[k] ∈ a0.data.toList := by
        have : a0[k] = a0.data.toList[k]'(by simpa using hlt) := rfl
        rw [this]; exact List.getElem_mem _
      cases hq : keyChar a0[k] with
      | true =>
        have H1 := Aside0.mk (show (a0.data.toList.take (k + 1)).all keyChar = true by rw [htk, List.all_append, ha.out]; simp [hq])
        rw [hq] at hc
        clear hq htk ha hmem
        have hc2 : decide (Lib.indexByte signs a0[k] < 0) = false := hc
        clear hc
        have H2 := Aside0.mk hc2
        clear hc2
        go_wp2_with fail
        refine (Try.strings_IndexByte _ _ _).mono ?_
        rintro e w' ⟨rfl, rfl⟩
        have hc := H2.out
        simp only [signs] at hc
        generalize hn : Lib.indexByte _ _ = n
        have hn0 : decide (n < 0) = false := by rw [← hn]; first | exact hc | (have h2 := of_decide_eq_false hc; simp at h2 ⊢; exact h2)
        clear hc hn H2
        go_wp2
        go_round
        case rel => exact ⟨k + 1, by omega, by go_num, H1⟩
        case measure => simp [intOf]; omega
      | false =>
        have H1 := Aside0.mk (show keyB a0.data.toList = false by
          unfold keyB
          rw [Bool.and_eq_false_iff]
          refine .inl ?_
          rw [List.all_eq_false]
          exact ⟨a0[k], hmem, by simp [hq]⟩)
        rw [hq] at hc
        clear hq htk ha hmem
        have hc2 : decide (Lib.indexByte signs a0[k] < 0) = true := hc
        clear hc
        have H2 := Aside0.mk hc2
        clear hc2
        go_wp2_with fail
        refine (Try.strings_IndexByte _ _ _).mono ?_
        rintro e w' ⟨rfl, rfl⟩
        have hc := H2.out
        simp only [signs] at hc
        generalize hn : Lib.indexByte _ _ = n
        have hn0 : decide (n < 0) = true := by rw [← hn]; first | exact hc | (have h2 := of_decide_eq_true hc; simp at h2 ⊢; exact h2)
        clear hc hn H2
        go_wp2
        go_ret
        exact ⟨by rw [H1.out]; rfl, Drawn0.refl _⟩
    · have hk' : k = a0.size := by omega
      have H1 := Aside0.mk (show a0.data.toList.all keyChar = true by
        have := ha.out
        rwa [List.take_of_length_le (by rw [hk']; simp)] at this)
      clear ha
      have HL := Aside0.mk (show a0.data.toList.length = a0.size from data_length a0)
      have he : a0.toList = a0.data.toList := ByteArray.toList_eq a0
      by_cases h0 : a0.size = 0
      · have h1 : a0.data.toList = [] := List.eq_nil_of_length_eq_zero (by rw [data_length]; exact h0)
        have HF := Aside0.mk (show keyB a0.data.toList = false by rw [h1]; rfl)
        have h2 : a0.toList.isEmpty = true := by rw [he, h1]; rfl
        clear h0 h1 hk' he H1 HL
        go_wp2
        go_ret
        exact ⟨by rw [HF.out]; rfl, Drawn0.refl _⟩
      · have h2 : a0.toList.isEmpty = false := by
          rw [he, List.isEmpty_eq_false_iff_exists_mem]
          have : 0 < a0.data.toList.length := by rw [data_length]; omega
          exact ⟨_, List.getElem_mem this⟩
        by_cases h8 : a0.size ≤ 8
        · have HF := Aside0.mk (show keyB a0.data.toList = true by
            unfold keyB
            rw [H1.out, HL.out]
            simp; omega)
          have h9 : decide ((a0.size : Int) ≤ 8) = true := by simp; omega
          clear h0 hk' he H1 HL h8
          go_wp2
          go_ret
          exact ⟨by rw [HF.out]; rfl, Drawn0.refl _⟩
        · have HF := Aside0.mk (show keyB a0.data.toList = false by
            unfold keyB
            rw [HL.out]
            simp; omega)
          have h9 : decide ((a0.size : Int) ≤ 8) = false := by simp; omega
          clear h0 hk' he H1 HL h8
          go_wp2
          go_ret
          exact ⟨by rw [HF.out]; rfl, Drawn0.refl _⟩
end Go.Proofs.Ytannmdngejdjkaa.L
