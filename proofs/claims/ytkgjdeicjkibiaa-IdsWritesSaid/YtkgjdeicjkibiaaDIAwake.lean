/- The chapter's example: it is true. By hand. -/
import Derived.Test.YtkgjdeicjkibiaaDICat
import Derived.Test.YtkgjdeicjkibiaaDIHas
import Derived.Test.YtkgjdeicjkibiaaDIRead
namespace Go.Proofs.Ytkgjdeicjkibiaa.D
open Go.RowKit Go.Maps Go.Proofs.YtkgjdeicjkibiaaW.PrintWords Go.Proofs.YtkgjdeicjkibiaaW.PrintLast Go.Proofs.YtkgjdeicjkibiaaW.PrintMore Go.Proofs.YtkgjdeicjkibiaaW
set_option linter.unusedVariables false
set_option linter.unusedSimpArgs false
theorem C_of_blk {w : World} {g : Nat} {xs : List Id} (hb : w.heap[g]? = some (.cells (rowI xs).toArray 23 (0, 0))) (hok : ∀ x ∈ xs, okId x) (hl : xs.length ≤ 1000) : Kd.C kI w (some ⟨g, 0, none⟩) xs.length xs := by
  have hr := rowI_length hok
  refine own_C (base := 0) (c := xs.length) ⟨hr, .inr ⟨g, xs.length, _, rfl, Nat.zero_le _, hb, Nat.le_refl _, by unfold maxLen; omega, by rw [List.size_toArray]; exact hr, ?_⟩⟩ hok
  rw [← hr]
  exact List.take_of_length_le (Nat.le_refl _)
def oneI : Id := List.replicate 31 0 ++ [1]
theorem oneI_ok : okId oneI := rfl
theorem wpl_build31 {ops : Array Oper} {rest : List Oper} {op : Oper} {a : Act} {w : World} {Q : Exit → Act → World → Prop} (hgd : op.guard = none) (ho : op.op = .build 23 #[(31, .const (.int .u8 1))]) (hK : wpList Try.prog ops Q rest (a.put op.dst (valI oneI)) w) : wpList Try.prog ops Q (op :: rest) a w := by
  have hr : (Instr.build 23 #[(31, .int .u8 1)]).run Try.prog w = .ok (valI oneI) w := by kernel_rfl
  refine wpList_plain hgd fun _ hK' => ?_
  unfold Oper.wp execOp
  have e : (#[(31, Operand.const (.int .u8 1))] : Array (Nat × Operand)).map (fun (i, x) => (i, a.eval x)) = #[(31, .int .u8 1)] := by simp [Act.eval]
  simp only [ho, Sem.run_bind, e, hr, Result.andThen_ok]
  exact hK' _ _ hK
set_option maxRecDepth 100000 in
theorem read_one : readI (hexI oneI) = some oneI := by decide +kernel
theorem hex_one_len : (hexI oneI).length = 64 := by decide +kernel
theorem lt_one : ltI zeroI oneI = true := by decide +kernel
theorem sort_one : (sortI [oneI, zeroI, oneI]).length = 2 := by decide +kernel
theorem both_one : (bothI [zeroI] [oneI]).length = 2 := by decide +kernel
theorem common_one : (someI [zeroI] [zeroI] true).length = 1 := by decide +kernel
theorem without_one : (someI [zeroI] [oneI] false).length = 1 := by decide +kernel
theorem blk_new2 (w : World) (o o' : Obj) : ((w.alloc o).alloc o').heap[w.heap.size + 1]? = some o' := by
  have := blk_new (w.alloc o) o'
  simpa using this
theorem ok1 {x : Id} (h : okId x) : ∀ y ∈ [x], okId y := fun y hy => by rw [List.mem_singleton.1 hy]; exact h
theorem ok3 {x y z : Id} (hx : okId x) (hy : okId y) (hz : okId z) : ∀ u ∈ [x, y, z], okId u := fun u hu => by
  simp at hu
  rcases hu with rfl | rfl | rfl <;> assumption
set_option maxHeartbeats 8000000 in
set_option maxRecDepth 100000 in
theorem awake_calls (w : World) : Calls Try.prog 9 #[] w fun e w' => e = .returned (.bool true) ∧ Below w.heap.size w w' := by
  have HHex : Aside0 (∀ V : World, Calls Try.prog 12 #[valI oneI] V fun e w' => e = .returned (.string ⟨(hexI oneI).toArray⟩) ∧ Below V.heap.size V w') := ⟨fun V => hex_calls oneI_ok V⟩
  have HRead : Aside0 (∀ V : World, Calls Try.prog 10 #[.string ⟨(hexI oneI).toArray⟩] V fun e w' => e = .returned (.tuple #[valI oneI, .bool true]) ∧ Below V.heap.size V w') := ⟨fun V => by
    have h := read_calls ⟨(hexI oneI).toArray⟩ (by show (hexI oneI).toArray.size ≤ _; rw [List.size_toArray, hex_one_len]; omega) V
    simp only [read_one] at h
    exact h⟩
  have HLess : Aside0 (∀ V : World, Calls Try.prog 19 #[valI zeroI, valI oneI] V fun e w' => e = .returned (.bool true) ∧ Below V.heap.size V w') := ⟨fun V => by
    have h := less_calls zeroI_ok oneI_ok V
    rw [lt_one] at h
    exact h⟩
  have hlen : (⟨(hexI oneI).toArray⟩ : ByteArray).size = 64 := by show (hexI oneI).toArray.size = 64; rw [List.size_toArray, hex_one_len]
  generalize (⟨(hexI oneI).toArray⟩ : ByteArray) = S at HHex HRead hlen
  have heq : ∀ V : World, (Op.equalIn 10000 23 (valI oneI) (valI oneI)).run Try.prog V = .ok true V := fun V => by
    have := eqIn_I oneI_ok oneI_ok V
    simpa using this
  have q1 := sort_one
  have q2 := both_one
  have q3 := common_one
  have q4 := without_one
  have q5 : decide (zeroI ∈ [zeroI]) = true := by simp
  go_enter Try.func9, Try.ntmps9
  go_wp2_with (first
    | (refine wpl_build0 (by rfl) (by rfl) ?_; go_frame)
    | (refine wpl_build31 (by rfl) (by rfl) ?_; go_frame)
    | (refine wpl_alloc (by rfl) (by rfl) ?_; go_frame)
    | (refine wpl_store_new w _ zeroI zeroI_ok (by rfl) (by rfl) (by rfl) _ _ (by rfl) (by rfl) (by rfl) ?_; intro W1 hb1 hB1 hs1; have HA := Aside0.mk hb1; have HB := Aside0.mk hB1; have hlt1 := hB1.size; clear hb1 hB1; go_frame)
    | (refine wpl_store_new W1 _ oneI oneI_ok (by rfl) (by rfl) (by rfl) _ _ (by rfl) (by rfl) (by rfl) ?_; intro W2 hb2 hB2 hs2; have HA := Aside0.mk (blk_below HA.out hB2); have HO := Aside0.mk hb2; have HB := Aside0.mk (below_step HB.out hB2); clear hb2 hB2; go_frame)
    | (refine wpl_load W1.heap.size 0 oneI (range_of_blk (t := 23) HO.out) oneI_ok (by rfl) _ (by rfl) (by rfl) ?_; go_frame)
    | (go_at_call 12; refine (HHex.out _).mono ?_; rintro e W3 ⟨rfl, hb3⟩; have HA := Aside0.mk (blk_below HA.out hb3); have HO := Aside0.mk (blk_below HO.out hb3); have HB := Aside0.mk (below_step HB.out hb3); clear hb3; go_frame)
    | (go_at_call 10; refine (HRead.out _).mono ?_; rintro e W4 ⟨rfl, hb4⟩; have HA := Aside0.mk (blk_below HA.out hb4); have HO := Aside0.mk (blk_below HO.out hb4); have HB := Aside0.mk (below_step HB.out hb4); clear hb4; go_frame)
    | (refine wpl_store_new W4 _ oneI oneI_ok (by rfl) (by rfl) (by rfl) _ _ (by rfl) (by rfl) (by rfl) ?_; intro W5 hb5 hB5 hs5; have HA := Aside0.mk (blk_below HA.out hB5); have HO := Aside0.mk (blk_below HO.out hB5); have HX := Aside0.mk hb5; have HB := Aside0.mk (below_step HB.out hB5); clear hb5 hB5; go_frame)
    | ((try (refine gate_guard (by rfl) ?_; dsimp only)); refine wpl_load w.heap.size 0 zeroI (range_of_blk (t := 23) (by first | exact HA.out | exact blk_alloc HA.out _ | exact blk_alloc (blk_alloc HA.out _) _)) zeroI_ok (by rfl) _ (by rfl) (by rfl) ?_; go_frame)
    | ((try (refine gate_guard (by rfl) ?_; dsimp only)); refine wpl_load W1.heap.size 0 oneI (range_of_blk (t := 23) (by first | exact HO.out | exact blk_alloc HO.out _ | exact blk_alloc (blk_alloc HO.out _) _)) oneI_ok (by rfl) _ (by rfl) (by rfl) ?_; go_frame)
    | ((try (refine gate_guard (by rfl) ?_; dsimp only)); refine wpl_load W4.heap.size 0 oneI (range_of_blk (t := 23) (by first | exact HX.out | exact blk_alloc HX.out _ | exact blk_alloc (blk_alloc HX.out _) _)) oneI_ok (by rfl) _ (by rfl) (by rfl) ?_; go_frame)
    | ((try (refine gate_guard (by rfl) ?_; dsimp only)); refine wpl_build [oneI, zeroI, oneI] (ok3 oneI_ok zeroI_ok oneI_ok) (by simp) (by simp) 3 rfl (by rfl) _ (by rfl) (by rfl) ?_; go_frame)
    | ((try (refine gate_guard (by rfl) ?_; dsimp only)); refine wpl_build [zeroI] (ok1 zeroI_ok) (by simp) (by simp) 1 rfl (by rfl) _ (by rfl) (by rfl) ?_; go_frame)
    | ((try (refine gate_guard (by rfl) ?_; dsimp only)); refine wpl_build [oneI] (ok1 oneI_ok) (by simp) (by simp) 1 rfl (by rfl) _ (by rfl) (by rfl) ?_; go_frame)
    | (go_at_call 19; refine (HLess.out _).mono ?_; rintro e V ⟨rfl, hb⟩; have HA := Aside0.mk (blk_below (by first | exact HA.out | exact blk_alloc HA.out _ | exact blk_alloc (blk_alloc HA.out _) _) hb); have HO := Aside0.mk (blk_below (by first | exact HO.out | exact blk_alloc HO.out _ | exact blk_alloc (blk_alloc HO.out _) _) hb); have HX := Aside0.mk (blk_below (by first | exact HX.out | exact blk_alloc HX.out _ | exact blk_alloc (blk_alloc HX.out _) _) hb); have HB := Aside0.mk (below_step (by first | exact HB.out | exact below_alloc HB.out _ | exact below_alloc (below_alloc HB.out _) _) hb); clear hb; go_frame)
    | (go_at_call 15; refine (sort_calls (some ⟨_, 0, none⟩) 3 [oneI, zeroI, oneI] _ ?hc (by simp)).mono ?_; (case hc => exact C_of_blk (blk_new _ _) (ok3 oneI_ok zeroI_ok oneI_ok) (by simp)); rintro e V ⟨A', c', rfl, _, hb⟩; have HA := Aside0.mk (blk_below (by first | exact HA.out | exact blk_alloc HA.out _ | exact blk_alloc (blk_alloc HA.out _) _) hb); have HO := Aside0.mk (blk_below (by first | exact HO.out | exact blk_alloc HO.out _ | exact blk_alloc (blk_alloc HO.out _) _) hb); have HX := Aside0.mk (blk_below (by first | exact HX.out | exact blk_alloc HX.out _ | exact blk_alloc (blk_alloc HX.out _) _) hb); have HB := Aside0.mk (below_step (by first | exact HB.out | exact below_alloc HB.out _ | exact below_alloc (below_alloc HB.out _) _) hb); clear hb; go_frame)
    | (go_at_call 16; refine (both_calls (some ⟨_, 0, none⟩) 1 [zeroI] (some ⟨_, 0, none⟩) 1 [oneI] _ ?hc ?hd (by simp)).mono ?_; (case hc => exact C_of_blk (blk_alloc (blk_new _ _) _) (ok1 zeroI_ok) (by simp)); (case hd => exact C_of_blk (blk_new2 _ _ _) (ok1 oneI_ok) (by simp)); rintro e V ⟨A', c', rfl, _, hb⟩; have HA := Aside0.mk (blk_below (by first | exact HA.out | exact blk_alloc HA.out _ | exact blk_alloc (blk_alloc HA.out _) _) hb); have HO := Aside0.mk (blk_below (by first | exact HO.out | exact blk_alloc HO.out _ | exact blk_alloc (blk_alloc HO.out _) _) hb); have HX := Aside0.mk (blk_below (by first | exact HX.out | exact blk_alloc HX.out _ | exact blk_alloc (blk_alloc HX.out _) _) hb); have HB := Aside0.mk (below_step (by first | exact HB.out | exact below_alloc HB.out _ | exact below_alloc (below_alloc HB.out _) _) hb); clear hb; go_frame)
    | (go_at_call 17; refine (common_calls (some ⟨_, 0, none⟩) 1 [zeroI] (some ⟨_, 0, none⟩) 1 [zeroI] _ ?hc ?hd (by simp) (by simp)).mono ?_; (case hc => exact C_of_blk (blk_alloc (blk_new _ _) _) (ok1 zeroI_ok) (by simp)); (case hd => exact C_of_blk (blk_new2 _ _ _) (ok1 zeroI_ok) (by simp)); rintro e V ⟨A', c', rfl, _, hb⟩; have HA := Aside0.mk (blk_below (by first | exact HA.out | exact blk_alloc HA.out _ | exact blk_alloc (blk_alloc HA.out _) _) hb); have HO := Aside0.mk (blk_below (by first | exact HO.out | exact blk_alloc HO.out _ | exact blk_alloc (blk_alloc HO.out _) _) hb); have HX := Aside0.mk (blk_below (by first | exact HX.out | exact blk_alloc HX.out _ | exact blk_alloc (blk_alloc HX.out _) _) hb); have HB := Aside0.mk (below_step (by first | exact HB.out | exact below_alloc HB.out _ | exact below_alloc (below_alloc HB.out _) _) hb); clear hb; go_frame)
    | (go_at_call 18; refine (without_calls (some ⟨_, 0, none⟩) 1 [zeroI] (some ⟨_, 0, none⟩) 1 [oneI] _ ?hc ?hd (by simp) (by simp)).mono ?_; (case hc => exact C_of_blk (blk_alloc (blk_new _ _) _) (ok1 zeroI_ok) (by simp)); (case hd => exact C_of_blk (blk_new2 _ _ _) (ok1 oneI_ok) (by simp)); rintro e V ⟨A', c', rfl, _, hb⟩; have HA := Aside0.mk (blk_below (by first | exact HA.out | exact blk_alloc HA.out _ | exact blk_alloc (blk_alloc HA.out _) _) hb); have HO := Aside0.mk (blk_below (by first | exact HO.out | exact blk_alloc HO.out _ | exact blk_alloc (blk_alloc HO.out _) _) hb); have HX := Aside0.mk (blk_below (by first | exact HX.out | exact blk_alloc HX.out _ | exact blk_alloc (blk_alloc HX.out _) _) hb); have HB := Aside0.mk (below_step (by first | exact HB.out | exact below_alloc HB.out _ | exact below_alloc (below_alloc HB.out _) _) hb); clear hb; go_frame)
    | (go_at_call 28; refine (has_calls (some ⟨_, 0, none⟩) 1 [zeroI] zeroI_ok _ ?hc).mono ?_; (case hc => exact C_of_blk (blk_new _ _) (ok1 zeroI_ok) (by simp)); rintro e V ⟨rfl, hb⟩; have HA := Aside0.mk (blk_below (by first | exact HA.out | exact blk_alloc HA.out _ | exact blk_alloc (blk_alloc HA.out _) _) hb); have HO := Aside0.mk (blk_below (by first | exact HO.out | exact blk_alloc HO.out _ | exact blk_alloc (blk_alloc HO.out _) _) hb); have HX := Aside0.mk (blk_below (by first | exact HX.out | exact blk_alloc HX.out _ | exact blk_alloc (blk_alloc HX.out _) _) hb); have HB := Aside0.mk (below_step (by first | exact HB.out | exact below_alloc HB.out _ | exact below_alloc (below_alloc HB.out _) _) hb); clear hb; go_frame))
  go_ret
  exact ⟨rfl, HB.out⟩
end Go.Proofs.Ytkgjdeicjkibiaa.D
