/- awake: the chapter's examples. By hand: a node without disk and commits joins one. -/
import Derived.Test.YtameeejfkgoheaaPJoin
import Derived.Test.YtameeejfkgoheaaPx1
namespace Go.Proofs.Ytameeejfkgoheaa.P
open Go.RowKit Go.Proofs.YtameeejfkgoheaaW.PrintWords Go.Proofs.YtameeejfkgoheaaW.PrintLast Go.Proofs.YtameeejfkgoheaaW.PrintMore Go.Proofs.YtameeejfkgoheaaW
set_option linter.unusedVariables false
set_option linter.unusedSimpArgs false
def isNil (w : World) (v : Value) : Prop := v = .slice none 0 0
theorem stays_nil : Stays isNil := ⟨fun _ _ _ _ h => h, fun _ _ _ _ _ _ _ h => h⟩
theorem clone_nil (w : World) : Copies 36 (.slice none 0 0) isNil w := by
  intro W hb
  have hnil := fun (W : World) (a : Option Addr) (n c : Nat) => Lib.run_eql_slice_nil (P := Try.prog) W 34 5 a n c 0 0 Try.underlying34
  go_enter Try.func36, Try.ntmps36
  go_wp2
  go_ret
  exact ⟨none, 0, 0, rfl, rfl, Below.refl _ _⟩
theorem commits_nil (w : World) : Copies 37 (.slice none 0 0) isNil w := by
  intro W hb
  go_enter Try.func37, Try.ntmps37
  go_wp2
  go_loopw [3, 8] (fun v i wr => v = .slice none 0 0 ∧ i = .int .i64 0 ∧ wr = W) (fun _ _ _ => 0)
  case atStart => exact ⟨rfl, rfl, rfl⟩
  case round =>
    obtain ⟨rfl, rfl, rfl⟩ := hrel
    go_wp2
    go_ret
    exact ⟨none, 0, 0, rfl, rfl, Below.refl _ _⟩
def law19_awake.f : Option (Bool) := some true
theorem awake_some : law19_awake.f = some true := rfl
theorem C_own {w : World} {base n : Nat} {A : Option Addr} {c : Nat} {l : List Int} (hn : n = l.length) (h : w.ownsRow base 3 1 (.slice A n c) n (encI1 l)) : Kd.C (Kd.int .i64) w A l.length l ∧ l.length ≤ c := by
  subst hn
  obtain ⟨A', c', h1, h2, h3⟩ := own_reads_of_le (enc := Value.int .i64) (d := (0 : Int)) h
  cases h1
  exact ⟨Kd.C_of_reads (h1 := fun _ => rfl) h3, h2⟩
set_option maxHeartbeats 4000000 in
set_option maxRecDepth 100000 in
theorem law19_awake.calls (r : Bool) (w : World) (h : law19_awake.f = some r) :
    Calls Try.prog 10 #[] w fun e w' => e = .returned (.bool r) ∧ Below w.heap.size w w' := by
  obtain rfl : true = r := by injection h
  clear h
  go_enter Try.func10, Try.ntmps10
  go_wp2_with fail
  have hb := blk_new w (.cells #[.int .i64 0, .int .i64 3] 3)
  have hr : RdI (w.alloc (.cells #[.int .i64 0, .int .i64 3] 3)) (some ⟨w.heap.size, 0, none⟩) [0, 3] := by
    refine ⟨by decide, fun _ => ⟨_, rfl, fun j hj => ?_⟩⟩
    rw [add_plain, blk_cell hb j]
    match j, hj with
    | 0, _ => rfl
    | 1, _ => rfl
  have hj := join_ok (w.alloc (.cells #[.int .i64 0, .int .i64 3] 3)) 1 0 0 0 0 false none none none (some ⟨w.heap.size, 0, none⟩) 0 0 0 0 0 0 2 [0, 3] 2 isNil isNil isNil stays_nil stays_nil stays_nil (clone_nil _) (commits_nil _) (commits_nil _) hr (fun _ ad e => by cases e; rfl) (by decide) (by decide) (by decide) (by decide) (by decide)
  refine hj.mono ?_
  rintro e w1 ⟨⟨dA, dn, dc, lA, ln, lc, tA, tn, tc, A, n, c, rfl, hn, ho, q1, q2, q3⟩, hb1⟩
  cases q1
  cases q2
  cases q3
  have hins : insP 2 [0, 3] = [0, 2, 3] := by decide
  rw [hins] at hn ho
  obtain ⟨hC, hcl⟩ := C_own hn ho
  obtain rfl : n = 3 := hn
  have HB1 := Aside0.mk (below_step (below_alloc (Below.refl w.heap.size w) _) hb1)
  have HO := Aside0.mk ho
  clear hb hr hj hb1
  have hPick := Aside0.mk (fun (W : World) (h : Below w1.heap.size w1 W) => peer_Pick.calls A c [0, 2, 3] 4 2 true W (Kd.C_below hC h) hcl (by decide +kernel))
  have hNext := Aside0.mk (fun (W : World) => peer_Next.calls 1 270369 W (by decide +kernel))
  have hWait := Aside0.mk (fun (W : World) => peer_Wait.calls 3 8 W (by decide +kernel))
  go_wp2_with fail
  refine (hPick.out _ (below_alloc (Below.refl _ _) _)).mono ?_
  rintro e w2 ⟨rfl, hd2⟩
  have hb2 := Drawn0.below hd2
  have hnode := blk_below (blk_new w1 (.cells #[Value.int .i64 1, Value.slice none 0 0, Value.int .i64 0, Value.slice none 0 0, Value.slice none 0 0, Value.int .i64 0, Value.bool false, Value.slice A 3 c, Value.int .i64 0, Value.int .i64 0] 37)) hb2
  have HB2 := Aside0.mk (below_step (below_alloc HB1.out _) hb2)
  have hb12 : Below w1.heap.size w1 w2 := below_step (below_alloc (Below.refl _ _) _) hb2
  obtain ⟨g, c', e, hg1, hg2⟩ := HO.out.form (by decide)
  cases e
  have hcell := (hb12.cell (p := ⟨g, 1, none⟩) hg2).trans ((HO.out.cellAt 1 (by decide)).trans rfl)
  have hlt := blk_lt hnode
  have hglt : g < w2.heap.size := Nat.lt_of_lt_of_le hg2 hb12.size
  have h7 := (blk_cell hnode 7).trans rfl
  have HN := Aside0.mk hnode
  clear hd2 hb2 hnode hb12 hPick HO ho
  go_wp2_with (first
    | (go_at_call 11; refine (hNext.out _).mono ?_; rintro e w' ⟨rfl, ⟨nd, rfl⟩⟩)
    | (go_at_call 12; refine (hWait.out _).mono ?_; rintro e w3 ⟨rfl, hb3⟩; have HB3 := Aside0.mk (below_step (pw_below_drewN HB2.out _) hb3); have h73 := (hb3.cell (p := ⟨w1.heap.size, 7, none⟩) hlt).trans h7; have hc3 := (hb3.cell (p := ⟨g, 1, none⟩) hglt).trans hcell; clear hb3))
  go_ret
  exact ⟨rfl, HB3.out⟩
end Go.Proofs.Ytameeejfkgoheaa.P
