/- peer.own: a node once more, with other peers. By hand; what is copied of the disk and of the commits is handed in. -/
import Derived.Test.YtameeejfkgoheaaPx1
import Derived.Lib.SliceRun
import Derived.Deep.RegionLaw
import Derived.Deep.RegionHeld3
import Derived.RegionTactic
namespace Go.Proofs.Ytameeejfkgoheaa.P
open Go.RowKit Go.Proofs.YtameeejfkgoheaaW.PrintWords Go.Proofs.YtameeejfkgoheaaW.PrintLast Go.Proofs.YtameeejfkgoheaaW.PrintMore Go.Proofs.YtameeejfkgoheaaW
set_option linter.unusedVariables false
set_option linter.unusedSimpArgs false
/-- what is asked of a function that copies -/
def Copies (f : Nat) (v : Value) (Q : World → Value → Prop) (w : World) : Prop := ∀ W, Below w.heap.size w W → Calls Try.prog f #[v] W fun e W' => ∃ A n c, e = .returned (.slice A n c) ∧ Q W' (.slice A n c) ∧ Below W.heap.size W W'
/-- .. and of what is said of the copy: it stays where nothing but a node's own block turns -/
def Stays (Q : World → Value → Prop) : Prop := (∀ W W' v, Below W.heap.size W W' → Q W v → Q W' v) ∧ (∀ W b cs i u v, W.heap[b]? = some (.cells cs 37 (0, 0)) → Q W v → Q (W.setCell ⟨b, i, none⟩ u) v)
theorem cells_of_blk {w : World} {g : Nat} {t : TypeId} {v0 v1 v2 v3 v4 v5 v6 v7 v8 v9 : Value} (h : w.heap[g]? = some (.cells #[v0, v1, v2, v3, v4, v5, v6, v7, v8, v9] t (0, 0))) :
    (w.cell? ⟨g, 0, none⟩ = some v0 ∧ w.cell? ⟨g, 1, none⟩ = some v1 ∧ w.cell? ⟨g, 2, none⟩ = some v2 ∧ w.cell? ⟨g, 3, none⟩ = some v3 ∧ w.cell? ⟨g, 4, none⟩ = some v4 ∧ w.cell? ⟨g, 5, none⟩ = some v5 ∧ w.cell? ⟨g, 6, none⟩ = some v6 ∧ w.cell? ⟨g, 7, none⟩ = some v7 ∧ w.cell? ⟨g, 8, none⟩ = some v8 ∧ w.cell? ⟨g, 9, none⟩ = some v9) :=
  ⟨blk_cell h 0, blk_cell h 1, blk_cell h 2, blk_cell h 3, blk_cell h 4, blk_cell h 5, blk_cell h 6, blk_cell h 7, blk_cell h 8, blk_cell h 9⟩
theorem frozen_of_blk {w : World} {g : Nat} {t : TypeId} {cs : Array Value} (h : w.heap[g]? = some (.cells cs t (0, 0))) : ∀ i, w.frozen? ⟨g, i, none⟩ = false := fun i => blk_frozen h i
theorem set10 {V : World} {b : Nat} {t : TypeId} {v0 v1 v2 v3 v4 v5 v6 v7 v8 v9 : Value} (u0 u1 u2 u3 u4 u5 u6 u7 u8 u9 : Value) (h : V.heap[b]? = some (.cells #[v0, v1, v2, v3, v4, v5, v6, v7, v8, v9] t (0, 0))) : ((((((((((V.setCell ⟨b, 0, none⟩ u0).setCell ⟨b, 1, none⟩ u1).setCell ⟨b, 2, none⟩ u2).setCell ⟨b, 3, none⟩ u3).setCell ⟨b, 4, none⟩ u4).setCell ⟨b, 5, none⟩ u5).setCell ⟨b, 6, none⟩ u6).setCell ⟨b, 7, none⟩ u7).setCell ⟨b, 8, none⟩ u8).setCell ⟨b, 9, none⟩ u9).heap[b]? = some (.cells #[u0, u1, u2, u3, u4, u5, u6, u7, u8, u9] t (0, 0)) := by
  have h1 : (V.setCell ⟨b, 0, none⟩ u0).heap[b]? = some (.cells #[u0, v1, v2, v3, v4, v5, v6, v7, v8, v9] t (0, 0)) := blk_set h 0 u0
  have h2 : ((V.setCell ⟨b, 0, none⟩ u0).setCell ⟨b, 1, none⟩ u1).heap[b]? = some (.cells #[u0, u1, v2, v3, v4, v5, v6, v7, v8, v9] t (0, 0)) := blk_set h1 1 u1
  have h3 : (((V.setCell ⟨b, 0, none⟩ u0).setCell ⟨b, 1, none⟩ u1).setCell ⟨b, 2, none⟩ u2).heap[b]? = some (.cells #[u0, u1, u2, v3, v4, v5, v6, v7, v8, v9] t (0, 0)) := blk_set h2 2 u2
  have h4 : ((((V.setCell ⟨b, 0, none⟩ u0).setCell ⟨b, 1, none⟩ u1).setCell ⟨b, 2, none⟩ u2).setCell ⟨b, 3, none⟩ u3).heap[b]? = some (.cells #[u0, u1, u2, u3, v4, v5, v6, v7, v8, v9] t (0, 0)) := blk_set h3 3 u3
  have h5 : (((((V.setCell ⟨b, 0, none⟩ u0).setCell ⟨b, 1, none⟩ u1).setCell ⟨b, 2, none⟩ u2).setCell ⟨b, 3, none⟩ u3).setCell ⟨b, 4, none⟩ u4).heap[b]? = some (.cells #[u0, u1, u2, u3, u4, v5, v6, v7, v8, v9] t (0, 0)) := blk_set h4 4 u4
  have h6 : ((((((V.setCell ⟨b, 0, none⟩ u0).setCell ⟨b, 1, none⟩ u1).setCell ⟨b, 2, none⟩ u2).setCell ⟨b, 3, none⟩ u3).setCell ⟨b, 4, none⟩ u4).setCell ⟨b, 5, none⟩ u5).heap[b]? = some (.cells #[u0, u1, u2, u3, u4, u5, v6, v7, v8, v9] t (0, 0)) := blk_set h5 5 u5
  have h7 : (((((((V.setCell ⟨b, 0, none⟩ u0).setCell ⟨b, 1, none⟩ u1).setCell ⟨b, 2, none⟩ u2).setCell ⟨b, 3, none⟩ u3).setCell ⟨b, 4, none⟩ u4).setCell ⟨b, 5, none⟩ u5).setCell ⟨b, 6, none⟩ u6).heap[b]? = some (.cells #[u0, u1, u2, u3, u4, u5, u6, v7, v8, v9] t (0, 0)) := blk_set h6 6 u6
  have h8 : ((((((((V.setCell ⟨b, 0, none⟩ u0).setCell ⟨b, 1, none⟩ u1).setCell ⟨b, 2, none⟩ u2).setCell ⟨b, 3, none⟩ u3).setCell ⟨b, 4, none⟩ u4).setCell ⟨b, 5, none⟩ u5).setCell ⟨b, 6, none⟩ u6).setCell ⟨b, 7, none⟩ u7).heap[b]? = some (.cells #[u0, u1, u2, u3, u4, u5, u6, u7, v8, v9] t (0, 0)) := blk_set h7 7 u7
  have h9 : (((((((((V.setCell ⟨b, 0, none⟩ u0).setCell ⟨b, 1, none⟩ u1).setCell ⟨b, 2, none⟩ u2).setCell ⟨b, 3, none⟩ u3).setCell ⟨b, 4, none⟩ u4).setCell ⟨b, 5, none⟩ u5).setCell ⟨b, 6, none⟩ u6).setCell ⟨b, 7, none⟩ u7).setCell ⟨b, 8, none⟩ u8).heap[b]? = some (.cells #[u0, u1, u2, u3, u4, u5, u6, u7, u8, v9] t (0, 0)) := blk_set h8 8 u8
  have h10 : ((((((((((V.setCell ⟨b, 0, none⟩ u0).setCell ⟨b, 1, none⟩ u1).setCell ⟨b, 2, none⟩ u2).setCell ⟨b, 3, none⟩ u3).setCell ⟨b, 4, none⟩ u4).setCell ⟨b, 5, none⟩ u5).setCell ⟨b, 6, none⟩ u6).setCell ⟨b, 7, none⟩ u7).setCell ⟨b, 8, none⟩ u8).setCell ⟨b, 9, none⟩ u9).heap[b]? = some (.cells #[u0, u1, u2, u3, u4, u5, u6, u7, u8, u9] t (0, 0)) := blk_set h9 9 u9
  exact h10
theorem stays10 {Q : World → Value → Prop} (hQ : Stays Q) {v : Value} {V : World} {b : Nat} {v0 v1 v2 v3 v4 v5 v6 v7 v8 v9 : Value} (u0 u1 u2 u3 u4 u5 u6 u7 u8 u9 : Value) (h : V.heap[b]? = some (.cells #[v0, v1, v2, v3, v4, v5, v6, v7, v8, v9] 37 (0, 0))) (q : Q V v) : Q ((((((((((V.setCell ⟨b, 0, none⟩ u0).setCell ⟨b, 1, none⟩ u1).setCell ⟨b, 2, none⟩ u2).setCell ⟨b, 3, none⟩ u3).setCell ⟨b, 4, none⟩ u4).setCell ⟨b, 5, none⟩ u5).setCell ⟨b, 6, none⟩ u6).setCell ⟨b, 7, none⟩ u7).setCell ⟨b, 8, none⟩ u8).setCell ⟨b, 9, none⟩ u9) v := by
  have h1 : (V.setCell ⟨b, 0, none⟩ u0).heap[b]? = some (.cells #[u0, v1, v2, v3, v4, v5, v6, v7, v8, v9] 37 (0, 0)) := blk_set h 0 u0
  have h2 : ((V.setCell ⟨b, 0, none⟩ u0).setCell ⟨b, 1, none⟩ u1).heap[b]? = some (.cells #[u0, u1, v2, v3, v4, v5, v6, v7, v8, v9] 37 (0, 0)) := blk_set h1 1 u1
  have h3 : (((V.setCell ⟨b, 0, none⟩ u0).setCell ⟨b, 1, none⟩ u1).setCell ⟨b, 2, none⟩ u2).heap[b]? = some (.cells #[u0, u1, u2, v3, v4, v5, v6, v7, v8, v9] 37 (0, 0)) := blk_set h2 2 u2
  have h4 : ((((V.setCell ⟨b, 0, none⟩ u0).setCell ⟨b, 1, none⟩ u1).setCell ⟨b, 2, none⟩ u2).setCell ⟨b, 3, none⟩ u3).heap[b]? = some (.cells #[u0, u1, u2, u3, v4, v5, v6, v7, v8, v9] 37 (0, 0)) := blk_set h3 3 u3
  have h5 : (((((V.setCell ⟨b, 0, none⟩ u0).setCell ⟨b, 1, none⟩ u1).setCell ⟨b, 2, none⟩ u2).setCell ⟨b, 3, none⟩ u3).setCell ⟨b, 4, none⟩ u4).heap[b]? = some (.cells #[u0, u1, u2, u3, u4, v5, v6, v7, v8, v9] 37 (0, 0)) := blk_set h4 4 u4
  have h6 : ((((((V.setCell ⟨b, 0, none⟩ u0).setCell ⟨b, 1, none⟩ u1).setCell ⟨b, 2, none⟩ u2).setCell ⟨b, 3, none⟩ u3).setCell ⟨b, 4, none⟩ u4).setCell ⟨b, 5, none⟩ u5).heap[b]? = some (.cells #[u0, u1, u2, u3, u4, u5, v6, v7, v8, v9] 37 (0, 0)) := blk_set h5 5 u5
  have h7 : (((((((V.setCell ⟨b, 0, none⟩ u0).setCell ⟨b, 1, none⟩ u1).setCell ⟨b, 2, none⟩ u2).setCell ⟨b, 3, none⟩ u3).setCell ⟨b, 4, none⟩ u4).setCell ⟨b, 5, none⟩ u5).setCell ⟨b, 6, none⟩ u6).heap[b]? = some (.cells #[u0, u1, u2, u3, u4, u5, u6, v7, v8, v9] 37 (0, 0)) := blk_set h6 6 u6
  have h8 : ((((((((V.setCell ⟨b, 0, none⟩ u0).setCell ⟨b, 1, none⟩ u1).setCell ⟨b, 2, none⟩ u2).setCell ⟨b, 3, none⟩ u3).setCell ⟨b, 4, none⟩ u4).setCell ⟨b, 5, none⟩ u5).setCell ⟨b, 6, none⟩ u6).setCell ⟨b, 7, none⟩ u7).heap[b]? = some (.cells #[u0, u1, u2, u3, u4, u5, u6, u7, v8, v9] 37 (0, 0)) := blk_set h7 7 u7
  have h9 : (((((((((V.setCell ⟨b, 0, none⟩ u0).setCell ⟨b, 1, none⟩ u1).setCell ⟨b, 2, none⟩ u2).setCell ⟨b, 3, none⟩ u3).setCell ⟨b, 4, none⟩ u4).setCell ⟨b, 5, none⟩ u5).setCell ⟨b, 6, none⟩ u6).setCell ⟨b, 7, none⟩ u7).setCell ⟨b, 8, none⟩ u8).heap[b]? = some (.cells #[u0, u1, u2, u3, u4, u5, u6, u7, u8, v9] 37 (0, 0)) := blk_set h8 8 u8
  have h10 : ((((((((((V.setCell ⟨b, 0, none⟩ u0).setCell ⟨b, 1, none⟩ u1).setCell ⟨b, 2, none⟩ u2).setCell ⟨b, 3, none⟩ u3).setCell ⟨b, 4, none⟩ u4).setCell ⟨b, 5, none⟩ u5).setCell ⟨b, 6, none⟩ u6).setCell ⟨b, 7, none⟩ u7).setCell ⟨b, 8, none⟩ u8).setCell ⟨b, 9, none⟩ u9).heap[b]? = some (.cells #[u0, u1, u2, u3, u4, u5, u6, u7, u8, u9] 37 (0, 0)) := blk_set h9 9 u9
  have q1 : Q (V.setCell ⟨b, 0, none⟩ u0) v := hQ.2 _ b _ 0 u0 v h q
  have q2 : Q ((V.setCell ⟨b, 0, none⟩ u0).setCell ⟨b, 1, none⟩ u1) v := hQ.2 _ b _ 1 u1 v h1 q1
  have q3 : Q (((V.setCell ⟨b, 0, none⟩ u0).setCell ⟨b, 1, none⟩ u1).setCell ⟨b, 2, none⟩ u2) v := hQ.2 _ b _ 2 u2 v h2 q2
  have q4 : Q ((((V.setCell ⟨b, 0, none⟩ u0).setCell ⟨b, 1, none⟩ u1).setCell ⟨b, 2, none⟩ u2).setCell ⟨b, 3, none⟩ u3) v := hQ.2 _ b _ 3 u3 v h3 q3
  have q5 : Q (((((V.setCell ⟨b, 0, none⟩ u0).setCell ⟨b, 1, none⟩ u1).setCell ⟨b, 2, none⟩ u2).setCell ⟨b, 3, none⟩ u3).setCell ⟨b, 4, none⟩ u4) v := hQ.2 _ b _ 4 u4 v h4 q4
  have q6 : Q ((((((V.setCell ⟨b, 0, none⟩ u0).setCell ⟨b, 1, none⟩ u1).setCell ⟨b, 2, none⟩ u2).setCell ⟨b, 3, none⟩ u3).setCell ⟨b, 4, none⟩ u4).setCell ⟨b, 5, none⟩ u5) v := hQ.2 _ b _ 5 u5 v h5 q5
  have q7 : Q (((((((V.setCell ⟨b, 0, none⟩ u0).setCell ⟨b, 1, none⟩ u1).setCell ⟨b, 2, none⟩ u2).setCell ⟨b, 3, none⟩ u3).setCell ⟨b, 4, none⟩ u4).setCell ⟨b, 5, none⟩ u5).setCell ⟨b, 6, none⟩ u6) v := hQ.2 _ b _ 6 u6 v h6 q6
  have q8 : Q ((((((((V.setCell ⟨b, 0, none⟩ u0).setCell ⟨b, 1, none⟩ u1).setCell ⟨b, 2, none⟩ u2).setCell ⟨b, 3, none⟩ u3).setCell ⟨b, 4, none⟩ u4).setCell ⟨b, 5, none⟩ u5).setCell ⟨b, 6, none⟩ u6).setCell ⟨b, 7, none⟩ u7) v := hQ.2 _ b _ 7 u7 v h7 q7
  have q9 : Q (((((((((V.setCell ⟨b, 0, none⟩ u0).setCell ⟨b, 1, none⟩ u1).setCell ⟨b, 2, none⟩ u2).setCell ⟨b, 3, none⟩ u3).setCell ⟨b, 4, none⟩ u4).setCell ⟨b, 5, none⟩ u5).setCell ⟨b, 6, none⟩ u6).setCell ⟨b, 7, none⟩ u7).setCell ⟨b, 8, none⟩ u8) v := hQ.2 _ b _ 8 u8 v h8 q8
  have q10 : Q ((((((((((V.setCell ⟨b, 0, none⟩ u0).setCell ⟨b, 1, none⟩ u1).setCell ⟨b, 2, none⟩ u2).setCell ⟨b, 3, none⟩ u3).setCell ⟨b, 4, none⟩ u4).setCell ⟨b, 5, none⟩ u5).setCell ⟨b, 6, none⟩ u6).setCell ⟨b, 7, none⟩ u7).setCell ⟨b, 8, none⟩ u8).setCell ⟨b, 9, none⟩ u9) v := hQ.2 _ b _ 9 u9 v h9 q9
  exact q10
theorem below10 {w V : World} {b : Nat} (u0 u1 u2 u3 u4 u5 u6 u7 u8 u9 : Value) (h : Below w.heap.size w V) (hb : w.heap.size ≤ b) : Below w.heap.size w ((((((((((V.setCell ⟨b, 0, none⟩ u0).setCell ⟨b, 1, none⟩ u1).setCell ⟨b, 2, none⟩ u2).setCell ⟨b, 3, none⟩ u3).setCell ⟨b, 4, none⟩ u4).setCell ⟨b, 5, none⟩ u5).setCell ⟨b, 6, none⟩ u6).setCell ⟨b, 7, none⟩ u7).setCell ⟨b, 8, none⟩ u8).setCell ⟨b, 9, none⟩ u9) := (below_set (below_set (below_set (below_set (below_set (below_set (below_set (below_set (below_set (below_set h hb) hb) hb) hb) hb) hb) hb) hb) hb) hb)
set_option maxHeartbeats 4000000 in
set_option maxRecDepth 100000 in
theorem own_calls (w : World) (no room seq nx ms : Int) (up : Bool) (dA lA tA pA vA : Option Addr) (dn dc ln lc tn tc pn pc vn vc : Nat) (QD QL QT : World → Value → Prop) (sD : Stays QD) (sL : Stays QL) (sT : Stays QT)
    (hD : Copies 36 (.slice dA dn dc) QD w) (hL : Copies 37 (.slice lA ln lc) QL w) (hT : Copies 37 (.slice tA tn tc) QT w) :
    Calls Try.prog 28 #[.agg #[.int .i64 no, .slice dA dn dc, .int .i64 room, .slice lA ln lc, .slice tA tn tc, .int .i64 seq, .bool up, .slice pA pn pc, .int .i64 nx, .int .i64 ms], .slice vA vn vc] w fun e w' =>
      (∃ dA' dn' dc' lA' ln' lc' tA' tn' tc', e = .returned (.agg #[.int .i64 no, .slice dA' dn' dc', .int .i64 room, .slice lA' ln' lc', .slice tA' tn' tc', .int .i64 seq, .bool up, .slice vA vn vc, .int .i64 nx, .int .i64 ms]) ∧ QD w' (.slice dA' dn' dc') ∧ QL w' (.slice lA' ln' lc') ∧ QT w' (.slice tA' tn' tc')) ∧ Below w.heap.size w w' := by
  have HD : Aside0 (∀ W, Below w.heap.size w W → Calls Try.prog 36 #[.slice dA dn dc] W fun e W' => ∃ A n c, e = .returned (.slice A n c) ∧ QD W' (.slice A n c) ∧ Below W.heap.size W W') := ⟨hD⟩
  have HL : Aside0 (∀ W, Below w.heap.size w W → Calls Try.prog 37 #[.slice lA ln lc] W fun e W' => ∃ A n c, e = .returned (.slice A n c) ∧ QL W' (.slice A n c) ∧ Below W.heap.size W W') := ⟨hL⟩
  have HT : Aside0 (∀ W, Below w.heap.size w W → Calls Try.prog 37 #[.slice tA tn tc] W fun e W' => ∃ A n c, e = .returned (.slice A n c) ∧ QT W' (.slice A n c) ∧ Below W.heap.size W W') := ⟨hT⟩
  have SD := Aside0.mk sD
  have SL := Aside0.mk sL
  have ST := Aside0.mk sT
  clear hD hL hT sD sL sT
  go_enter Try.func28, Try.ntmps28
  go_wp2_with fail
  refine (HD.out _ ?hz).mono ?_
  case hz => repeat (first | exact Below.refl _ _ | apply below_alloc | apply pw_below_drewN | apply below_drew)
  rintro e w1 ⟨dA', dn', dc', rfl, hq1, hb1⟩
  have hbox := blk_below (blk_alloc (blk_new w (.cells #[.int .i64 no, .slice dA dn dc, .int .i64 room, .slice lA ln lc, .slice tA tn tc, .int .i64 seq, .bool up, .slice pA pn pc, .int .i64 nx, .int .i64 ms] 37)) _) hb1
  have hres := blk_below (blk_new (w.alloc (.cells #[.int .i64 no, .slice dA dn dc, .int .i64 room, .slice lA ln lc, .slice tA tn tc, .int .i64 seq, .bool up, .slice pA pn pc, .int .i64 nx, .int .i64 ms] 37)) _) hb1
  rw [show ∀ o, (w.alloc o).heap.size = w.heap.size + 1 from fun o => by simp] at hres
  have HB1 := Aside0.mk (below_step (below_alloc (below_alloc (Below.refl w.heap.size w) _) _) hb1)
  have hlt := blk_lt hres
  obtain ⟨c0, c1, c2, c3, c4, c5, c6, c7, c8, c9⟩ := cells_of_blk hbox
  have hf := frozen_of_blk hbox
  have HX := Aside0.mk hbox
  have HS := Aside0.mk hres
  have HQ1 := Aside0.mk hq1
  clear hbox hres hb1 hq1 HD
  have hf1 := hf 1
  have hf7 := hf 7
  clear hf
  go_wp2_with fail
  have hbox2 : ((w1.setCell ⟨w.heap.size, 7, none⟩ (.slice vA vn vc)).setCell ⟨w.heap.size, 1, none⟩ (.slice dA' dn' dc')).heap[w.heap.size]? = some (.cells #[.int .i64 no, .slice dA' dn' dc', .int .i64 room, .slice lA ln lc, .slice tA tn tc, .int .i64 seq, .bool up, .slice vA vn vc, .int .i64 nx, .int .i64 ms] 37 (0, 0)) := blk_set (blk_set HX.out 7 _) 1 _
  have hres2 : ((w1.setCell ⟨w.heap.size, 7, none⟩ (.slice vA vn vc)).setCell ⟨w.heap.size, 1, none⟩ (.slice dA' dn' dc')).heap[w.heap.size + 1]? = some (.cells #[.int .i64 0, .slice none 0 0, .int .i64 0, .slice none 0 0, .slice none 0 0, .int .i64 0, .bool false, .slice none 0 0, .int .i64 0, .int .i64 0] 37 (0, 0)) := blk_far (blk_far HS.out (show w.heap.size + 1 ≠ w.heap.size by omega) _) (show w.heap.size + 1 ≠ w.heap.size by omega) _
  have HB2 := Aside0.mk (below_set (below_set HB1.out (Nat.le_refl _)) (Nat.le_refl _) : Below w.heap.size w ((w1.setCell ⟨w.heap.size, 7, none⟩ (.slice vA vn vc)).setCell ⟨w.heap.size, 1, none⟩ (.slice dA' dn' dc')))
  have HQ2 := Aside0.mk (SD.out.2 _ _ _ 1 (.slice dA' dn' dc') _ (blk_set HX.out 7 (.slice vA vn vc)) (SD.out.2 _ _ _ 7 (.slice vA vn vc) _ HX.out HQ1.out))
  clear HX HS HB1 HQ1 c0 c1 c2 c3 c4 c5 c6 c7 c8 c9 hf1 hf7 hlt
  revert hbox2 hres2 HB2 HQ2
  generalize ((w1.setCell ⟨w.heap.size, 7, none⟩ (.slice vA vn vc)).setCell ⟨w.heap.size, 1, none⟩ (.slice dA' dn' dc')) = W
  intro hbox hres HB HQ
  clear w1
  have hlt := blk_lt hres
  obtain ⟨c0, c1, c2, c3, c4, c5, c6, c7, c8, c9⟩ := cells_of_blk hbox
  have HX := Aside0.mk hbox
  have HS := Aside0.mk hres
  clear hbox hres
  go_region_law (first
    | (go_simp; go_at_call 37; (with_reducible refine (HL.out _ ?hz).mono ?_); (case hz => exact below_drew HB.out); rintro e w2 ⟨lA', ln', lc', rfl, hq2, hb2⟩; have HB2 := Aside0.mk (below_step (below_drew HB.out) hb2); have HX2 := Aside0.mk (blk_below (blk_drew HX.out) hb2); have HS2 := Aside0.mk (blk_below (blk_drew HS.out) hb2); have HQ2 := Aside0.mk (SD.out.1 _ _ _ hb2 (SD.out.1 _ _ _ (below_drew (Below.refl _ _)) HQ.out)); have HQL2 := Aside0.mk hq2; obtain ⟨_, _, _, d3, d4, _, _, _, _, _⟩ := cells_of_blk HX2.out; clear hb2 hq2)
    | (go_simp; go_at_call 37; (with_reducible refine (HT.out _ ?hz).mono ?_); (case hz => exact HB2.out); rintro e w3 ⟨tA', tn', tc', rfl, hq3, hb3⟩; have HB3 := Aside0.mk (below_step HB2.out hb3); have HX3 := Aside0.mk (blk_below HX2.out hb3); have HS3 := Aside0.mk (blk_below HS2.out hb3); have HQ3 := Aside0.mk (SD.out.1 _ _ _ hb3 HQ2.out); have HQL3 := Aside0.mk (SL.out.1 _ _ _ hb3 HQL2.out); have HQT3 := Aside0.mk hq3; obtain ⟨_, _, _, d3, d4, _, _, _, _, _⟩ := cells_of_blk HX3.out; have d3f := blk_frozen HX3.out 3; have d4f := blk_frozen HX3.out 4; clear hb3 hq3))
  all_goals
    have hbox4 : ((w3.setCell ⟨w.heap.size, 3, none⟩ (.slice lA' ln' lc')).setCell ⟨w.heap.size, 4, none⟩ (.slice tA' tn' tc')).heap[w.heap.size]? = some (.cells #[.int .i64 no, .slice dA' dn' dc', .int .i64 room, .slice lA' ln' lc', .slice tA' tn' tc', .int .i64 seq, .bool up, .slice vA vn vc, .int .i64 nx, .int .i64 ms] 37 (0, 0)) := blk_set (blk_set HX3.out 3 _) 4 _
    have hres4 := blk_far (blk_far HS3.out (p := ⟨w.heap.size, 3, none⟩) (show w.heap.size + 1 ≠ w.heap.size by omega) (.slice lA' ln' lc')) (p := ⟨w.heap.size, 4, none⟩) (show w.heap.size + 1 ≠ w.heap.size by omega) (.slice tA' tn' tc')
    have HB4 := Aside0.mk (below_set (below_set HB3.out (Nat.le_refl _)) (Nat.le_refl _) : Below w.heap.size w ((w3.setCell ⟨w.heap.size, 3, none⟩ (.slice lA' ln' lc')).setCell ⟨w.heap.size, 4, none⟩ (.slice tA' tn' tc')))
    have HQ4 := Aside0.mk (SD.out.2 _ _ _ 4 (.slice tA' tn' tc') _ (blk_set HX3.out 3 (.slice lA' ln' lc')) (SD.out.2 _ _ _ 3 (.slice lA' ln' lc') _ HX3.out HQ3.out))
    have HL4 := Aside0.mk (SL.out.2 _ _ _ 4 (.slice tA' tn' tc') _ (blk_set HX3.out 3 (.slice lA' ln' lc')) (SL.out.2 _ _ _ 3 (.slice lA' ln' lc') _ HX3.out HQL3.out))
    have HT4 := Aside0.mk (ST.out.2 _ _ _ 4 (.slice tA' tn' tc') _ (blk_set HX3.out 3 (.slice lA' ln' lc')) (ST.out.2 _ _ _ 3 (.slice lA' ln' lc') _ HX3.out HQT3.out))
    clear HX HS HB HQ HX2 HS2 HB2 HQ2 HQL2 HX3 HS3 HB3 HQ3 HQL3 HQT3 c0 c1 c2 c3 c4 c5 c6 c7 c8 c9 d3 d4 d3f d4f hlt HL HT
    revert hbox4 hres4 HB4 HQ4 HL4 HT4
    generalize ((w3.setCell ⟨w.heap.size, 3, none⟩ (.slice lA' ln' lc')).setCell ⟨w.heap.size, 4, none⟩ (.slice tA' tn' tc')) = V
    intro hbox hres HB HQ HL HT
    obtain ⟨c0, c1, c2, c3, c4, c5, c6, c7, c8, c9⟩ := cells_of_blk hbox
    obtain ⟨r0, r1, r2, r3, r4, r5, r6, r7, r8, r9⟩ := cells_of_blk hres
    have f0 := blk_frozen hres 0
    have f1 := blk_frozen hres 1
    have f2 := blk_frozen hres 2
    have f3 := blk_frozen hres 3
    have f4 := blk_frozen hres 4
    have f5 := blk_frozen hres 5
    have f6 := blk_frozen hres 6
    have f7 := blk_frozen hres 7
    have f8 := blk_frozen hres 8
    have f9 := blk_frozen hres 9
    have hne : w.heap.size + 1 ≠ w.heap.size := by omega
    have HX := Aside0.mk hres
    clear hbox hres
    go_wp2
    have hz := set10 (.int .i64 no) (.slice dA' dn' dc') (.int .i64 room) (.slice lA' ln' lc') (.slice tA' tn' tc') (.int .i64 seq) (.bool up) (.slice vA vn vc) (.int .i64 nx) (.int .i64 ms) HX.out
    have HB5 := Aside0.mk (below10 (.int .i64 no) (.slice dA' dn' dc') (.int .i64 room) (.slice lA' ln' lc') (.slice tA' tn' tc') (.int .i64 seq) (.bool up) (.slice vA vn vc) (.int .i64 nx) (.int .i64 ms) HB.out (show w.heap.size ≤ w.heap.size + 1 by omega))
    have HQ5 := Aside0.mk (stays10 SD.out (.int .i64 no) (.slice dA' dn' dc') (.int .i64 room) (.slice lA' ln' lc') (.slice tA' tn' tc') (.int .i64 seq) (.bool up) (.slice vA vn vc) (.int .i64 nx) (.int .i64 ms) HX.out HQ.out)
    have HL5 := Aside0.mk (stays10 SL.out (.int .i64 no) (.slice dA' dn' dc') (.int .i64 room) (.slice lA' ln' lc') (.slice tA' tn' tc') (.int .i64 seq) (.bool up) (.slice vA vn vc) (.int .i64 nx) (.int .i64 ms) HX.out HL.out)
    have HT5 := Aside0.mk (stays10 ST.out (.int .i64 no) (.slice dA' dn' dc') (.int .i64 room) (.slice lA' ln' lc') (.slice tA' tn' tc') (.int .i64 seq) (.bool up) (.slice vA vn vc) (.int .i64 nx) (.int .i64 ms) HX.out HT.out)
    obtain ⟨z0, z1, z2, z3, z4, z5, z6, z7, z8, z9⟩ := cells_of_blk hz
    clear hz HX HB HQ HL HT
    revert z0 z1 z2 z3 z4 z5 z6 z7 z8 z9 HB5 HQ5 HL5 HT5
    generalize ((((((((((V.setCell ⟨w.heap.size + 1, 0, none⟩ (.int .i64 no)).setCell ⟨w.heap.size + 1, 1, none⟩ (.slice dA' dn' dc')).setCell ⟨w.heap.size + 1, 2, none⟩ (.int .i64 room)).setCell ⟨w.heap.size + 1, 3, none⟩ (.slice lA' ln' lc')).setCell ⟨w.heap.size + 1, 4, none⟩ (.slice tA' tn' tc')).setCell ⟨w.heap.size + 1, 5, none⟩ (.int .i64 seq)).setCell ⟨w.heap.size + 1, 6, none⟩ (.bool up)).setCell ⟨w.heap.size + 1, 7, none⟩ (.slice vA vn vc)).setCell ⟨w.heap.size + 1, 8, none⟩ (.int .i64 nx)).setCell ⟨w.heap.size + 1, 9, none⟩ (.int .i64 ms)) = U
    intro HB5 HQ5 HL5 HT5 z0 z1 z2 z3 z4 z5 z6 z7 z8 z9
    refine bodyPost_ret (v := .agg #[.int .i64 no, .slice dA' dn' dc', .int .i64 room, .slice lA' ln' lc', .slice tA' tn' tc', .int .i64 seq, .bool up, .slice vA vn vc, .int .i64 nx, .int .i64 ms]) (by simp [results, Try.results28, go_sem, z0, z1, z2, z3, z4, z5, z6, z7, z8, z9]) rfl ⟨⟨_, _, _, _, _, _, _, _, _, rfl, HQ5.out, HL5.out, HT5.out⟩, HB5.out⟩
end Go.Proofs.Ytameeejfkgoheaa.P
