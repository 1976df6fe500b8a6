/- peer.Join: a node that knows one more. By hand; what is copied of the disk and of the commits is handed in. -/
import Derived.Test.YtameeejfkgoheaaPOwn
import Derived.Test.YtameeejfkgoheaaPInsI
import Derived.Test.YtameeejfkgoheaaPIdx
import Derived.Test.YtameeejfkgoheaaShelf
namespace Go.Proofs.Ytameeejfkgoheaa.P
open Go.RowKit Go.Proofs.YtameeejfkgoheaaW.PrintWords Go.Proofs.YtameeejfkgoheaaW.PrintLast Go.Proofs.YtameeejfkgoheaaW.PrintMore Go.Proofs.YtameeejfkgoheaaW
set_option linter.unusedVariables false
set_option linter.unusedSimpArgs false
abbrev encI1 (l : List Int) : List Value := l.map (Value.int .i64)
/-- where one is put in: behind those that are less than it, up to the first one that is not -/
def posI (p : Int) (l : List Int) : Nat := if firstAt (geI p) 0 l < 0 then l.length else (firstAt (geI p) 0 l).toNat
theorem firstAt_range {α : Type} (p : α → Bool) : ∀ (l : List α) (k : Nat), firstAt p k l = -1 ∨ ((k : Int) ≤ firstAt p k l ∧ firstAt p k l < (k : Int) + l.length)
  | [], k => .inl rfl
  | x :: l, k => by
    unfold firstAt
    split
    · right; simp; omega
    · rcases firstAt_range p l (k + 1) with h | ⟨h1, h2⟩
      · exact .inl h
      · right; simp only [List.length_cons]; omega
theorem posI_le (p : Int) (l : List Int) : posI p l ≤ l.length := by
  unfold posI
  rcases firstAt_range (geI p) l 0 with h | ⟨h1, h2⟩
  · rw [h, if_pos (by decide)]; exact Nat.le_refl _
  · rw [if_neg (by omega)]; omega
def insP (p : Int) (l : List Int) : List Int := l.take (posI p l) ++ p :: l.drop (posI p l)
theorem RdI.at {w : World} {a : Addr} {l : List Int} (h : RdI w (some a) l) : ∀ j, j < l.length → w.cell? (a.add j) = some (.int .i64 (l.getD j 0)) := fun j hj => by
  obtain ⟨ad, e, hc⟩ := h.2 (by omega)
  cases e
  rw [List.getD_eq_getElem?_getD, List.getElem?_eq_getElem hj]
  exact hc j hj
/-- a row of the call's own is one that is read -/
theorem RdI.own {w : World} {base n : Nat} {A : Option Addr} {c : Nat} {l : List Int} (hn : n = l.length) (h : w.ownsRow base 3 1 (.slice A n c) n (encI1 l)) (hm : n ≤ 9223372036854775807) : RdI w A l := by
  subst hn
  refine ⟨hm, fun h0 => ?_⟩
  obtain ⟨g, c', e, _, _⟩ := h.form (by omega)
  cases e
  refine ⟨_, rfl, fun j hj => ?_⟩
  rw [add_plain, h.cellAt j (by omega)]
  simp [hj]
theorem add_spot (b o j : Nat) : (⟨b, o, none⟩ : Addr).add j = ⟨b, o + j, none⟩ := by unfold Addr.add; split <;> simp_all
/-- an address of an element of a row: of no cell of a channel and the like -/
def PlainA (A : Option Addr) (l : List Int) : Prop := 0 < l.length → ∀ ad, A = some ad → ad.spot = none
theorem join_has (A0 : Option Addr) (c0 : Nat) (l : List Int) (p : Int) (w : World) (hr : RdI w A0 l) (hp : PlainA A0 l) :
    Calls Try.prog 25 #[.slice A0 l.length c0, .int .i64 p] w fun e w' => e = .returned (.bool (l.contains p)) ∧ w' = w := by
  rcases Nat.eq_zero_or_pos l.length with h0 | h0
  · obtain rfl := List.eq_nil_of_length_eq_zero h0
    exact Try.slices_Contains_int_empty A0 c0 p w
  · obtain ⟨ad, rfl, _⟩ := hr.2 h0
    obtain ⟨b, off, sp⟩ := ad
    obtain rfl : sp = none := hp h0 _ rfl
    have h := Try.slices_Contains_int b off l.length c0 l p w (Nat.le_refl _) hr.1 (fun j hj => by
      have := hr.at j hj
      rwa [add_spot] at this)
    rwa [List.take_length] at h
theorem join_clone (A0 : Option Addr) (c0 : Nat) (l : List Int) (w : World) (hr : RdI w A0 l) (hp : PlainA A0 l) (hlim : l.length * 8 ≤ 140737488355328) :
    Calls Try.prog 30 #[.slice A0 l.length c0] w fun e w' => ∃ A c, e = .returned (.slice A l.length c) ∧ w'.ownsRow w.heap.size 3 1 (.slice A l.length c) l.length (encI1 l) ∧ Below w.heap.size w w' := by
  rcases Nat.eq_zero_or_pos l.length with h0 | h0
  · obtain rfl := List.eq_nil_of_length_eq_zero h0
    rcases A0 with _ | a
    · refine (Try.slices_Clone_int_nil 0 c0 w).mono ?_
      rintro e w' ⟨rfl, rfl⟩
      exact ⟨none, 0, rfl, ⟨rfl, .inl ⟨rfl, rfl⟩⟩, Below.refl _ _⟩
    · refine (Try.slices_Clone_int_zero a c0 w).mono ?_
      rintro e w' ⟨v', rfl, ho, _, hb⟩
      obtain ⟨A, c, rfl⟩ := own_slice ho
      exact ⟨A, c, rfl, ho, hb⟩
  · obtain ⟨ad, rfl, _⟩ := hr.2 h0
    obtain ⟨b, off, sp⟩ := ad
    obtain rfl : sp = none := hp h0 _ rfl
    refine (Try.slices_Clone_int b off l.length c0 l w (Nat.le_refl _) hlim (fun j hj => by
      have := hr.at j hj
      rwa [add_spot] at this)).mono ?_
    rintro e w' ⟨v', rfl, ho, _, hb⟩
    rw [List.take_length] at ho
    obtain ⟨A, c, rfl⟩ := own_slice ho
    exact ⟨A, c, rfl, ho, hb⟩
theorem own_lower' {w : World} {base base' : Nat} {e : TypeId} {size n : Nat} {v : Value} {xs : List Value} (h : w.ownsRow base e size v n xs) (hb : base' ≤ base) : w.ownsRow base' e size v n xs := by
  obtain ⟨h1, h2⟩ := h
  refine ⟨h1, ?_⟩
  rcases h2 with h2 | ⟨g, cap, cur, rfl, hg, hh, r⟩
  · exact .inl h2
  · exact .inr ⟨g, cap, cur, rfl, Nat.le_trans hb hg, hh, r⟩
theorem plain_own {w : World} {base n c : Nat} {e : TypeId} {size m : Nat} {A : Option Addr} {xs : List Value} (h : w.ownsRow base e size (.slice A n c) m xs) : ∀ ad, A = some ad → ad.spot = none := by
  intro ad e
  subst e
  obtain ⟨_, h2⟩ := h
  rcases h2 with ⟨h2, _⟩ | ⟨g, cap, cur, h2, _⟩
  · cases h2
  · cases h2; rfl
theorem enc_ins (p : Int) (l : List Int) : (encI1 l).take (posI p l) ++ [Value.int .i64 p] ++ (encI1 l).drop (posI p l) = encI1 (insP p l) := by
  unfold insP encI1
  simp [List.map_append, List.map_take, List.map_drop]
theorem ins_int (base : Nat) (A : Option Addr) (c : Nat) (l : List Int) (p : Int) (i : Nat) (hi : i ≤ l.length) (hp : posI p l = i) (V : World) (ho : V.ownsRow base 3 1 (.slice A l.length c) l.length (encI1 l)) (hb : base ≤ V.heap.size) (vb : Nat) (hv : V.heap[vb]? = some (.cells #[Value.int .i64 p] 3 (0, 0))) (hne : (Value.slice A l.length c).ownBlock ≠ some vb) (hlim : (l.length + 1) * 8 ≤ 140737488355328) :
    Calls Try.prog 29 #[.slice A l.length c, .int .i64 i, .slice (some ⟨vb, 0, none⟩) 1 1] V fun e w' => ∃ A' c', e = .returned (.slice A' (l.length + 1) c') ∧ w'.ownsRow base 3 1 (.slice A' (l.length + 1) c') (l.length + 1) (encI1 (insP p l)) ∧ V.grownBy w' (Value.slice A l.length c).ownBlock := by
  refine (ins_calls base (.slice A l.length c) l.length i (encI1 l) V ho hb hi (by intro u hu; obtain ⟨x, _, rfl⟩ := List.mem_map.1 hu; rfl) vb [.int .i64 p] rfl (by intro u hu; simp at hu; subst hu; rfl) hv hne hlim).mono ?_
  rintro e w' ⟨v', rfl, h1, h2, _⟩
  obtain ⟨A', c', rfl⟩ := own_slice h1
  rw [← hp, enc_ins] at h1
  exact ⟨A', c', rfl, h1, h2⟩
theorem far10 {V : World} {b g i : Nat} {u0 u1 u2 u3 u4 u5 u6 u7 u8 u9 : Value} (h : g ≠ b) : ((((((((((V.setCell ⟨b, 0, none⟩ u0).setCell ⟨b, 1, none⟩ u1).setCell ⟨b, 2, none⟩ u2).setCell ⟨b, 3, none⟩ u3).setCell ⟨b, 4, none⟩ u4).setCell ⟨b, 5, none⟩ u5).setCell ⟨b, 6, none⟩ u6).setCell ⟨b, 7, none⟩ u7).setCell ⟨b, 8, none⟩ u8).setCell ⟨b, 9, none⟩ u9).cell? ⟨g, i, none⟩ = V.cell? ⟨g, i, none⟩ := by simp [go_sem, h]
theorem far10h {V : World} {b g : Nat} {u0 u1 u2 u3 u4 u5 u6 u7 u8 u9 : Value} (h : g ≠ b) : ((((((((((V.setCell ⟨b, 0, none⟩ u0).setCell ⟨b, 1, none⟩ u1).setCell ⟨b, 2, none⟩ u2).setCell ⟨b, 3, none⟩ u3).setCell ⟨b, 4, none⟩ u4).setCell ⟨b, 5, none⟩ u5).setCell ⟨b, 6, none⟩ u6).setCell ⟨b, 7, none⟩ u7).setCell ⟨b, 8, none⟩ u8).setCell ⟨b, 9, none⟩ u9).heap[g]? = V.heap[g]? := by
  rw [Below.heap_setCell _ _ _ _ h]
  rw [Below.heap_setCell _ _ _ _ h]
  rw [Below.heap_setCell _ _ _ _ h]
  rw [Below.heap_setCell _ _ _ _ h]
  rw [Below.heap_setCell _ _ _ _ h]
  rw [Below.heap_setCell _ _ _ _ h]
  rw [Below.heap_setCell _ _ _ _ h]
  rw [Below.heap_setCell _ _ _ _ h]
  rw [Below.heap_setCell _ _ _ _ h]
  rw [Below.heap_setCell _ _ _ _ h]
theorem box3 (w : World) (o1 o2 o3 : Obj) : (((w.alloc o1).alloc o2).alloc o3).heap[w.heap.size]? = some o1 ∧ (((w.alloc o1).alloc o2).alloc o3).heap[w.heap.size + 1]? = some o2 ∧ (((w.alloc o1).alloc o2).alloc o3).heap[w.heap.size + 2]? = some o3 := by
  refine ⟨blk_alloc (blk_alloc (blk_new w o1) _) _, ?_, ?_⟩
  · have := blk_alloc (blk_new (w.alloc o1) o2) o3
    simpa using this
  · have := blk_new ((w.alloc o1).alloc o2) o3
    simpa using this
set_option maxHeartbeats 8000000 in
set_option maxRecDepth 100000 in
theorem join_ok (w : World) (no room seq nx ms : Int) (up : Bool) (dA lA tA pA : Option Addr) (dn dc ln lc tn tc pc : Nat) (l : List Int) (p : Int) (QD QL QT : World → Value → Prop) (sD : Stays QD) (sL : Stays QL) (sT : Stays QT)
    (hD : Copies 36 (.slice dA dn dc) QD w) (hL : Copies 37 (.slice lA ln lc) QL w) (hT : Copies 37 (.slice tA tn tc) QT w) (hr : RdI w pA l) (hpl : PlainA pA l) (hlim : (l.length + 1) * 8 ≤ 140737488355328) (h0 : 0 ≤ p) (h8 : p < 8) (hno : p ≠ no) (hnot : l.contains p = false) :
    Calls Try.prog 16 #[.agg #[.int .i64 no, .slice dA dn dc, .int .i64 room, .slice lA ln lc, .slice tA tn tc, .int .i64 seq, .bool up, .slice pA l.length pc, .int .i64 nx, .int .i64 ms], .int .i64 p] w fun e w' =>
      (∃ dA' dn' dc' lA' ln' lc' tA' tn' tc' A n c, e = .returned (.tuple #[.agg #[.int .i64 no, .slice dA' dn' dc', .int .i64 room, .slice lA' ln' lc', .slice tA' tn' tc', .int .i64 seq, .bool up, .slice A n c, .int .i64 nx, .int .i64 ms], .int .i64 0]) ∧ n = (insP p l).length ∧ w'.ownsRow w.heap.size 3 1 (.slice A n c) n (encI1 (insP p l)) ∧ QD w' (.slice dA' dn' dc') ∧ QL w' (.slice lA' ln' lc') ∧ QT w' (.slice tA' tn' tc')) ∧ Below w.heap.size w w' := by
  have HD : Aside0 (Copies 36 (.slice dA dn dc) QD w) := ⟨hD⟩
  have HL : Aside0 (Copies 37 (.slice lA ln lc) QL w) := ⟨hL⟩
  have HT : Aside0 (Copies 37 (.slice tA tn tc) QT w) := ⟨hT⟩
  have HR := Aside0.mk hr
  have HPL := Aside0.mk hpl
  have HNOT := Aside0.mk hnot
  have hHas : Aside0 (∀ W, Below w.heap.size w W → Calls Try.prog 25 #[.slice pA l.length pc, .int .i64 p] W fun e w' => e = .returned (.bool false) ∧ w' = W) := ⟨fun W hb => by rw [← hnot]; exact join_has pA pc l p W (hr.below hb) hpl⟩
  have hn0 : ¬ p < 0 := by omega
  have hn8 : ¬ p ≥ 8 := by omega
  have hd0 : decide (p < 0) = false := decide_eq_false hn0
  have hd8 : decide (p ≥ 8) = false := decide_eq_false hn8
  have hbn : (p == no) = false := by simp [hno]
  clear hD hL hT hr hpl hnot
  go_enter Try.func16, Try.ntmps16
  go_wp2_with fail
  have hbx := box3 w (.cells #[.int .i64 no, .slice dA dn dc, .int .i64 room, .slice lA ln lc, .slice tA tn tc, .int .i64 seq, .bool up, .slice pA l.length pc, .int .i64 nx, .int .i64 ms] 37) (.cells #[.int .i64 p] 3) (.cells #[.int .i64 0, .slice none 0 0, .int .i64 0, .slice none 0 0, .slice none 0 0, .int .i64 0, .bool false, .slice none 0 0, .int .i64 0, .int .i64 0] 37)
  have HB0 := Aside0.mk (below_alloc (below_alloc (below_alloc (Below.refl w.heap.size w) (.cells #[.int .i64 no, .slice dA dn dc, .int .i64 room, .slice lA ln lc, .slice tA tn tc, .int .i64 seq, .bool up, .slice pA l.length pc, .int .i64 nx, .int .i64 ms] 37)) (.cells #[.int .i64 p] 3)) (.cells #[.int .i64 0, .slice none 0 0, .int .i64 0, .slice none 0 0, .slice none 0 0, .int .i64 0, .bool false, .slice none 0 0, .int .i64 0, .int .i64 0] 37))
  revert hbx HB0
  generalize (((w.alloc (.cells #[.int .i64 no, .slice dA dn dc, .int .i64 room, .slice lA ln lc, .slice tA tn tc, .int .i64 seq, .bool up, .slice pA l.length pc, .int .i64 nx, .int .i64 ms] 37)).alloc (.cells #[.int .i64 p] 3)).alloc (.cells #[.int .i64 0, .slice none 0 0, .int .i64 0, .slice none 0 0, .slice none 0 0, .int .i64 0, .bool false, .slice none 0 0, .int .i64 0, .int .i64 0] 37)) = W
  intro hbx HB0
  obtain ⟨hb, hp, hz⟩ := hbx
  have HX := Aside0.mk hb
  have HP := Aside0.mk hp
  have HS := Aside0.mk hz
  have hplt := blk_lt hp
  obtain ⟨c0, c1, c2, c3, c4, c5, c6, c7, c8, c9⟩ := cells_of_blk hb
  have cp : W.cell? ⟨w.heap.size + 1, 0, none⟩ = some (.int .i64 p) := blk_cell hp 0
  have HI := Aside0.mk (fun (V : World) (h1 : w.heap.size + 1 < V.heap.size) (h2 : V.cell? ⟨w.heap.size + 1, 0, none⟩ = some (.int .i64 p)) (h3 : Below w.heap.size w V) => join_idx p (w.heap.size + 1) V h1 h2 pA pc l (HR.out.below h3))
  clear hb hp hz
  refine (hHas.out _ HB0.out).mono ?_
  rintro e w1 ⟨rfl, rfl⟩
  go_wp2_with fail
  refine (HI.out _ ?h1 ?h2 ?h3).mono ?_
  case h1 => exact hplt
  case h2 => exact cp
  case h3 => exact HB0.out
  rintro e w1 ⟨rfl, hb1⟩
  have HB1 := Aside0.mk (below_step HB0.out hb1)
  have HX1 := Aside0.mk (blk_below HX.out hb1)
  have HP1 := Aside0.mk (blk_below HP.out hb1)
  have HS1 := Aside0.mk (blk_below HS.out hb1)
  have hs1 := blk_lt HS1.out
  have hb02 : w.heap.size ≠ w.heap.size + 1 + 1 := by omega
  have hb12 : w.heap.size + 1 ≠ w.heap.size + 1 + 1 := by omega
  have hsw1 : w.heap.size ≤ w1.heap.size := by omega
  have hlm : l.length + 1 ≤ 9223372036854775807 := by omega
  have HC : Aside0 (∀ V, Below w.heap.size w V → Calls Try.prog 30 #[.slice pA l.length pc] V fun e w' => ∃ A c, e = .returned (.slice A l.length c) ∧ w'.ownsRow V.heap.size 3 1 (.slice A l.length c) l.length (encI1 l) ∧ Below V.heap.size V w') := ⟨fun V hb => join_clone pA pc l V (HR.out.below hb) HPL.out (by omega)⟩
  have HLI := Aside0.mk (show l.length + 1 = (insP p l).length by unfold insP; have := posI_le p l; simp; omega)
  have HOWN : Aside0 (∀ (V : World) (A : Option Addr) (n c : Nat), Below w.heap.size w V → Calls Try.prog 28 #[.agg #[Value.int .i64 no, Value.slice dA dn dc, Value.int .i64 room, Value.slice lA ln lc, Value.slice tA tn tc, Value.int .i64 seq, Value.bool up, Value.slice pA l.length pc, Value.int .i64 nx, Value.int .i64 ms], .slice A n c] V fun e w' =>
      (∃ dA' dn' dc' lA' ln' lc' tA' tn' tc', e = .returned (.agg #[.int .i64 no, .slice dA' dn' dc', .int .i64 room, .slice lA' ln' lc', .slice tA' tn' tc', .int .i64 seq, .bool up, .slice A n c, .int .i64 nx, .int .i64 ms]) ∧ QD w' (.slice dA' dn' dc') ∧ QL w' (.slice lA' ln' lc') ∧ QT w' (.slice tA' tn' tc')) ∧ Below V.heap.size V w') :=
    ⟨fun V A n c hb => own_calls V no room seq nx ms up dA lA tA pA A dn dc ln lc tn tc l.length pc n c QD QL QT sD sL sT (fun U hu => HD.out U (below_step hb hu)) (fun U hu => HL.out U (below_step hb hu)) (fun U hu => HT.out U (below_step hb hu))⟩
  have HINS0 := Aside0.mk (fun (i : Nat) (hi : i ≤ l.length) (hp : posI p l = i) (V : World) (A : Option Addr) (c : Nat) (ho : V.ownsRow w1.heap.size 3 1 (.slice A l.length c) l.length (encI1 l)) (hb : w1.heap.size ≤ V.heap.size) (vb : Nat) (hv : V.heap[vb]? = some (.cells #[Value.int .i64 p] 3 (0, 0))) (hne : (Value.slice A l.length c).ownBlock ≠ some vb) => ins_int w1.heap.size A c l p i hi hp V ho hb vb hv hne hlim)
  clear HX HP HS HB0 hb1 c0 c1 c2 c3 c4 c5 c6 c7 c8 c9 cp hplt HI hHas
  obtain ⟨c0, c1, c2, c3, c4, c5, c6, c7, c8, c9⟩ := cells_of_blk HX1.out
  have cp : w1.cell? ⟨w.heap.size + 1, 0, none⟩ = some (.int .i64 p) := blk_cell HP1.out 0
  rcases firstAt_range (geI p) l 0 with hfa | ⟨hfa, hfb⟩
  · have HINS := Aside0.mk (HINS0.out l.length (Nat.le_refl _) (by unfold posI; rw [hfa, if_pos (by decide)]))
    rw [hfa]
    clear HINS0
    go_wp2_with fail
    go_region_held3 (fun w' => w'.cell? ⟨w.heap.size, 0, none⟩ = some (Value.int .i64 no) ∧ w'.cell? ⟨w.heap.size, 1, none⟩ = some (Value.slice dA dn dc) ∧ w'.cell? ⟨w.heap.size, 2, none⟩ = some (Value.int .i64 room) ∧ w'.cell? ⟨w.heap.size, 3, none⟩ = some (Value.slice lA ln lc) ∧ w'.cell? ⟨w.heap.size, 4, none⟩ = some (Value.slice tA tn tc) ∧ w'.cell? ⟨w.heap.size, 5, none⟩ = some (Value.int .i64 seq) ∧ w'.cell? ⟨w.heap.size, 6, none⟩ = some (Value.bool up) ∧ w'.cell? ⟨w.heap.size, 7, none⟩ = some (Value.slice pA l.length pc) ∧ w'.cell? ⟨w.heap.size, 8, none⟩ = some (Value.int .i64 nx) ∧ w'.cell? ⟨w.heap.size, 9, none⟩ = some (Value.int .i64 ms) ∧ w'.cell? ⟨w.heap.size + 1, 0, none⟩ = some (Value.int .i64 p))
      (first | (with_reducible exact ⟨d0, d1, d2, d3, d4, d5, d6, d7, d8, d9, dp⟩) | (with_reducible exact ⟨(far10 hb02).trans d0, (far10 hb02).trans d1, (far10 hb02).trans d2, (far10 hb02).trans d3, (far10 hb02).trans d4, (far10 hb02).trans d5, (far10 hb02).trans d6, (far10 hb02).trans d7, (far10 hb02).trans d8, (far10 hb02).trans d9, (far10 hb12).trans dp⟩) | go_keep)
      (first
       | (go_at_call 30; (with_reducible refine (HC.out _ ?hz).mono ?_); (case hz => repeat (first | exact HB1.out | apply below_alloc | apply below_drew)); rintro e w2 ⟨A2, c2, rfl, ho2, hb2⟩; have HV2 : Aside0 (w2.heap[w1.heap.size]? = some (.cells #[Value.int .i64 p] 3 (0, 0))) := ⟨blk_below (blk_drew (blk_new w1 (.cells #[Value.int .i64 p] 3))) hb2⟩; have HNV := Aside0.mk (show (Value.slice A2 l.length c2).ownBlock ≠ some w1.heap.size from fun e => by have := own_base ho2 _ e; simp at this; omega); have hz2 := hb2.size; have HB2 : Aside0 (Below w.heap.size w w2) := ⟨below_step (by repeat (first | exact HB1.out | apply below_alloc | apply below_drew)) hb2⟩; have HX2 : Aside0 (w2.heap[w.heap.size]? = some (.cells #[Value.int .i64 no, Value.slice dA dn dc, Value.int .i64 room, Value.slice lA ln lc, Value.slice tA tn tc, Value.int .i64 seq, Value.bool up, Value.slice pA l.length pc, Value.int .i64 nx, Value.int .i64 ms] 37 (0, 0))) := ⟨blk_below (blk_drew (blk_alloc HX1.out _)) hb2⟩; have HP2 : Aside0 (w2.heap[w.heap.size + 1]? = some (.cells #[Value.int .i64 p] 3 (0, 0))) := ⟨blk_below (blk_drew (blk_alloc HP1.out _)) hb2⟩; have HS2 : Aside0 (w2.heap[w.heap.size + 2]? = some (.cells #[Value.int .i64 0, Value.slice none 0 0, Value.int .i64 0, Value.slice none 0 0, Value.slice none 0 0, Value.int .i64 0, Value.bool false, Value.slice none 0 0, Value.int .i64 0, Value.int .i64 0] 37 (0, 0))) := ⟨blk_below (blk_drew (blk_alloc HS1.out _)) hb2⟩; have HO2 := Aside0.mk (own_lower' ho2 (base' := w1.heap.size) (by simp)); obtain ⟨d0, d1, d2, d3, d4, d5, d6, d7, d8, d9⟩ := cells_of_blk HX2.out; have dp : w2.cell? ⟨w.heap.size + 1, 0, none⟩ = some (Value.int .i64 p) := blk_cell HP2.out 0; have hs2 : w1.heap.size ≤ w2.heap.size := Nat.le_trans (by simp) hz2; clear hb2 ho2 hz2)
       | (go_at_call 30; (with_reducible refine (HC.out _ ?hz).mono ?_); (case hz => repeat (first | exact HB1.out | apply below_alloc | apply below_drew)); rintro e w2 ⟨A2, c2, rfl, ho2, hb2⟩; have hz2 := hb2.size; have HB2 : Aside0 (Below w.heap.size w w2) := ⟨below_step (by repeat (first | exact HB1.out | apply below_alloc | apply below_drew)) hb2⟩; have HX2 : Aside0 (w2.heap[w.heap.size]? = some (.cells #[Value.int .i64 no, Value.slice dA dn dc, Value.int .i64 room, Value.slice lA ln lc, Value.slice tA tn tc, Value.int .i64 seq, Value.bool up, Value.slice pA l.length pc, Value.int .i64 nx, Value.int .i64 ms] 37 (0, 0))) := ⟨blk_below (blk_drew HX1.out) hb2⟩; have HP2 : Aside0 (w2.heap[w.heap.size + 1]? = some (.cells #[Value.int .i64 p] 3 (0, 0))) := ⟨blk_below (blk_drew HP1.out) hb2⟩; have HS2 : Aside0 (w2.heap[w.heap.size + 2]? = some (.cells #[Value.int .i64 0, Value.slice none 0 0, Value.int .i64 0, Value.slice none 0 0, Value.slice none 0 0, Value.int .i64 0, Value.bool false, Value.slice none 0 0, Value.int .i64 0, Value.int .i64 0] 37 (0, 0))) := ⟨blk_below (blk_drew HS1.out) hb2⟩; have HO2 := Aside0.mk (own_lower' ho2 (base' := w1.heap.size) (by simp)); obtain ⟨d0, d1, d2, d3, d4, d5, d6, d7, d8, d9⟩ := cells_of_blk HX2.out; have dp : w2.cell? ⟨w.heap.size + 1, 0, none⟩ = some (Value.int .i64 p) := blk_cell HP2.out 0; have hs2 : w1.heap.size ≤ w2.heap.size := Nat.le_trans (by simp) hz2; clear hb2 ho2 hz2)
       | (go_at_call 29; (with_reducible refine (HINS.out w2 A2 c2 HO2.out ?hb1 w1.heap.size HV2.out ?hn1).mono ?_); (case hb1 => first | exact hs2 | (simp; omega)); (case hn1 => exact HNV.out); rintro e w3 ⟨A3, c3, rfl, ho3, hg3⟩; have HB3 : Aside0 (Below w.heap.size w w3) := ⟨(HB2.out).grown hg3 (by first | omega | (simp; omega)) (fun j hj => Nat.le_trans hsw1 (own_base HO2.out j hj))⟩; have HX3 : Aside0 (w3.heap[w.heap.size]? = some (.cells #[Value.int .i64 no, Value.slice dA dn dc, Value.int .i64 room, Value.slice lA ln lc, Value.slice tA tn tc, Value.int .i64 seq, Value.bool up, Value.slice pA l.length pc, Value.int .i64 nx, Value.int .i64 ms] 37 (0, 0))) := ⟨blk_grown (HX2.out) hg3 (fun e => by have := own_base HO2.out _ e.symm; omega)⟩; have HP3 : Aside0 (w3.heap[w.heap.size + 1]? = some (.cells #[Value.int .i64 p] 3 (0, 0))) := ⟨blk_grown (HP2.out) hg3 (fun e => by have := own_base HO2.out _ e.symm; omega)⟩; have HS3 : Aside0 (w3.heap[w.heap.size + 2]? = some (.cells #[Value.int .i64 0, Value.slice none 0 0, Value.int .i64 0, Value.slice none 0 0, Value.slice none 0 0, Value.int .i64 0, Value.bool false, Value.slice none 0 0, Value.int .i64 0, Value.int .i64 0] 37 (0, 0))) := ⟨blk_grown (HS2.out) hg3 (fun e => by have := own_base HO2.out _ e.symm; omega)⟩; have HR3 := Aside0.mk ho3; have HPA3 := Aside0.mk (plain_own ho3); obtain ⟨d0, d1, d2, d3, d4, d5, d6, d7, d8, d9⟩ := cells_of_blk HX3.out; have dp : w3.cell? ⟨w.heap.size + 1, 0, none⟩ = some (Value.int .i64 p) := blk_cell HP3.out 0; clear hg3 ho3)
       | (go_at_call 29; (with_reducible refine (HINS.out (w2.alloc (.cells #[Value.int .i64 p] 3)) A2 c2 (HO2.out.alloc _) ?hb1 w2.heap.size (blk_new w2 _) ?hn1).mono ?_); (case hb1 => first | exact hs2 | (simp; omega)); (case hn1 => exact fun e => by have := own_lt HO2.out _ e; omega); rintro e w3 ⟨A3, c3, rfl, ho3, hg3⟩; have HB3 : Aside0 (Below w.heap.size w w3) := ⟨(below_alloc HB2.out _).grown hg3 (by first | omega | (simp; omega)) (fun j hj => Nat.le_trans hsw1 (own_base HO2.out j hj))⟩; have HX3 : Aside0 (w3.heap[w.heap.size]? = some (.cells #[Value.int .i64 no, Value.slice dA dn dc, Value.int .i64 room, Value.slice lA ln lc, Value.slice tA tn tc, Value.int .i64 seq, Value.bool up, Value.slice pA l.length pc, Value.int .i64 nx, Value.int .i64 ms] 37 (0, 0))) := ⟨blk_grown (blk_alloc HX2.out _) hg3 (fun e => by have := own_base HO2.out _ e.symm; omega)⟩; have HP3 : Aside0 (w3.heap[w.heap.size + 1]? = some (.cells #[Value.int .i64 p] 3 (0, 0))) := ⟨blk_grown (blk_alloc HP2.out _) hg3 (fun e => by have := own_base HO2.out _ e.symm; omega)⟩; have HS3 : Aside0 (w3.heap[w.heap.size + 2]? = some (.cells #[Value.int .i64 0, Value.slice none 0 0, Value.int .i64 0, Value.slice none 0 0, Value.slice none 0 0, Value.int .i64 0, Value.bool false, Value.slice none 0 0, Value.int .i64 0, Value.int .i64 0] 37 (0, 0))) := ⟨blk_grown (blk_alloc HS2.out _) hg3 (fun e => by have := own_base HO2.out _ e.symm; omega)⟩; have HR3 := Aside0.mk ho3; have HPA3 := Aside0.mk (plain_own ho3); obtain ⟨d0, d1, d2, d3, d4, d5, d6, d7, d8, d9⟩ := cells_of_blk HX3.out; have dp : w3.cell? ⟨w.heap.size + 1, 0, none⟩ = some (Value.int .i64 p) := blk_cell HP3.out 0; clear hg3 ho3)
       | (go_at_call 28; (with_reducible refine (HOWN.out w3 A3 (l.length + 1) c3 HB3.out).mono ?_); rintro e w4 ⟨⟨dA', dn', dc', lA', ln', lc', tA', tn', tc', rfl, hq1, hq2, hq3⟩, hb4⟩; have HQ1 := Aside0.mk hq1; have HQ2 := Aside0.mk hq2; have HQ3 := Aside0.mk hq3; have HB4 := Aside0.mk (below_step HB3.out hb4); have HX4 : Aside0 (w4.heap[w.heap.size]? = some (.cells #[Value.int .i64 no, Value.slice dA dn dc, Value.int .i64 room, Value.slice lA ln lc, Value.slice tA tn tc, Value.int .i64 seq, Value.bool up, Value.slice pA l.length pc, Value.int .i64 nx, Value.int .i64 ms] 37 (0, 0))) := ⟨blk_below HX3.out hb4⟩; have HP4 : Aside0 (w4.heap[w.heap.size + 1]? = some (.cells #[Value.int .i64 p] 3 (0, 0))) := ⟨blk_below HP3.out hb4⟩; have HS4 : Aside0 (w4.heap[w.heap.size + 2]? = some (.cells #[Value.int .i64 0, Value.slice none 0 0, Value.int .i64 0, Value.slice none 0 0, Value.slice none 0 0, Value.int .i64 0, Value.bool false, Value.slice none 0 0, Value.int .i64 0, Value.int .i64 0] 37 (0, 0))) := ⟨blk_below HS3.out hb4⟩; have HR4 := Aside0.mk (pw_own_below HR3.out hb4); obtain ⟨d0, d1, d2, d3, d4, d5, d6, d7, d8, d9⟩ := cells_of_blk HX4.out; have dp : w4.cell? ⟨w.heap.size + 1, 0, none⟩ = some (Value.int .i64 p) := blk_cell HP4.out 0; obtain ⟨r0, r1, r2, r3, r4, r5, r6, r7, r8, r9⟩ := cells_of_blk HS4.out; have f0 := blk_frozen HS4.out 0; have f1 := blk_frozen HS4.out 1; have f2 := blk_frozen HS4.out 2; have f3 := blk_frozen HS4.out 3; have f4 := blk_frozen HS4.out 4; have f5 := blk_frozen HS4.out 5; have f6 := blk_frozen HS4.out 6; have f7 := blk_frozen HS4.out 7; have f8 := blk_frozen HS4.out 8; have f9 := blk_frozen HS4.out 9; clear hb4 hq1 hq2 hq3))
    all_goals
      go_wp2
      have hs4 : w4.heap[w.heap.size + 1 + 1]? = some (.cells #[Value.int .i64 0, Value.slice none 0 0, Value.int .i64 0, Value.slice none 0 0, Value.slice none 0 0, Value.int .i64 0, Value.bool false, Value.slice none 0 0, Value.int .i64 0, Value.int .i64 0] 37 (0, 0)) := HS4.out
      have hz := set10 (Value.int .i64 no) (Value.slice dA' dn' dc') (Value.int .i64 room) (Value.slice lA' ln' lc') (Value.slice tA' tn' tc') (Value.int .i64 seq) (Value.bool up) (Value.slice A3 (l.length + 1) c3) (Value.int .i64 nx) (Value.int .i64 ms) hs4
      have HB5 := Aside0.mk (below10 (Value.int .i64 no) (Value.slice dA' dn' dc') (Value.int .i64 room) (Value.slice lA' ln' lc') (Value.slice tA' tn' tc') (Value.int .i64 seq) (Value.bool up) (Value.slice A3 (l.length + 1) c3) (Value.int .i64 nx) (Value.int .i64 ms) HB4.out (show w.heap.size ≤ w.heap.size + 1 + 1 by omega))
      have HQ5 := Aside0.mk (stays10 sD (Value.int .i64 no) (Value.slice dA' dn' dc') (Value.int .i64 room) (Value.slice lA' ln' lc') (Value.slice tA' tn' tc') (Value.int .i64 seq) (Value.bool up) (Value.slice A3 (l.length + 1) c3) (Value.int .i64 nx) (Value.int .i64 ms) hs4 HQ1.out)
      have HL5 := Aside0.mk (stays10 sL (Value.int .i64 no) (Value.slice dA' dn' dc') (Value.int .i64 room) (Value.slice lA' ln' lc') (Value.slice tA' tn' tc') (Value.int .i64 seq) (Value.bool up) (Value.slice A3 (l.length + 1) c3) (Value.int .i64 nx) (Value.int .i64 ms) hs4 HQ2.out)
      have HT5 := Aside0.mk (stays10 sT (Value.int .i64 no) (Value.slice dA' dn' dc') (Value.int .i64 room) (Value.slice lA' ln' lc') (Value.slice tA' tn' tc') (Value.int .i64 seq) (Value.bool up) (Value.slice A3 (l.length + 1) c3) (Value.int .i64 nx) (Value.int .i64 ms) hs4 HQ3.out)
      have HR5 := Aside0.mk (own_lower' (base' := w.heap.size) (own_move HR4.out (fun k hk => by
        obtain ⟨cells, hcl⟩ := own_typed HR4.out k hk
        exact far10h (b := w.heap.size + 1 + 1) (u0 := (Value.int .i64 no)) (u1 := (Value.slice dA' dn' dc')) (u2 := (Value.int .i64 room)) (u3 := (Value.slice lA' ln' lc')) (u4 := (Value.slice tA' tn' tc')) (u5 := (Value.int .i64 seq)) (u6 := (Value.bool up)) (u7 := (Value.slice A3 (l.length + 1) c3)) (u8 := (Value.int .i64 nx)) (u9 := (Value.int .i64 ms)) (blk_ne hcl hs4 (by decide)))) hsw1)
      obtain ⟨z0, z1, z2, z3, z4, z5, z6, z7, z8, z9⟩ := cells_of_blk hz
      clear hz
      revert z0 z1 z2 z3 z4 z5 z6 z7 z8 z9 HB5 HQ5 HL5 HT5 HR5
      generalize ((((((((((w4.setCell ⟨w.heap.size + 1 + 1, 0, none⟩ (Value.int .i64 no)).setCell ⟨w.heap.size + 1 + 1, 1, none⟩ (Value.slice dA' dn' dc')).setCell ⟨w.heap.size + 1 + 1, 2, none⟩ (Value.int .i64 room)).setCell ⟨w.heap.size + 1 + 1, 3, none⟩ (Value.slice lA' ln' lc')).setCell ⟨w.heap.size + 1 + 1, 4, none⟩ (Value.slice tA' tn' tc')).setCell ⟨w.heap.size + 1 + 1, 5, none⟩ (Value.int .i64 seq)).setCell ⟨w.heap.size + 1 + 1, 6, none⟩ (Value.bool up)).setCell ⟨w.heap.size + 1 + 1, 7, none⟩ (Value.slice A3 (l.length + 1) c3)).setCell ⟨w.heap.size + 1 + 1, 8, none⟩ (Value.int .i64 nx)).setCell ⟨w.heap.size + 1 + 1, 9, none⟩ (Value.int .i64 ms)) = U
      intro HB5 HQ5 HL5 HT5 HR5 z0 z1 z2 z3 z4 z5 z6 z7 z8 z9
      clear HS4 HX4 HP4 HB4 HR4 HQ1 HQ2 HQ3 hs4 HX3 HP3 HS3 HB3 HR3 HX2 HP2 HS2 HB2 HX1 HP1 HS1 HB1 HO2 HC HOWN HINS HD HL HT HR HPL
      refine bodyPost_ret (v := .tuple #[.agg #[(Value.int .i64 no), (Value.slice dA' dn' dc'), (Value.int .i64 room), (Value.slice lA' ln' lc'), (Value.slice tA' tn' tc'), (Value.int .i64 seq), (Value.bool up), (Value.slice A3 (l.length + 1) c3), (Value.int .i64 nx), (Value.int .i64 ms)], .int .i64 0]) (by simp [results, Try.results16, go_sem, z0, z1, z2, z3, z4, z5, z6, z7, z8, z9]) rfl ⟨⟨_, _, _, _, _, _, _, _, _, _, _, _, rfl, HLI.out, HR5.out, HQ5.out, HL5.out, HT5.out⟩, HB5.out⟩
  · obtain ⟨q, hq⟩ : ∃ q : Nat, firstAt (geI p) 0 l = (q : Int) := ⟨(firstAt (geI p) 0 l).toNat, by omega⟩
    have hql : q < l.length := by omega
    have HINS := Aside0.mk (HINS0.out q (by omega) (by unfold posI; rw [hq, if_neg (by omega)]; simp))
    rw [hq]
    clear HINS0
    go_wp2_with fail
    go_region_held3 (fun w' => w'.cell? ⟨w.heap.size, 0, none⟩ = some (Value.int .i64 no) ∧ w'.cell? ⟨w.heap.size, 1, none⟩ = some (Value.slice dA dn dc) ∧ w'.cell? ⟨w.heap.size, 2, none⟩ = some (Value.int .i64 room) ∧ w'.cell? ⟨w.heap.size, 3, none⟩ = some (Value.slice lA ln lc) ∧ w'.cell? ⟨w.heap.size, 4, none⟩ = some (Value.slice tA tn tc) ∧ w'.cell? ⟨w.heap.size, 5, none⟩ = some (Value.int .i64 seq) ∧ w'.cell? ⟨w.heap.size, 6, none⟩ = some (Value.bool up) ∧ w'.cell? ⟨w.heap.size, 7, none⟩ = some (Value.slice pA l.length pc) ∧ w'.cell? ⟨w.heap.size, 8, none⟩ = some (Value.int .i64 nx) ∧ w'.cell? ⟨w.heap.size, 9, none⟩ = some (Value.int .i64 ms) ∧ w'.cell? ⟨w.heap.size + 1, 0, none⟩ = some (Value.int .i64 p))
      (first | (with_reducible exact ⟨d0, d1, d2, d3, d4, d5, d6, d7, d8, d9, dp⟩) | (with_reducible exact ⟨(far10 hb02).trans d0, (far10 hb02).trans d1, (far10 hb02).trans d2, (far10 hb02).trans d3, (far10 hb02).trans d4, (far10 hb02).trans d5, (far10 hb02).trans d6, (far10 hb02).trans d7, (far10 hb02).trans d8, (far10 hb02).trans d9, (far10 hb12).trans dp⟩) | go_keep)
      (first
       | (go_at_call 30; (with_reducible refine (HC.out _ ?hz).mono ?_); (case hz => repeat (first | exact HB1.out | apply below_alloc | apply below_drew)); rintro e w2 ⟨A2, c2, rfl, ho2, hb2⟩; have HV2 : Aside0 (w2.heap[w1.heap.size]? = some (.cells #[Value.int .i64 p] 3 (0, 0))) := ⟨blk_below (blk_drew (blk_new w1 (.cells #[Value.int .i64 p] 3))) hb2⟩; have HNV := Aside0.mk (show (Value.slice A2 l.length c2).ownBlock ≠ some w1.heap.size from fun e => by have := own_base ho2 _ e; simp at this; omega); have hz2 := hb2.size; have HB2 : Aside0 (Below w.heap.size w w2) := ⟨below_step (by repeat (first | exact HB1.out | apply below_alloc | apply below_drew)) hb2⟩; have HX2 : Aside0 (w2.heap[w.heap.size]? = some (.cells #[Value.int .i64 no, Value.slice dA dn dc, Value.int .i64 room, Value.slice lA ln lc, Value.slice tA tn tc, Value.int .i64 seq, Value.bool up, Value.slice pA l.length pc, Value.int .i64 nx, Value.int .i64 ms] 37 (0, 0))) := ⟨blk_below (blk_drew (blk_alloc HX1.out _)) hb2⟩; have HP2 : Aside0 (w2.heap[w.heap.size + 1]? = some (.cells #[Value.int .i64 p] 3 (0, 0))) := ⟨blk_below (blk_drew (blk_alloc HP1.out _)) hb2⟩; have HS2 : Aside0 (w2.heap[w.heap.size + 2]? = some (.cells #[Value.int .i64 0, Value.slice none 0 0, Value.int .i64 0, Value.slice none 0 0, Value.slice none 0 0, Value.int .i64 0, Value.bool false, Value.slice none 0 0, Value.int .i64 0, Value.int .i64 0] 37 (0, 0))) := ⟨blk_below (blk_drew (blk_alloc HS1.out _)) hb2⟩; have HO2 := Aside0.mk (own_lower' ho2 (base' := w1.heap.size) (by simp)); obtain ⟨d0, d1, d2, d3, d4, d5, d6, d7, d8, d9⟩ := cells_of_blk HX2.out; have dp : w2.cell? ⟨w.heap.size + 1, 0, none⟩ = some (Value.int .i64 p) := blk_cell HP2.out 0; have hs2 : w1.heap.size ≤ w2.heap.size := Nat.le_trans (by simp) hz2; clear hb2 ho2 hz2)
       | (go_at_call 30; (with_reducible refine (HC.out _ ?hz).mono ?_); (case hz => repeat (first | exact HB1.out | apply below_alloc | apply below_drew)); rintro e w2 ⟨A2, c2, rfl, ho2, hb2⟩; have hz2 := hb2.size; have HB2 : Aside0 (Below w.heap.size w w2) := ⟨below_step (by repeat (first | exact HB1.out | apply below_alloc | apply below_drew)) hb2⟩; have HX2 : Aside0 (w2.heap[w.heap.size]? = some (.cells #[Value.int .i64 no, Value.slice dA dn dc, Value.int .i64 room, Value.slice lA ln lc, Value.slice tA tn tc, Value.int .i64 seq, Value.bool up, Value.slice pA l.length pc, Value.int .i64 nx, Value.int .i64 ms] 37 (0, 0))) := ⟨blk_below (blk_drew HX1.out) hb2⟩; have HP2 : Aside0 (w2.heap[w.heap.size + 1]? = some (.cells #[Value.int .i64 p] 3 (0, 0))) := ⟨blk_below (blk_drew HP1.out) hb2⟩; have HS2 : Aside0 (w2.heap[w.heap.size + 2]? = some (.cells #[Value.int .i64 0, Value.slice none 0 0, Value.int .i64 0, Value.slice none 0 0, Value.slice none 0 0, Value.int .i64 0, Value.bool false, Value.slice none 0 0, Value.int .i64 0, Value.int .i64 0] 37 (0, 0))) := ⟨blk_below (blk_drew HS1.out) hb2⟩; have HO2 := Aside0.mk (own_lower' ho2 (base' := w1.heap.size) (by simp)); obtain ⟨d0, d1, d2, d3, d4, d5, d6, d7, d8, d9⟩ := cells_of_blk HX2.out; have dp : w2.cell? ⟨w.heap.size + 1, 0, none⟩ = some (Value.int .i64 p) := blk_cell HP2.out 0; have hs2 : w1.heap.size ≤ w2.heap.size := Nat.le_trans (by simp) hz2; clear hb2 ho2 hz2)
       | (go_at_call 29; (with_reducible refine (HINS.out w2 A2 c2 HO2.out ?hb1 w1.heap.size HV2.out ?hn1).mono ?_); (case hb1 => first | exact hs2 | (simp; omega)); (case hn1 => exact HNV.out); rintro e w3 ⟨A3, c3, rfl, ho3, hg3⟩; have HB3 : Aside0 (Below w.heap.size w w3) := ⟨(HB2.out).grown hg3 (by first | omega | (simp; omega)) (fun j hj => Nat.le_trans hsw1 (own_base HO2.out j hj))⟩; have HX3 : Aside0 (w3.heap[w.heap.size]? = some (.cells #[Value.int .i64 no, Value.slice dA dn dc, Value.int .i64 room, Value.slice lA ln lc, Value.slice tA tn tc, Value.int .i64 seq, Value.bool up, Value.slice pA l.length pc, Value.int .i64 nx, Value.int .i64 ms] 37 (0, 0))) := ⟨blk_grown (HX2.out) hg3 (fun e => by have := own_base HO2.out _ e.symm; omega)⟩; have HP3 : Aside0 (w3.heap[w.heap.size + 1]? = some (.cells #[Value.int .i64 p] 3 (0, 0))) := ⟨blk_grown (HP2.out) hg3 (fun e => by have := own_base HO2.out _ e.symm; omega)⟩; have HS3 : Aside0 (w3.heap[w.heap.size + 2]? = some (.cells #[Value.int .i64 0, Value.slice none 0 0, Value.int .i64 0, Value.slice none 0 0, Value.slice none 0 0, Value.int .i64 0, Value.bool false, Value.slice none 0 0, Value.int .i64 0, Value.int .i64 0] 37 (0, 0))) := ⟨blk_grown (HS2.out) hg3 (fun e => by have := own_base HO2.out _ e.symm; omega)⟩; have HR3 := Aside0.mk ho3; have HPA3 := Aside0.mk (plain_own ho3); obtain ⟨d0, d1, d2, d3, d4, d5, d6, d7, d8, d9⟩ := cells_of_blk HX3.out; have dp : w3.cell? ⟨w.heap.size + 1, 0, none⟩ = some (Value.int .i64 p) := blk_cell HP3.out 0; clear hg3 ho3)
       | (go_at_call 29; (with_reducible refine (HINS.out (w2.alloc (.cells #[Value.int .i64 p] 3)) A2 c2 (HO2.out.alloc _) ?hb1 w2.heap.size (blk_new w2 _) ?hn1).mono ?_); (case hb1 => first | exact hs2 | (simp; omega)); (case hn1 => exact fun e => by have := own_lt HO2.out _ e; omega); rintro e w3 ⟨A3, c3, rfl, ho3, hg3⟩; have HB3 : Aside0 (Below w.heap.size w w3) := ⟨(below_alloc HB2.out _).grown hg3 (by first | omega | (simp; omega)) (fun j hj => Nat.le_trans hsw1 (own_base HO2.out j hj))⟩; have HX3 : Aside0 (w3.heap[w.heap.size]? = some (.cells #[Value.int .i64 no, Value.slice dA dn dc, Value.int .i64 room, Value.slice lA ln lc, Value.slice tA tn tc, Value.int .i64 seq, Value.bool up, Value.slice pA l.length pc, Value.int .i64 nx, Value.int .i64 ms] 37 (0, 0))) := ⟨blk_grown (blk_alloc HX2.out _) hg3 (fun e => by have := own_base HO2.out _ e.symm; omega)⟩; have HP3 : Aside0 (w3.heap[w.heap.size + 1]? = some (.cells #[Value.int .i64 p] 3 (0, 0))) := ⟨blk_grown (blk_alloc HP2.out _) hg3 (fun e => by have := own_base HO2.out _ e.symm; omega)⟩; have HS3 : Aside0 (w3.heap[w.heap.size + 2]? = some (.cells #[Value.int .i64 0, Value.slice none 0 0, Value.int .i64 0, Value.slice none 0 0, Value.slice none 0 0, Value.int .i64 0, Value.bool false, Value.slice none 0 0, Value.int .i64 0, Value.int .i64 0] 37 (0, 0))) := ⟨blk_grown (blk_alloc HS2.out _) hg3 (fun e => by have := own_base HO2.out _ e.symm; omega)⟩; have HR3 := Aside0.mk ho3; have HPA3 := Aside0.mk (plain_own ho3); obtain ⟨d0, d1, d2, d3, d4, d5, d6, d7, d8, d9⟩ := cells_of_blk HX3.out; have dp : w3.cell? ⟨w.heap.size + 1, 0, none⟩ = some (Value.int .i64 p) := blk_cell HP3.out 0; clear hg3 ho3)
       | (go_at_call 28; (with_reducible refine (HOWN.out w3 A3 (l.length + 1) c3 HB3.out).mono ?_); rintro e w4 ⟨⟨dA', dn', dc', lA', ln', lc', tA', tn', tc', rfl, hq1, hq2, hq3⟩, hb4⟩; have HQ1 := Aside0.mk hq1; have HQ2 := Aside0.mk hq2; have HQ3 := Aside0.mk hq3; have HB4 := Aside0.mk (below_step HB3.out hb4); have HX4 : Aside0 (w4.heap[w.heap.size]? = some (.cells #[Value.int .i64 no, Value.slice dA dn dc, Value.int .i64 room, Value.slice lA ln lc, Value.slice tA tn tc, Value.int .i64 seq, Value.bool up, Value.slice pA l.length pc, Value.int .i64 nx, Value.int .i64 ms] 37 (0, 0))) := ⟨blk_below HX3.out hb4⟩; have HP4 : Aside0 (w4.heap[w.heap.size + 1]? = some (.cells #[Value.int .i64 p] 3 (0, 0))) := ⟨blk_below HP3.out hb4⟩; have HS4 : Aside0 (w4.heap[w.heap.size + 2]? = some (.cells #[Value.int .i64 0, Value.slice none 0 0, Value.int .i64 0, Value.slice none 0 0, Value.slice none 0 0, Value.int .i64 0, Value.bool false, Value.slice none 0 0, Value.int .i64 0, Value.int .i64 0] 37 (0, 0))) := ⟨blk_below HS3.out hb4⟩; have HR4 := Aside0.mk (pw_own_below HR3.out hb4); obtain ⟨d0, d1, d2, d3, d4, d5, d6, d7, d8, d9⟩ := cells_of_blk HX4.out; have dp : w4.cell? ⟨w.heap.size + 1, 0, none⟩ = some (Value.int .i64 p) := blk_cell HP4.out 0; obtain ⟨r0, r1, r2, r3, r4, r5, r6, r7, r8, r9⟩ := cells_of_blk HS4.out; have f0 := blk_frozen HS4.out 0; have f1 := blk_frozen HS4.out 1; have f2 := blk_frozen HS4.out 2; have f3 := blk_frozen HS4.out 3; have f4 := blk_frozen HS4.out 4; have f5 := blk_frozen HS4.out 5; have f6 := blk_frozen HS4.out 6; have f7 := blk_frozen HS4.out 7; have f8 := blk_frozen HS4.out 8; have f9 := blk_frozen HS4.out 9; clear hb4 hq1 hq2 hq3))
    all_goals
      go_wp2
      have hs4 : w4.heap[w.heap.size + 1 + 1]? = some (.cells #[Value.int .i64 0, Value.slice none 0 0, Value.int .i64 0, Value.slice none 0 0, Value.slice none 0 0, Value.int .i64 0, Value.bool false, Value.slice none 0 0, Value.int .i64 0, Value.int .i64 0] 37 (0, 0)) := HS4.out
      have hz := set10 (Value.int .i64 no) (Value.slice dA' dn' dc') (Value.int .i64 room) (Value.slice lA' ln' lc') (Value.slice tA' tn' tc') (Value.int .i64 seq) (Value.bool up) (Value.slice A3 (l.length + 1) c3) (Value.int .i64 nx) (Value.int .i64 ms) hs4
      have HB5 := Aside0.mk (below10 (Value.int .i64 no) (Value.slice dA' dn' dc') (Value.int .i64 room) (Value.slice lA' ln' lc') (Value.slice tA' tn' tc') (Value.int .i64 seq) (Value.bool up) (Value.slice A3 (l.length + 1) c3) (Value.int .i64 nx) (Value.int .i64 ms) HB4.out (show w.heap.size ≤ w.heap.size + 1 + 1 by omega))
      have HQ5 := Aside0.mk (stays10 sD (Value.int .i64 no) (Value.slice dA' dn' dc') (Value.int .i64 room) (Value.slice lA' ln' lc') (Value.slice tA' tn' tc') (Value.int .i64 seq) (Value.bool up) (Value.slice A3 (l.length + 1) c3) (Value.int .i64 nx) (Value.int .i64 ms) hs4 HQ1.out)
      have HL5 := Aside0.mk (stays10 sL (Value.int .i64 no) (Value.slice dA' dn' dc') (Value.int .i64 room) (Value.slice lA' ln' lc') (Value.slice tA' tn' tc') (Value.int .i64 seq) (Value.bool up) (Value.slice A3 (l.length + 1) c3) (Value.int .i64 nx) (Value.int .i64 ms) hs4 HQ2.out)
      have HT5 := Aside0.mk (stays10 sT (Value.int .i64 no) (Value.slice dA' dn' dc') (Value.int .i64 room) (Value.slice lA' ln' lc') (Value.slice tA' tn' tc') (Value.int .i64 seq) (Value.bool up) (Value.slice A3 (l.length + 1) c3) (Value.int .i64 nx) (Value.int .i64 ms) hs4 HQ3.out)
      have HR5 := Aside0.mk (own_lower' (base' := w.heap.size) (own_move HR4.out (fun k hk => by
        obtain ⟨cells, hcl⟩ := own_typed HR4.out k hk
        exact far10h (b := w.heap.size + 1 + 1) (u0 := (Value.int .i64 no)) (u1 := (Value.slice dA' dn' dc')) (u2 := (Value.int .i64 room)) (u3 := (Value.slice lA' ln' lc')) (u4 := (Value.slice tA' tn' tc')) (u5 := (Value.int .i64 seq)) (u6 := (Value.bool up)) (u7 := (Value.slice A3 (l.length + 1) c3)) (u8 := (Value.int .i64 nx)) (u9 := (Value.int .i64 ms)) (blk_ne hcl hs4 (by decide)))) hsw1)
      obtain ⟨z0, z1, z2, z3, z4, z5, z6, z7, z8, z9⟩ := cells_of_blk hz
      clear hz
      revert z0 z1 z2 z3 z4 z5 z6 z7 z8 z9 HB5 HQ5 HL5 HT5 HR5
      generalize ((((((((((w4.setCell ⟨w.heap.size + 1 + 1, 0, none⟩ (Value.int .i64 no)).setCell ⟨w.heap.size + 1 + 1, 1, none⟩ (Value.slice dA' dn' dc')).setCell ⟨w.heap.size + 1 + 1, 2, none⟩ (Value.int .i64 room)).setCell ⟨w.heap.size + 1 + 1, 3, none⟩ (Value.slice lA' ln' lc')).setCell ⟨w.heap.size + 1 + 1, 4, none⟩ (Value.slice tA' tn' tc')).setCell ⟨w.heap.size + 1 + 1, 5, none⟩ (Value.int .i64 seq)).setCell ⟨w.heap.size + 1 + 1, 6, none⟩ (Value.bool up)).setCell ⟨w.heap.size + 1 + 1, 7, none⟩ (Value.slice A3 (l.length + 1) c3)).setCell ⟨w.heap.size + 1 + 1, 8, none⟩ (Value.int .i64 nx)).setCell ⟨w.heap.size + 1 + 1, 9, none⟩ (Value.int .i64 ms)) = U
      intro HB5 HQ5 HL5 HT5 HR5 z0 z1 z2 z3 z4 z5 z6 z7 z8 z9
      clear HS4 HX4 HP4 HB4 HR4 HQ1 HQ2 HQ3 hs4 HX3 HP3 HS3 HB3 HR3 HX2 HP2 HS2 HB2 HX1 HP1 HS1 HB1 HO2 HC HOWN HINS HD HL HT HR HPL
      refine bodyPost_ret (v := .tuple #[.agg #[(Value.int .i64 no), (Value.slice dA' dn' dc'), (Value.int .i64 room), (Value.slice lA' ln' lc'), (Value.slice tA' tn' tc'), (Value.int .i64 seq), (Value.bool up), (Value.slice A3 (l.length + 1) c3), (Value.int .i64 nx), (Value.int .i64 ms)], .int .i64 0]) (by simp [results, Try.results16, go_sem, z0, z1, z2, z3, z4, z5, z6, z7, z8, z9]) rfl ⟨⟨_, _, _, _, _, _, _, _, _, _, _, _, rfl, HLI.out, HR5.out, HQ5.out, HL5.out, HT5.out⟩, HB5.out⟩
end Go.Proofs.Ytameeejfkgoheaa.P
