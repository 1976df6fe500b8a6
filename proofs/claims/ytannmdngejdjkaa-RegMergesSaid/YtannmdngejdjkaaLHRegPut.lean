/- reg.regs.put: a register put into rising ones. By hand. -/
import Derived.Test.YtannmdngejdjkaaLHFlat
import Derived.Test.YtannmdngejdjkaaLHBs
import Derived.Test.YtannmdngejdjkaaLHIns
import Derived.Test.YtannmdngejdjkaaLx7
import Derived.StillTailTactics
import Derived.Deep.RegionHeld3
import Derived.Deep.DeepCutAuto
import Derived.RegionTactic
namespace Go.Proofs.Ytannmdngejdjkaa.L
open Go.RowKit Go.Proofs.YtannmdngejdjkaaW.PrintWords Go.Proofs.YtannmdngejdjkaaW.PrintLast Go.Proofs.YtannmdngejdjkaaW.PrintMore Go.Proofs.YtannmdngejdjkaaW
set_option linter.unusedVariables false
set_option linter.unusedSimpArgs false
/-- is one register newer than another one? -/
def newerB (a b : S26) : Bool :=
  if a.f2 = b.f2 then if a.f3.f0 = b.f3.f0 then if a.f3.f1 = b.f3.f1 then Op.bytesLess b.f1.toList a.f1.toList else decide (b.f3.f1 < a.f3.f1) else decide (b.f3.f0 < a.f3.f0) else decide (b.f2 < a.f2)
def cmpI (a b : Int) : Int := if a < b then -1 else if b < a then 1 else 0
theorem cmpI_f (a b : Int) : cmp_Compare_int.f a b = some (cmpI a b) := by
  simp only [cmp_Compare_int.f, cmp_isNaN_int.f, Option.bind_some, bne_self_eq_false, Bool.false_eq_true, if_false, cmpI]
  split
  · rfl
  · split <;> rfl
theorem or_step (k : Nat) (l : List Int) (i : Int) (h0 : 0 ≤ i) (h1 : i < (l.length : Int)) : cmp_Or_int.l0 (k + 1) 0 l (l.length : Int) i = if rd l i = 0 then cmp_Or_int.l0 k 0 l (l.length : Int) (wrap64 (i + 1)) else some (rd l i) := by
  simp only [cmp_Or_int.l0]
  rw [if_pos h1, if_pos h0, if_pos h1]
theorem or_end (k : Nat) (l : List Int) (i : Int) (h1 : ¬ i < (l.length : Int)) : cmp_Or_int.l0 (k + 1) 0 l (l.length : Int) i = some 0 := by
  simp only [cmp_Or_int.l0]
  rw [if_neg h1]
theorem cmp_Or4 (a b c d : Int) : cmp_Or_int.f 5 [a, b, c, d] = some (if a = 0 then if b = 0 then if c = 0 then if d = 0 then 0 else d else c else b else a) := by
  have w1 : wrap64 (0 + 1) = 1 := by unfold wrap64; omega
  have w2 : wrap64 (1 + 1) = 2 := by unfold wrap64; omega
  have w3 : wrap64 (2 + 1) = 3 := by unfold wrap64; omega
  have w4 : wrap64 (3 + 1) = 4 := by unfold wrap64; omega
  have r0 : rd [a, b, c, d] 0 = a := rfl
  have r1 : rd [a, b, c, d] 1 = b := rfl
  have r2 : rd [a, b, c, d] 2 = c := rfl
  have r3 : rd [a, b, c, d] 3 = d := rfl
  show cmp_Or_int.l0 (4 + 1) 0 [a, b, c, d] _ 0 = _
  rw [or_step 4 _ 0 (by omega) (by simp), w1, r0, or_step 3 _ 1 (by omega) (by simp), w2, r1, or_step 2 _ 2 (by omega) (by simp), w3, r2, or_step 1 _ 3 (by omega) (by simp), w4, r3, or_end 0 _ 4 (by simp)]
  split <;> (try rfl)
  split <;> (try rfl)
  split <;> (try rfl)
  split <;> rfl
theorem newer_f (a b : S26) : reg_Newer.f 5 a.f0 a.f1 a.f2 a.f3.f0 a.f3.f1 b.f0 b.f1 b.f2 b.f3.f0 b.f3.f1 = some (newerB a b) := by
  unfold reg_Newer.f
  rw [cmpI_f, cmpI_f, cmpI_f, cmpS_f]
  rw [Option.bind_some, Option.bind_some, Option.bind_some, Option.bind_some, cmp_Or4, Option.bind_some]
  congr 1
  unfold newerB
  have hI : ∀ x y : Int, (cmpI x y = 0 ↔ x = y) ∧ (0 < cmpI x y ↔ y < x) := by
    intro x y
    unfold cmpI
    split
    · omega
    · split <;> omega
  have hS : ∀ x y : ByteArray, 0 < cmpS x y ↔ Op.bytesLess y.toList x.toList = true := by
    intro x y
    unfold cmpS
    split
    · rename_i h; have := less_asymm h; simp [this]
    · split <;> simp [*]
  obtain ⟨p1, p2⟩ := hI a.f2 b.f2
  obtain ⟨q1, q2⟩ := hI a.f3.f0 b.f3.f0
  obtain ⟨s1, s2⟩ := hI a.f3.f1 b.f3.f1
  have t2 := hS a.f1 b.f1
  by_cases h1 : a.f2 = b.f2
  · rw [if_pos (p1.2 h1), if_pos h1]
    by_cases h2 : a.f3.f0 = b.f3.f0
    · rw [if_pos (q1.2 h2), if_pos h2]
      by_cases h3 : a.f3.f1 = b.f3.f1
      · rw [if_pos (s1.2 h3), if_pos h3]
        have e : (if cmpS a.f1 b.f1 = 0 then (0 : Int) else cmpS a.f1 b.f1) = cmpS a.f1 b.f1 := by split <;> simp_all
        rw [e]
        rw [Bool.eq_iff_iff]
        simpa using t2
      · rw [if_neg (fun h => h3 (s1.1 h)), if_neg h3]; exact decide_eq_decide.2 s2
    · rw [if_neg (fun h => h2 (q1.1 h)), if_neg h2]; exact decide_eq_decide.2 q2
  · rw [if_neg (fun h => h1 (p1.1 h)), if_neg h1]; exact decide_eq_decide.2 p2
/-- registers with one more -/
def putL (l : List S26) (r : S26) : List S26 :=
  if regIs r.f0 l then (if newerB r (rd_T26 l (regPos r.f0 l : Nat)) then l.set (regPos r.f0 l) r else l) else l.take (regPos r.f0 l) ++ r :: l.drop (regPos r.f0 l)
theorem regRow_set : ∀ (l : List S26) (i : Nat) (r : S26), i < l.length → regRow (l.set i r) = (((((regRow l).set (i * 5) (.string r.f0)).set (i * 5 + 1) (.string r.f1)).set (i * 5 + 2) (.int .i64 r.f2)).set (i * 5 + 3) (.int .i64 r.f3.f0)).set (i * 5 + 4) (.int .i64 r.f3.f1)
  | [], i, r, h => by simp at h
  | x :: l, 0, r, _ => by
    simp only [List.set_cons_zero, regRow, List.flatMap_cons, regCells, List.cons_append, List.nil_append, Nat.zero_mul, Nat.zero_add]
    rfl
  | x :: l, i + 1, r, h => by
    have ih := regRow_set l i r (by simpa using h)
    have e : ∀ j : Nat, (i + 1) * 5 + j = (i * 5 + j) + 1 + 1 + 1 + 1 + 1 := fun j => by omega
    have e0 : (i + 1) * 5 = (i * 5) + 1 + 1 + 1 + 1 + 1 := by omega
    rw [List.set_cons_succ]
    show regCells x ++ regRow (l.set i r) = _
    rw [ih, e 1, e 2, e 3, e 4, e0]
    show _ = (((((regCells x ++ regRow l).set _ _).set _ _).set _ _).set _ _).set _ _
    simp only [regCells, List.cons_append, List.nil_append, List.set_cons_succ]
theorem own_reads_reg {w : World} {base : Nat} {v : Value} {l : List S26} (h : w.ownsRow base 26 5 v l.length (regRow l)) : ∃ A c, v = .slice A l.length c ∧ l.length ≤ c ∧ k26.C w A l.length l := by
  obtain ⟨A, c, h1, h2, h3⟩ := Kd.R_reads (R_reg h)
  exact ⟨A, c, h1, h2, h3⟩
theorem below_alloc' {w w1 : World} (h : Below w.heap.size w w1) (o : Obj) : Below w.heap.size w (w1.alloc o) := below_alloc h o
set_option maxHeartbeats 4000000 in
set_option maxRecDepth 100000 in
theorem put_new (w0 : World) (gb : Nat) (v : Value) (l : List S26) (r : S26) (w : World) (hB : Below w0.heap.size w0 w) (hbase : w0.heap.size ≤ gb) (hg : w.heap[gb]? = some (.cells #[v] 94 (0, 0))) (ho : w.ownsRow w0.heap.size 26 5 v l.length (regRow l)) (hup : RegUp l) (hlim : (l.length + 1) * 56 ≤ 140737488355328)
    (his : regIs r.f0 l = false) :
    Calls Try.prog 87 #[.pointer (some ⟨gb, 0, none⟩), .agg #[.string r.f0, .string r.f1, .int .i64 r.f2, .int .i64 r.f3.f0, .int .i64 r.f3.f1]] w fun e w' => e = .returned (.tuple #[]) ∧ ∃ v', w'.heap[gb]? = some (.cells #[v'] 94 (0, 0)) ∧ w'.ownsRow w0.heap.size 26 5 v' (putL l r).length (regRow (putL l r)) ∧ Below w0.heap.size w0 w' := by
  obtain ⟨A, c, rfl, hlc, hC⟩ := own_reads_reg ho
  have hgc : w.cell? ⟨gb, 0, none⟩ = some (.slice A l.length c) := (blk_cell hg 0).trans rfl
  have hglt := blk_lt hg
  have HF := fun (W : World) (h : Below w.heap.size w W) => reg_find r.f0 A c l W (Kd.C_below hC h) hup (by omega)
  have HFA := Aside0.mk HF
  clear HF
  have hne : gb ≠ w.heap.size := by omega
  have HP := Aside0.mk (show putL l r = l.take (regPos r.f0 l) ++ r :: l.drop (regPos r.f0 l) by simp [putL, his])
  have HO := Aside0.mk ho
  have HG := Aside0.mk hg
  have HB := Aside0.mk hB
  clear ho hg hB hC hup
  rw [his] at HFA
  go_enter Try.func87, Try.ntmps87
  go_wp2_with fail
  go_region_held3 (fun w' => w'.cell? ⟨gb, 0, none⟩ = some (.slice A l.length c) ∧ w'.cell? ⟨w.heap.size, 0, none⟩ = some (.string r.f0))
    (first
      | go_keep
      | (exact ⟨(hb.cell (p := ⟨gb, 0, none⟩) (by simp; omega)).trans (by go_simp), (hb.cell (p := ⟨w.heap.size, 0, none⟩) (by simp)).trans (by go_simp)⟩))
    (first | (go_at_call 96; refine (HFA.out _ ?hz).mono ?_; (case hz => repeat (first | exact Below.refl _ _ | apply below_alloc | apply pw_below_drewN | apply below_drew)); rintro e w1 ⟨rfl, hb⟩))
  have hw1 : Below w.heap.size w w1 := below_step (below_drew (below_alloc (Below.refl _ _) _)) hb
  have hbox := blk_below (blk_drew (blk_new w (.cells #[.string r.f0, .string r.f1, .int .i64 r.f2, .int .i64 r.f3.f0, .int .i64 r.f3.f1] 26))) hb
  have hboxlt := blk_lt hbox
  have hgb := blk_below HG.out hw1
  have ho1 := pw_own_below HO.out hw1
  have HB1 := Aside0.mk (below_then HB.out HB.out.size hw1)
  have hrow := Kd.R_ne (R_reg ho1) hgb (by decide)
  have hc0 := (blk_cell hbox 0).trans rfl
  have hc1 := (blk_cell hbox 1).trans rfl
  have hc2 := (blk_cell hbox 2).trans rfl
  have hc3 := (blk_cell hbox 3).trans rfl
  have hc4 := (blk_cell hbox 4).trans rfl
  have hgc1 := (blk_cell hgb 0).trans rfl
  have hgf1 := blk_frozen hgb 0
  have hg1lt := blk_lt hgb
  have hsz1 := hw1.size
  have HO1 := Aside0.mk ho1
  have HROW := Aside0.mk hrow
  have HGB := Aside0.mk hgb
  have HI := fun (W : World) => ins_calls w0.heap.size (.slice A l.length c) l.length (regPos r.f0 l) (regRow l) W
  have HBX := Aside0.mk hbox
  have HNB := Aside0.mk (show some w.heap.size ≠ (Value.slice A l.length c).ownBlock from fun e => by have := own_lt HO.out w.heap.size e.symm; omega)
  clear hb hbox hgb ho1 hw1 hrow hgc HG HO HB HFA
  have hne1 : gb ≠ w1.heap.size := by omega
  have hne2 : w.heap.size ≠ w1.heap.size := by omega
  go_wp2_with fail
  go_region_law (first | (go_simp; go_at_call 97; refine (HI _ ?ho ?hb (regPos_le _ _) (flat_one regCells_one l) w1.heap.size (regCells r) rfl (regCells_one r) ?hx ?hn hlim).mono ?_; (case ho => exact (HO1.out.alloc _).drew); (case hb => simp; omega); (case hx => exact blk_drew (blk_new _ _)); (case hn => exact fun e => by have := own_lt HO1.out _ e; omega); rintro e w2 ⟨v', rfl, ho2, hg2, hat2⟩; obtain ⟨A2, c2, rfl⟩ := own_slice ho2; have hgb2 := blk_grown (blk_drew (blk_alloc HGB.out _)) hg2 HROW.out; have hz0 := (blk_cell hgb2 0).trans rfl; have hf0 := blk_frozen hgb2 0; have HGB2 := Aside0.mk hgb2; have HO2 := Aside0.mk ho2; have HG2 := Aside0.mk hg2; clear hgb2 ho2 hg2 hat2))
  all_goals
    go_wp2
    go_end0
    refine ⟨rfl, _, blk_set HGB2.out 0 _, ?_, ?_⟩
    · have e1 : (putL l r).length = l.length + 1 := by rw [HP.out]; have := regPos_le r.f0 l; simp; omega
      have e2 : regRow (putL l r) = (regRow l).take (regPos r.f0 l * 5) ++ regCells r ++ (regRow l).drop (regPos r.f0 l * 5) := by
        rw [HP.out]
        unfold regRow
        rw [flat_take (sz := 5) (fun _ => rfl), flat_drop (sz := 5) (fun _ => rfl), List.flatMap_append, List.flatMap_cons, List.append_assoc]
      rw [e1, e2]
      refine own_move HO2.out (fun k hk => Below.heap_setCell _ _ _ _ ?_)
      have q := Kd.R_ne (R_of_cells (d := k26) (ok := fun _ => True) (xs := putL l r) (enc := regCells) regCells_length (fun w base ok x => k26_mkM w base ok x) (by rw [e1]; unfold regRow at e2; rw [e2]; exact HO2.out) (fun _ _ => trivial)) HGB2.out (by decide)
      intro e
      exact q (by rw [hk, e])
    · refine Below.setCell ?_ hbase _
      exact (below_drew (below_alloc' HB1.out _)).grown HG2.out (by simp; omega) (own_base HO1.out)
set_option maxHeartbeats 4000000 in
set_option maxRecDepth 100000 in
theorem put_old (w0 : World) (gb : Nat) (v : Value) (l : List S26) (r : S26) (w : World) (hB : Below w0.heap.size w0 w) (hbase : w0.heap.size ≤ gb) (hg : w.heap[gb]? = some (.cells #[v] 94 (0, 0))) (ho : w.ownsRow w0.heap.size 26 5 v l.length (regRow l)) (hup : RegUp l) (hlim : (l.length + 1) * 56 ≤ 140737488355328)
    (his : regIs r.f0 l = true) :
    Calls Try.prog 87 #[.pointer (some ⟨gb, 0, none⟩), .agg #[.string r.f0, .string r.f1, .int .i64 r.f2, .int .i64 r.f3.f0, .int .i64 r.f3.f1]] w fun e w' => e = .returned (.tuple #[]) ∧ ∃ v', w'.heap[gb]? = some (.cells #[v'] 94 (0, 0)) ∧ w'.ownsRow w0.heap.size 26 5 v' (putL l r).length (regRow (putL l r)) ∧ Below w0.heap.size w0 w' := by
  have hpos : regPos r.f0 l < l.length := by unfold regIs at his; simp at his; exact his.1
  obtain ⟨g, c, rfl, hgb0, hglt0⟩ := ho.form (by omega)
  obtain ⟨A, c', e, hlc, hC⟩ := own_reads_reg ho
  cases e
  have hgc : w.cell? ⟨gb, 0, none⟩ = some (.slice (some ⟨g, 0, none⟩) l.length c) := (blk_cell hg 0).trans rfl
  have hglt := blk_lt hg
  have HF := fun (W : World) (h : Below w.heap.size w W) => reg_find r.f0 (some ⟨g, 0, none⟩) c l W (Kd.C_below hC h) hup (by omega)
  have HFA := Aside0.mk HF
  clear HF
  have hne : gb ≠ w.heap.size := by omega
  have HP := Aside0.mk (show putL l r = if newerB r (rd_T26 l (regPos r.f0 l : Nat)) then l.set (regPos r.f0 l) r else l by simp [putL, his])
  obtain ⟨ad, ead, hx0, hx1, hx2, hx3, hx4⟩ := at_T26 hC (regPos r.f0 l : Nat) (by omega) (by omega)
  cases ead
  simp only [Int.toNat_natCast, add_plain] at hx0 hx1 hx2 hx3 hx4
  have hbx0 := World.block_lt_of_cell? w _ hx0
  have hbx1 := World.block_lt_of_cell? w _ hx1
  have hbx2 := World.block_lt_of_cell? w _ hx2
  have hbx3 := World.block_lt_of_cell? w _ hx3
  have hbx4 := World.block_lt_of_cell? w _ hx4
  have HX := Aside0.mk (And.intro (And.intro hx0 hbx0) (And.intro (And.intro hx1 hbx1) (And.intro (And.intro hx2 hbx2) (And.intro (And.intro hx3 hbx3) (And.intro hx4 hbx4)))))
  clear hx0 hx1 hx2 hx3 hx4 hbx0 hbx1 hbx2 hbx3 hbx4
  have HN := Aside0.mk (fun W => reg_Newer.calls 5 r.f0 r.f1 r.f2 r.f3.f0 r.f3.f1 _ _ _ _ _ _ W (newer_f r (rd_T26 l (regPos r.f0 l : Nat))))
  have HO := Aside0.mk ho
  have HG := Aside0.mk hg
  have HB := Aside0.mk hB
  clear ho hg hB hC hup
  rw [his] at HFA
  go_enter Try.func87, Try.ntmps87
  go_wp2_with fail
  go_region_held3 (fun w' => w'.cell? ⟨gb, 0, none⟩ = some (.slice (some ⟨g, 0, none⟩) l.length c) ∧ w'.cell? ⟨w.heap.size, 0, none⟩ = some (.string r.f0))
    (first
      | go_keep
      | (exact ⟨(hb.cell (p := ⟨gb, 0, none⟩) (by simp; omega)).trans (by go_simp), (hb.cell (p := ⟨w.heap.size, 0, none⟩) (by simp)).trans (by go_simp)⟩))
    (first | (go_at_call 96; refine (HFA.out _ ?hz).mono ?_; (case hz => repeat (first | exact Below.refl _ _ | apply below_alloc | apply pw_below_drewN | apply below_drew)); rintro e w1 ⟨rfl, hb⟩))
  have hw1 : Below w.heap.size w w1 := below_step (below_drew (below_alloc (Below.refl _ _) _)) hb
  have hbox := blk_below (blk_drew (blk_new w (.cells #[.string r.f0, .string r.f1, .int .i64 r.f2, .int .i64 r.f3.f0, .int .i64 r.f3.f1] 26))) hb
  have hboxlt := blk_lt hbox
  have hgb := blk_below HG.out hw1
  have ho1 := pw_own_below HO.out hw1
  have HB1 := Aside0.mk (below_then HB.out HB.out.size hw1)
  have hrow := Kd.R_ne (R_reg ho1) hgb (by decide)
  have hc0 : w1.cell? ⟨w.heap.size, 0, none⟩ = some (.string r.f0) := blk_cell hbox 0
  have hc1 : w1.cell? ⟨w.heap.size, 1, none⟩ = some (.string r.f1) := blk_cell hbox 1
  have hc2 : w1.cell? ⟨w.heap.size, 2, none⟩ = some (.int .i64 r.f2) := blk_cell hbox 2
  have hc3 : w1.cell? ⟨w.heap.size, 3, none⟩ = some (.int .i64 r.f3.f0) := blk_cell hbox 3
  have hc4 : w1.cell? ⟨w.heap.size, 4, none⟩ = some (.int .i64 r.f3.f1) := blk_cell hbox 4
  have hgc1 : w1.cell? ⟨gb, 0, none⟩ = some (.slice (some ⟨g, 0, none⟩) l.length c) := blk_cell hgb 0
  have hg1 : g < w1.heap.size := Nat.lt_of_lt_of_le hglt0 hw1.size
  have hgbl1 : gb < w1.heap.size := Nat.lt_of_lt_of_le hglt hw1.size
  have hx0 := (hw1.cell (p := ⟨g, regPos r.f0 l * 5, none⟩) HX.out.1.2).trans HX.out.1.1
  have hx1 := (hw1.cell (p := ⟨g, regPos r.f0 l * 5 + 1, none⟩) HX.out.2.1.2).trans HX.out.2.1.1
  have hx2 := (hw1.cell (p := ⟨g, regPos r.f0 l * 5 + 2, none⟩) HX.out.2.2.1.2).trans HX.out.2.2.1.1
  have hx3 := (hw1.cell (p := ⟨g, regPos r.f0 l * 5 + 3, none⟩) HX.out.2.2.2.1.2).trans HX.out.2.2.2.1.1
  have hx4 := (hw1.cell (p := ⟨g, regPos r.f0 l * 5 + 4, none⟩) HX.out.2.2.2.2.2).trans HX.out.2.2.2.2.1
  have HO1 := Aside0.mk ho1
  have HROW := Aside0.mk hrow
  have HGB := Aside0.mk hgb
  have HBX := Aside0.mk hbox
  have HNB := Aside0.mk (show some w.heap.size ≠ (Value.slice (some ⟨g, 0, none⟩) l.length c).ownBlock from fun e => by have := own_lt HO.out w.heap.size e.symm; omega)
  have hposI : ((regPos r.f0 l : Nat) : Int) < (l.length : Int) := by omega
  clear hb hbox hgb ho1 hw1 hrow hgc HG HO HB HFA HX
  go_wp2_with fail
  go_region_held3 (fun w' => w'.cell? ⟨gb, 0, none⟩ = some (.slice (some ⟨g, 0, none⟩) l.length c) ∧ w'.cell? ⟨w.heap.size, 0, none⟩ = some (.string r.f0) ∧ w'.cell? ⟨w.heap.size, 1, none⟩ = some (.string r.f1) ∧ w'.cell? ⟨w.heap.size, 2, none⟩ = some (.int .i64 r.f2) ∧ w'.cell? ⟨w.heap.size, 3, none⟩ = some (.int .i64 r.f3.f0) ∧ w'.cell? ⟨w.heap.size, 4, none⟩ = some (.int .i64 r.f3.f1) ∧ w'.cell? ⟨g, regPos r.f0 l * 5, none⟩ = some (.string (rd_T26 l (regPos r.f0 l : Nat)).f0) ∧ w'.cell? ⟨g, regPos r.f0 l * 5 + 1, none⟩ = some (.string (rd_T26 l (regPos r.f0 l : Nat)).f1) ∧ w'.cell? ⟨g, regPos r.f0 l * 5 + 2, none⟩ = some (.int .i64 (rd_T26 l (regPos r.f0 l : Nat)).f2) ∧ w'.cell? ⟨g, regPos r.f0 l * 5 + 3, none⟩ = some (.int .i64 (rd_T26 l (regPos r.f0 l : Nat)).f3.f0) ∧ w'.cell? ⟨g, regPos r.f0 l * 5 + 4, none⟩ = some (.int .i64 (rd_T26 l (regPos r.f0 l : Nat)).f3.f1))
    (first
      | go_keep
      | (exact ⟨(hb.cell (p := ⟨gb, 0, none⟩) (by simp; omega)).trans hgc1, (hb.cell (p := ⟨w.heap.size, 0, none⟩) (by simp; omega)).trans hc0, (hb.cell (p := ⟨w.heap.size, 1, none⟩) (by simp; omega)).trans hc1, (hb.cell (p := ⟨w.heap.size, 2, none⟩) (by simp; omega)).trans hc2, (hb.cell (p := ⟨w.heap.size, 3, none⟩) (by simp; omega)).trans hc3, (hb.cell (p := ⟨w.heap.size, 4, none⟩) (by simp; omega)).trans hc4, (hb.cell (p := ⟨g, regPos r.f0 l * 5, none⟩) (by simp; omega)).trans hx0, (hb.cell (p := ⟨g, regPos r.f0 l * 5 + 1, none⟩) (by simp; omega)).trans hx1, (hb.cell (p := ⟨g, regPos r.f0 l * 5 + 2, none⟩) (by simp; omega)).trans hx2, (hb.cell (p := ⟨g, regPos r.f0 l * 5 + 3, none⟩) (by simp; omega)).trans hx3, (hb.cell (p := ⟨g, regPos r.f0 l * 5 + 4, none⟩) (by simp; omega)).trans hx4⟩))
    (first | (go_at_call 31; refine (HN.out _).mono ?_; rintro e w2 ⟨rfl, hb⟩))
  have hw2 : Below w1.heap.size w1 w2 := below_step (by repeat (first | exact Below.refl _ _ | apply below_alloc | apply pw_below_drewN | apply below_drew)) hb
  have HB2 := Aside0.mk (below_then HB1.out HB1.out.size hw2)
  have HGB2 := Aside0.mk (blk_below HGB.out hw2)
  have HO2 := Aside0.mk (pw_own_below HO1.out hw2)
  have hf : ∀ j, w2.frozen? ⟨g, j, none⟩ = false := fun j => by
    obtain ⟨cells, hcl⟩ := own_typed HO2.out g rfl
    exact blk_frozen hcl j
  have hgne : g ≠ gb := fun e => HROW.out (by rw [← e]; rfl)
  have hgbn : gb ≠ g := fun e => hgne e.symm
  have hwn : w.heap.size ≠ g := by omega
  have hgwn : g ≠ w.heap.size := by omega
  clear hb hw2 HN HBX HNB HB1 HGB HO1 hc0 hc1 hc2 hc3 hc4 hx0 hx1 hx2 hx3 hx4 hgc1
  cases hnw : newerB r (rd_T26 l (regPos r.f0 l : Nat)) with
  | false =>
    have HP2 := Aside0.mk (show putL l r = l by rw [HP.out, hnw]; rfl)
    go_wp2
    go_end0
    exact ⟨rfl, _, HGB2.out, by rw [HP2.out]; exact HO2.out, HB2.out⟩
  | true =>
    have HP2 := Aside0.mk (show putL l r = l.set (regPos r.f0 l) r by rw [HP.out, hnw]; rfl)
    have hf0 := hf (regPos r.f0 l * 5)
    have hf1 := hf (regPos r.f0 l * 5 + 1)
    have hf2 := hf (regPos r.f0 l * 5 + 2)
    have hf3 := hf (regPos r.f0 l * 5 + 3)
    have hf4 := hf (regPos r.f0 l * 5 + 4)
    clear hf
    go_split_ands
    go_wp2_with fail
    go_region
    go_wp2
    go_end0
    refine ⟨rfl, _, blk_drew (blk_far (blk_far (blk_far (blk_far (blk_far HGB2.out (show gb ≠ g from hgbn) _) (show gb ≠ g from hgbn) _) (show gb ≠ g from hgbn) _) (show gb ≠ g from hgbn) _) (show gb ≠ g from hgbn) _), ?_, ?_⟩
    · rw [HP2.out, List.length_set, regRow_set l (regPos r.f0 l) r hpos]
      exact ((((((HO2.out.stored (regPos r.f0 l * 5) (.string r.f0)).1.stored (regPos r.f0 l * 5 + 1) (.string r.f1)).1.stored (regPos r.f0 l * 5 + 2) (.int .i64 r.f2)).1.stored (regPos r.f0 l * 5 + 3) (.int .i64 r.f3.f0)).1.stored (regPos r.f0 l * 5 + 4) (.int .i64 r.f3.f1)).1).drew
    · exact below_drew (Below.setCell (Below.setCell (Below.setCell (Below.setCell (Below.setCell HB2.out hgb0 _) hgb0 _) hgb0 _) hgb0 _) hgb0 _)
/-- reg.regs.put: a register put into rising ones -/
theorem put_calls (w0 : World) (gb : Nat) (v : Value) (l : List S26) (r : S26) (w : World) (hB : Below w0.heap.size w0 w) (hbase : w0.heap.size ≤ gb) (hg : w.heap[gb]? = some (.cells #[v] 94 (0, 0))) (ho : w.ownsRow w0.heap.size 26 5 v l.length (regRow l)) (hup : RegUp l) (hlim : (l.length + 1) * 56 ≤ 140737488355328) :
    Calls Try.prog 87 #[.pointer (some ⟨gb, 0, none⟩), .agg #[.string r.f0, .string r.f1, .int .i64 r.f2, .int .i64 r.f3.f0, .int .i64 r.f3.f1]] w fun e w' => e = .returned (.tuple #[]) ∧ ∃ v', w'.heap[gb]? = some (.cells #[v'] 94 (0, 0)) ∧ w'.ownsRow w0.heap.size 26 5 v' (putL l r).length (regRow (putL l r)) ∧ Below w0.heap.size w0 w' := by
  cases his : regIs r.f0 l with
  | false => exact put_new w0 gb v l r w hB hbase hg ho hup hlim his
  | true => exact put_old w0 gb v l r w hB hbase hg ho hup hlim his
end Go.Proofs.Ytannmdngejdjkaa.L
