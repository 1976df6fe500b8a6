/- ctr.Inc: counts in which a key counts more; ctr.Merge: what two come to that come from a third one. By hand. -/
import Derived.Test.YtannmdngejdjkaaLHCtrSorted
import Derived.Test.YtannmdngejdjkaaLHCtrMay
namespace Go.Proofs.Ytannmdngejdjkaa.L
open Go.RowKit Go.Maps Go.Sort Go.Proofs.YtannmdngejdjkaaW.PrintWords Go.Proofs.YtannmdngejdjkaaW.PrintLast Go.Proofs.YtannmdngejdjkaaW.PrintMore Go.Proofs.YtannmdngejdjkaaW
set_option linter.unusedVariables false
set_option linter.unusedSimpArgs false
theorem own_lower' {w : World} {base base' : Nat} {e : TypeId} {size n : Nat} {v : Value} {xs : List Value} (h : w.ownsRow base e size v n xs) (hb : base' ≤ base) : w.ownsRow base' e size v n xs := by
  obtain ⟨h1, h2⟩ := h
  refine ⟨h1, ?_⟩
  rcases h2 with h2 | ⟨g, cap, cur, rfl, hg, hh, r⟩
  · exact .inl h2
  · exact .inr ⟨g, cap, cur, rfl, Nat.le_trans hb hg, hh, r⟩
theorem ctrCells_length (x : S53) : (ctrCells x).length = k53.sz := rfl
theorem R_ctr {w : World} {base : Nat} {v : Value} {xs : List S53} (h : w.ownsRow base 53 2 v xs.length (ctrRow xs)) : k53.R 53 w base (fun _ => True) v xs :=
  R_of_cells (d := k53) (enc := ctrCells) ctrCells_length (fun w base ok x => k53_mkM w base ok x) h (fun _ _ => trivial)
set_option maxHeartbeats 1000000 in
set_option maxRecDepth 100000 in
/-- ctr.sums.list -/
theorem list_calls (gb n : Nat) (es : MapL) (w : World) (hown : OwnsM w gb n es) (hup : es.Pairwise mLt) (hlim : es.length * 32 ≤ 140737488355328) :
    Calls Try.prog 71 #[.map (some gb)] w fun e w' => ∃ v, e = .returned v ∧ w'.ownsRow w.heap.size 53 2 v (outM es).length (ctrRow (outM es)) ∧ Below w.heap.size w w' := by
  have H := Aside0.mk (sorted_calls gb n es w hown hup hlim)
  clear hown hup hlim
  go_enter Try.func71, Try.ntmps71
  go_wp2_with fail
  refine H.out.mono ?_
  rintro e w1 ⟨v, rfl, ho, hb⟩
  obtain ⟨A', c', rfl⟩ := own_slice ho
  have HO := Aside0.mk ho
  have HB := Aside0.mk hb
  clear ho hb
  go_wp2
  go_ret
  exact ⟨_, rfl, HO.out, HB.out⟩
def smallC (l : List Ct) : Bool := decide ((l.length + 1) * 256 ≤ 140737488351232) && l.all (fun x => kSmall x.f0)
theorem smallC_len {l : List Ct} (h : smallC l = true) : (l.length + 1) * 256 ≤ 140737488351232 := by
  unfold smallC at h; simp at h; exact h.1
theorem smallC_all {l : List Ct} (h : smallC l = true) : ∀ x ∈ l, kSmall x.f0 = true := by
  unfold smallC at h; simp at h; exact h.2
theorem kSmall_le {a : ByteArray} (h : kSmall a = true) : a.size ≤ maxLen := by
  unfold kSmall at h; simp at h; unfold maxLen; omega
def incO (l : List Ct) (key : ByteArray) (n : Int) : List Ct := if mayC l && keyB key.data.toList then outM (incM (addM 1 [] l) key n) else []
def ctr_Inc.f (l0 : List (S53)) (a1 : ByteArray) (a2 : Int) : Option ((List (S53))) :=
  if smallC l0 = true ∧ kSmall a1 = true then some (incO l0 a1 a2) else none
set_option maxHeartbeats 4000000 in
set_option maxRecDepth 100000 in
theorem ctr_Inc.calls (A0 : Option Addr) (c0 : Nat) (l0 : List (S53)) (a1 : ByteArray) (a2 : Int) (r : List (S53)) (w : World) (hr0 : Kd.C k53 w A0 l0.length l0) (hc0 : l0.length ≤ c0) (h : ctr_Inc.f l0 a1 a2 = some r) :
    Calls Try.prog 37 #[.slice A0 l0.length c0, .string a1, .int .i64 a2] w fun e w' => ∃ v0_ : Value, e = .returned (v0_) ∧ Kd.R k53 53 w' w.heap.size (fun _ => True) v0_ r ∧ Below w.heap.size w w' := by
  unfold ctr_Inc.f at h
  split at h
  case isFalse => cases h
  case isTrue hh =>
  cases h
  have hlen := smallC_len hh.1
  have hl64 : l0.length < 4611686018427387904 := by omega
  have HMAY := Aside0.mk (ctr_May.calls (l0.length + 1) A0 c0 l0 (mayC l0) w hr0 hc0 (mayC_f (l0.length + 1) l0 (by omega) hl64 (smallC_all hh.1)))
  have HKEY := Aside0.mk (fun (W : World) => ops_Key.calls a1 _ W (keyS hh.2))
  have HR := Aside0.mk hr0
  have HS := Aside0.mk (smallC_all hh.1)
  have HA := Aside0.mk (kSmall_le hh.2)
  clear hr0 hh
  have hum := Try.underlying79
  have hmm := @run_makeMap Try.prog
  go_enter Try.func37, Try.ntmps37
  go_wp2_with fail
  refine HMAY.out.mono ?_
  rintro e w1 ⟨rfl, hb1⟩
  have HB1 := Aside0.mk hb1
  clear hb1 HMAY
  cases hm : mayC l0 with
  | false =>
    have HI := Aside0.mk (show incO l0 a1 a2 = [] by simp [incO, hm])
    clear hm
    go_wp2
    go_ret
    exact ⟨_, rfl, by rw [HI.out]; exact Kd.R_nil _ _ _ _ _, HB1.out⟩
  | true =>
    go_wp2_with fail
    refine (HKEY.out _).mono ?_
    rintro e w2 ⟨rfl, hd2⟩
    have HB2 := Aside0.mk (below_then HB1.out HB1.out.size (Drawn0.below hd2))
    clear hd2 HB1 HKEY
    cases hkb : keyB a1.data.toList with
    | false =>
      have HI := Aside0.mk (show incO l0 a1 a2 = [] by simp [incO, hkb])
      clear hm hkb
      go_wp2
      go_ret
      exact ⟨_, rfl, by rw [HI.out]; exact Kd.R_nil _ _ _ _ _, HB2.out⟩
    | true =>
      have HI := Aside0.mk (show incO l0 a1 a2 = outM (incM (addM 1 [] l0) a1 a2) by simp [incO, hkb, hm])
      clear hm hkb
      have hw2 := HB2.out.size
      have hlm : 0 + l0.length ≤ maxLen := by unfold maxLen; omega
      have HADD := Aside0.mk (sums_add w w2.heap.size 0 [] A0 c0 l0 1 (w2.alloc (.map #[] 0)) (below_alloc HB2.out _) hw2 (World.ownsMap_made w2 Try.prog 9 (plainElem (H := Unit) Try.prog 3)) List.Pairwise.nil HR.out hlm (fun x hx => kSmall_le (HS.out x hx)))
      go_wp2_with fail
      refine HADD.out.mono ?_
      rintro e w3 ⟨rfl, ho3, hb3⟩
      have HO3 := Aside0.mk ho3
      have HB3 := Aside0.mk hb3
      have hkl := HA.out
      have hn3 : 0 + l0.length < maxLen := by unfold maxLen; omega
      have hlenA := addM_len 1 l0 []
      have HUPA := Aside0.mk (addM_up 1 l0 [] List.Pairwise.nil)
      clear ho3 hb3 HADD hmm
      go_wp2_with (first
        | (at_lookup; refine wpList_lookup_own_int _ rfl _ _ 79 rfl 9 3 .i64 lawS Try.underlying79 Try.underlying3 (zeroI _) w2.heap.size _ _ rfl HO3.out _ _ rfl (Go.WideMaps.keyOf_string_mk Try.underlying9 hkl) ?_; intro c hat hwc; have HC := Aside0.mk hat; clear hat hwc)
        | (at_mapUpdate; refine wpList_mapUpdate_own _ rfl _ _ _ 79 rfl 9 3 lawS Try.underlying79 _ w2.heap.size _ _ rfl HO3.out hn3 _ _ _ rfl rfl (Go.WideMaps.keyOf_string_mk Try.underlying9 hkl) _ [] (plainElem_int Try.underlying3 (wrap64_wf _)) ?_; intro w4 hown4 hgrow4; have HO4 := Aside0.mk hown4; have HG4 := Aside0.mk hgrow4; clear hown4 hgrow4))
      have HO5 : Aside0 (OwnsM w4 w2.heap.size (0 + l0.length + 1) (incM (addM 1 [] l0) a1 a2)) := by
        have h1 := HO4.out
        have h2 := HC.out
        rw [at_dat] at h2
        injection h2 with h2
        injection h2 with _ h2
        rw [put_dat _ _ HUPA.out] at h1
        unfold incM
        rw [h2]
        exact ⟨h1⟩
      have HB5 := Aside0.mk (HB3.out.grown HG4.out HB3.out.size (fun j hj => by simp at hj; subst hj; exact hw2))
      have hlenI : (incM (addM 1 [] l0) a1 a2).length * 32 ≤ 140737488355328 := by
        have h1 := setM_len (addM 1 [] l0) a1 (wrap64 (getM (addM 1 [] l0) a1 + a2))
        have h2 : (incM (addM 1 [] l0) a1 a2).length ≤ l0.length + 1 := by
          unfold incM
          simp only [List.length_nil] at hlenA
          omega
        exact Nat.le_trans (Nat.mul_le_mul_right 32 h2) (by omega)
      have HL := Aside0.mk (list_calls w2.heap.size _ (incM (addM 1 [] l0) a1 a2) w4 HO5.out (incM_up _ _ HUPA.out) hlenI)
      clear HO4 HG4 HC HO3 HB3 HO5 hlenA hlenI
      go_wp2_with fail
      refine HL.out.mono ?_
      rintro e w5 ⟨v, rfl, ho5, hb5⟩
      obtain ⟨A', c', rfl⟩ := own_slice ho5
      have HO6 := Aside0.mk (own_lower' ho5 HB5.out.size)
      have HB6 := Aside0.mk (below_step HB5.out hb5)
      clear ho5 hb5 HL HB5
      go_wp2
      go_ret
      exact ⟨_, rfl, by rw [HI.out]; exact R_ctr HO6.out, HB6.out⟩
end Go.Proofs.Ytannmdngejdjkaa.L
