/- Several of the walk's texts in one: Sx0, SHRow, SMapS, SHSums, SHFlat, ShelfS. -/
import Derived.Test.YtmcddoolniaehaaGreatProg
import Derived.Below
import Derived.Deep.Draws
import Derived.Deep.AppendLies
import Derived.Maps.AppendAt
import Derived.OwnWalk
import Derived.Laws.BytesArg
import Derived.Laws.MakeOwn
import Derived.Laws.OwnMore
import Derived.Deep.OwnRows
import Derived.Tactics
import Derived.Lib.ConvBytes
import Derived.Laws.Slices
import Derived.WalkKit
import Derived.KernelRfl
import Derived.RowKit3
import Derived.Deep.LoopGhost
import Derived.Deep.QuietTactic
import Derived.BigQuiet
import Derived.WideLaws
import Derived.Deep.DeepCutAuto
import Derived.Deep.CutBlock
import Derived.Deep.RegionHeld3
import Derived.Laws.Rows
import Derived.Lib.AppendStr
import Derived.ArgAppend
import Derived.Laws.IdiomCopy
import Derived.OrdersHeld
import Derived.Laws.BitsLemmas
import Derived.RowKit
import Derived.Test.YtmcddoolniaehaaGreatRows
import Derived.ProofKit
import Derived.OpenShut
import Derived.ShutString
import Derived.ChangeOld
import Derived.SizedLaws
import Derived.Carry
import Derived.Deep.Slices
import Derived.Maps.Own
import Derived.Maps.OwnOps
import Derived.Sort.KeysCollected
import Derived.Shelf.Sort.Plain
import Derived.Shelf.Slices.CompactS
import Derived.Shelf.Slices.Cells
import Derived.Shelf.Slices.In.SortNone
import Derived.Test.YtmcddoolniaehaaGreatMD01
import Derived.Test.YtmcddoolniaehaaGreatMD02
import Derived.Test.YtmcddoolniaehaaGreatMD03
section
namespace Go.Proofs.YtmcddoolniaehaaGreat.S
open Go.RowKit Go.Proofs.YtmcddoolniaehaaGreatW.PrintWords Go.Proofs.YtmcddoolniaehaaGreatW.PrintLast Go.Proofs.YtmcddoolniaehaaGreatW.PrintMore
attribute [local go_sem] max2_int min2_int max_two min_two max_three min_three max_four min_four   -- for this text's walks alone
set_option linter.unusedVariables false
set_option linter.unusedSimpArgs false



def errW : Option Int → Value
 | none => .nilIface
 | some c => .iface 0 (.int .i64 c)
theorem errW_none : errW none = .nilIface := rfl
theorem errW_some (c : Int) : errW (some c) = .iface 0 (.int .i64 c) := rfl

theorem info3 : (Tryz.prog.info? 3).map (fun i => (i.zero, i.size, i.bytes)) = some (some (.int .i64 0), 1, 8) := by kernel_rfl
theorem info5 : (Tryz.prog.info? 5).map (fun i => (i.zero, i.size, i.bytes)) = some (some (.int .u8 0), 1, 1) := by kernel_rfl
theorem info47 : (Tryz.prog.info? 47).map (fun i => (i.zero, i.size, i.bytes)) = some (some (.agg #[(.string ⟨#[]⟩), (.string ⟨#[]⟩), (.int .i64 0), (.int .i64 0), (.int .i64 0)]), 5, 56) := by kernel_rfl
theorem info73 : (Tryz.prog.info? 73).map (fun i => (i.zero, i.size, i.bytes)) = some (some (.agg #[(.string ⟨#[]⟩), (.int .i64 0)]), 2, 24) := by kernel_rfl
structure S73 where
 f0 : ByteArray
 f1 : Int
def z73 : S73 := ⟨(⟨#[]⟩ : ByteArray), (0 : Int)⟩
def k73 : Kd S73 := Kd.iso (Kd.pair Kd.string (Kd.int .i64)) (fun x : S73 => (x.f0, x.f1))
theorem k73_open {w : World} {x : S73} {cs : List Value} (h : k73.K w x cs) : cs = [.string x.f0, .int .i64 x.f1] := by
 obtain ⟨_, _, rfl, rfl, rfl⟩ := h
 exact rfl
theorem k73_openM {w : World} {base : Nat} {ok : Nat → Prop} {x : S73} {cs : List Value} (h : k73.M w base ok x cs) : cs = [.string x.f0, .int .i64 x.f1] := by
 obtain ⟨_, _, rfl, rfl, rfl⟩ := h
 exact rfl
theorem k73_mk (w : World) (x : S73)  : k73.K w x [.string x.f0, .int .i64 x.f1] := ⟨[.string x.f0], [.int .i64 x.f1], rfl, rfl, rfl⟩
theorem k73_mkM (w : World) (base : Nat) (ok : Nat → Prop) (x : S73)  : k73.M w base ok x [.string x.f0, .int .i64 x.f1] := ⟨[.string x.f0], [.int .i64 x.f1], rfl, rfl, rfl⟩
def rd_T73 (xs : List S73) (i : Int) : S73 := xs.getD i.toNat z73
theorem at_T73 {w : World} {A : Option Addr} {n : Nat} {xs : List S73} (h : Kd.C k73 w A n xs) (i : Int) (h0 : 0 ≤ i) (h1 : i < n) : ∃ ad , A = some ad ∧ w.cell? (ad.add (i.toNat * 2)) = some (.string (rd_T73 xs i).f0) ∧ w.cell? ⟨(ad.add (i.toNat * 2)).block, (ad.add (i.toNat * 2)).off + 1, none⟩ = some (.int .i64 (rd_T73 xs i).f1) := by
 obtain ⟨ad, c, e, _, hK, hc0⟩ := Kd.C_get h z73 i h0 h1
 have hc : ∀ j u, c[j]? = some u → w.cell? (ad.add (i.toNat * 2 + j)) = some u := hc0
 obtain rfl := k73_open hK
 exact ⟨ad, e, hc 0 _ rfl, by rw [← add_field _ _ 1 (by omega)]; exact hc 1 _ rfl⟩

def rd_L4 (xs : List (List S73)) (i : Int) : (List S73) := xs.getD i.toNat ([] : List S73)
theorem at_L4 {w : World} {A : Option Addr} {n : Nat} {xs : List (List S73)} (h : Kd.C (Kd.slice 73 k73) w A n xs) (i : Int) (h0 : 0 ≤ i) (h1 : i < n) : ∃ ad A0 c0, A = some ad ∧ w.cell? (ad.add i.toNat) = some (.slice A0 (rd_L4 xs i).length c0) ∧ (rd_L4 xs i).length ≤ c0 ∧ k73.C w A0 (rd_L4 xs i).length (rd_L4 xs i) := by
 obtain ⟨ad, c, e, _, hK, hc0⟩ := Kd.C_get h ([] : List S73) i h0 h1
 have hc : ∀ j u, c[j]? = some u → w.cell? (ad.add (i.toNat * 1 + j)) = some u := hc0
 obtain ⟨A0, c0, rfl, l0, g0⟩ := hK
 exact ⟨ad, A0, c0, e, by have hq := hc 0 _ rfl; rwa [Nat.mul_one, Nat.add_zero] at hq, l0, g0⟩

structure S30 where
 f0 : Int
 f1 : Int
def z30 : S30 := ⟨(0 : Int), (0 : Int)⟩
def k30 : Kd S30 := Kd.iso (Kd.pair (Kd.int .i64) (Kd.int .i64)) (fun x : S30 => (x.f0, x.f1))
theorem k30_open {w : World} {x : S30} {cs : List Value} (h : k30.K w x cs) : cs = [.int .i64 x.f0, .int .i64 x.f1] := by
 obtain ⟨_, _, rfl, rfl, rfl⟩ := h
 exact rfl
theorem k30_openM {w : World} {base : Nat} {ok : Nat → Prop} {x : S30} {cs : List Value} (h : k30.M w base ok x cs) : cs = [.int .i64 x.f0, .int .i64 x.f1] := by
 obtain ⟨_, _, rfl, rfl, rfl⟩ := h
 exact rfl
theorem k30_mk (w : World) (x : S30)  : k30.K w x [.int .i64 x.f0, .int .i64 x.f1] := ⟨[.int .i64 x.f0], [.int .i64 x.f1], rfl, rfl, rfl⟩
theorem k30_mkM (w : World) (base : Nat) (ok : Nat → Prop) (x : S30)  : k30.M w base ok x [.int .i64 x.f0, .int .i64 x.f1] := ⟨[.int .i64 x.f0], [.int .i64 x.f1], rfl, rfl, rfl⟩
def rd_T30 (xs : List S30) (i : Int) : S30 := xs.getD i.toNat z30
theorem at_T30 {w : World} {A : Option Addr} {n : Nat} {xs : List S30} (h : Kd.C k30 w A n xs) (i : Int) (h0 : 0 ≤ i) (h1 : i < n) : ∃ ad , A = some ad ∧ w.cell? (ad.add (i.toNat * 2)) = some (.int .i64 (rd_T30 xs i).f0) ∧ w.cell? ⟨(ad.add (i.toNat * 2)).block, (ad.add (i.toNat * 2)).off + 1, none⟩ = some (.int .i64 (rd_T30 xs i).f1) := by
 obtain ⟨ad, c, e, _, hK, hc0⟩ := Kd.C_get h z30 i h0 h1
 have hc : ∀ j u, c[j]? = some u → w.cell? (ad.add (i.toNat * 2 + j)) = some u := hc0
 obtain rfl := k30_open hK
 exact ⟨ad, e, hc 0 _ rfl, by rw [← add_field _ _ 1 (by omega)]; exact hc 1 _ rfl⟩

structure S47 where
 f0 : ByteArray
 f1 : ByteArray
 f2 : Int
 f3 : S30
def z47 : S47 := ⟨(⟨#[]⟩ : ByteArray), (⟨#[]⟩ : ByteArray), (0 : Int), z30⟩
def k47 : Kd S47 := Kd.iso (Kd.pair Kd.string (Kd.pair Kd.string (Kd.pair (Kd.int .i64) k30))) (fun x : S47 => (x.f0, x.f1, x.f2, x.f3))
theorem k47_open {w : World} {x : S47} {cs : List Value} (h : k47.K w x cs) : cs = [.string x.f0, .string x.f1, .int .i64 x.f2, .int .i64 x.f3.f0, .int .i64 x.f3.f1] := by
 obtain ⟨_, _, rfl, rfl, ⟨_, _, rfl, rfl, ⟨_, _, rfl, rfl, s3⟩⟩⟩ := h
 obtain rfl := k30_open s3
 exact rfl
theorem k47_openM {w : World} {base : Nat} {ok : Nat → Prop} {x : S47} {cs : List Value} (h : k47.M w base ok x cs) : cs = [.string x.f0, .string x.f1, .int .i64 x.f2, .int .i64 x.f3.f0, .int .i64 x.f3.f1] := by
 obtain ⟨_, _, rfl, rfl, ⟨_, _, rfl, rfl, ⟨_, _, rfl, rfl, s3⟩⟩⟩ := h
 obtain rfl := k30_openM s3
 exact rfl
theorem k47_mk (w : World) (x : S47)  : k47.K w x [.string x.f0, .string x.f1, .int .i64 x.f2, .int .i64 x.f3.f0, .int .i64 x.f3.f1] := ⟨[.string x.f0], [.string x.f1, .int .i64 x.f2, .int .i64 x.f3.f0, .int .i64 x.f3.f1], rfl, rfl, ⟨[.string x.f1], [.int .i64 x.f2, .int .i64 x.f3.f0, .int .i64 x.f3.f1], rfl, rfl, ⟨[.int .i64 x.f2], [.int .i64 x.f3.f0, .int .i64 x.f3.f1], rfl, rfl, (k30_mk w x.f3 )⟩⟩⟩
theorem k47_mkM (w : World) (base : Nat) (ok : Nat → Prop) (x : S47)  : k47.M w base ok x [.string x.f0, .string x.f1, .int .i64 x.f2, .int .i64 x.f3.f0, .int .i64 x.f3.f1] := ⟨[.string x.f0], [.string x.f1, .int .i64 x.f2, .int .i64 x.f3.f0, .int .i64 x.f3.f1], rfl, rfl, ⟨[.string x.f1], [.int .i64 x.f2, .int .i64 x.f3.f0, .int .i64 x.f3.f1], rfl, rfl, ⟨[.int .i64 x.f2], [.int .i64 x.f3.f0, .int .i64 x.f3.f1], rfl, rfl, (k30_mkM w base ok x.f3 )⟩⟩⟩
def rd_T47 (xs : List S47) (i : Int) : S47 := xs.getD i.toNat z47
theorem at_T47 {w : World} {A : Option Addr} {n : Nat} {xs : List S47} (h : Kd.C k47 w A n xs) (i : Int) (h0 : 0 ≤ i) (h1 : i < n) : ∃ ad , A = some ad ∧ w.cell? (ad.add (i.toNat * 5)) = some (.string (rd_T47 xs i).f0) ∧ w.cell? ⟨(ad.add (i.toNat * 5)).block, (ad.add (i.toNat * 5)).off + 1, none⟩ = some (.string (rd_T47 xs i).f1) ∧ w.cell? ⟨(ad.add (i.toNat * 5)).block, (ad.add (i.toNat * 5)).off + 2, none⟩ = some (.int .i64 (rd_T47 xs i).f2) ∧ w.cell? ⟨(ad.add (i.toNat * 5)).block, (ad.add (i.toNat * 5)).off + 3, none⟩ = some (.int .i64 (rd_T47 xs i).f3.f0) ∧ w.cell? ⟨(ad.add (i.toNat * 5)).block, (ad.add (i.toNat * 5)).off + 4, none⟩ = some (.int .i64 (rd_T47 xs i).f3.f1) := by
 obtain ⟨ad, c, e, _, hK, hc0⟩ := Kd.C_get h z47 i h0 h1
 have hc : ∀ j u, c[j]? = some u → w.cell? (ad.add (i.toNat * 5 + j)) = some u := hc0
 obtain rfl := k47_open hK
 exact ⟨ad, e, hc 0 _ rfl, by rw [← add_field _ _ 1 (by omega)]; exact hc 1 _ rfl, by rw [← add_field _ _ 2 (by omega)]; exact hc 2 _ rfl, by rw [← add_field _ _ 3 (by omega)]; exact hc 3 _ rfl, by rw [← add_field _ _ 4 (by omega)]; exact hc 4 _ rfl⟩

def rd_L7 (xs : List (List S47)) (i : Int) : (List S47) := xs.getD i.toNat ([] : List S47)
theorem at_L7 {w : World} {A : Option Addr} {n : Nat} {xs : List (List S47)} (h : Kd.C (Kd.slice 47 k47) w A n xs) (i : Int) (h0 : 0 ≤ i) (h1 : i < n) : ∃ ad A0 c0, A = some ad ∧ w.cell? (ad.add i.toNat) = some (.slice A0 (rd_L7 xs i).length c0) ∧ (rd_L7 xs i).length ≤ c0 ∧ k47.C w A0 (rd_L7 xs i).length (rd_L7 xs i) := by
 obtain ⟨ad, c, e, _, hK, hc0⟩ := Kd.C_get h ([] : List S47) i h0 h1
 have hc : ∀ j u, c[j]? = some u → w.cell? (ad.add (i.toNat * 1 + j)) = some u := hc0
 obtain ⟨A0, c0, rfl, l0, g0⟩ := hK
 exact ⟨ad, A0, c0, e, by have hq := hc 0 _ rfl; rwa [Nat.mul_one, Nat.add_zero] at hq, l0, g0⟩

structure S43 where
 f0 : ByteArray
 f1 : ByteArray
 f2 : S30
def z43 : S43 := ⟨(⟨#[]⟩ : ByteArray), (⟨#[]⟩ : ByteArray), z30⟩
def k43 : Kd S43 := Kd.iso (Kd.pair Kd.string (Kd.pair Kd.string k30)) (fun x : S43 => (x.f0, x.f1, x.f2))
theorem k43_open {w : World} {x : S43} {cs : List Value} (h : k43.K w x cs) : cs = [.string x.f0, .string x.f1, .int .i64 x.f2.f0, .int .i64 x.f2.f1] := by
 obtain ⟨_, _, rfl, rfl, ⟨_, _, rfl, rfl, s2⟩⟩ := h
 obtain rfl := k30_open s2
 exact rfl
theorem k43_openM {w : World} {base : Nat} {ok : Nat → Prop} {x : S43} {cs : List Value} (h : k43.M w base ok x cs) : cs = [.string x.f0, .string x.f1, .int .i64 x.f2.f0, .int .i64 x.f2.f1] := by
 obtain ⟨_, _, rfl, rfl, ⟨_, _, rfl, rfl, s2⟩⟩ := h
 obtain rfl := k30_openM s2
 exact rfl
theorem k43_mk (w : World) (x : S43)  : k43.K w x [.string x.f0, .string x.f1, .int .i64 x.f2.f0, .int .i64 x.f2.f1] := ⟨[.string x.f0], [.string x.f1, .int .i64 x.f2.f0, .int .i64 x.f2.f1], rfl, rfl, ⟨[.string x.f1], [.int .i64 x.f2.f0, .int .i64 x.f2.f1], rfl, rfl, (k30_mk w x.f2 )⟩⟩
theorem k43_mkM (w : World) (base : Nat) (ok : Nat → Prop) (x : S43)  : k43.M w base ok x [.string x.f0, .string x.f1, .int .i64 x.f2.f0, .int .i64 x.f2.f1] := ⟨[.string x.f0], [.string x.f1, .int .i64 x.f2.f0, .int .i64 x.f2.f1], rfl, rfl, ⟨[.string x.f1], [.int .i64 x.f2.f0, .int .i64 x.f2.f1], rfl, rfl, (k30_mkM w base ok x.f2 )⟩⟩
def rd_T43 (xs : List S43) (i : Int) : S43 := xs.getD i.toNat z43
theorem at_T43 {w : World} {A : Option Addr} {n : Nat} {xs : List S43} (h : Kd.C k43 w A n xs) (i : Int) (h0 : 0 ≤ i) (h1 : i < n) : ∃ ad , A = some ad ∧ w.cell? (ad.add (i.toNat * 4)) = some (.string (rd_T43 xs i).f0) ∧ w.cell? ⟨(ad.add (i.toNat * 4)).block, (ad.add (i.toNat * 4)).off + 1, none⟩ = some (.string (rd_T43 xs i).f1) ∧ w.cell? ⟨(ad.add (i.toNat * 4)).block, (ad.add (i.toNat * 4)).off + 2, none⟩ = some (.int .i64 (rd_T43 xs i).f2.f0) ∧ w.cell? ⟨(ad.add (i.toNat * 4)).block, (ad.add (i.toNat * 4)).off + 3, none⟩ = some (.int .i64 (rd_T43 xs i).f2.f1) := by
 obtain ⟨ad, c, e, _, hK, hc0⟩ := Kd.C_get h z43 i h0 h1
 have hc : ∀ j u, c[j]? = some u → w.cell? (ad.add (i.toNat * 4 + j)) = some u := hc0
 obtain rfl := k43_open hK
 exact ⟨ad, e, hc 0 _ rfl, by rw [← add_field _ _ 1 (by omega)]; exact hc 1 _ rfl, by rw [← add_field _ _ 2 (by omega)]; exact hc 2 _ rfl, by rw [← add_field _ _ 3 (by omega)]; exact hc 3 _ rfl⟩

def rd_L9 (xs : List (List S43)) (i : Int) : (List S43) := xs.getD i.toNat ([] : List S43)
theorem at_L9 {w : World} {A : Option Addr} {n : Nat} {xs : List (List S43)} (h : Kd.C (Kd.slice 43 k43) w A n xs) (i : Int) (h0 : 0 ≤ i) (h1 : i < n) : ∃ ad A0 c0, A = some ad ∧ w.cell? (ad.add i.toNat) = some (.slice A0 (rd_L9 xs i).length c0) ∧ (rd_L9 xs i).length ≤ c0 ∧ k43.C w A0 (rd_L9 xs i).length (rd_L9 xs i) := by
 obtain ⟨ad, c, e, _, hK, hc0⟩ := Kd.C_get h ([] : List S43) i h0 h1
 have hc : ∀ j u, c[j]? = some u → w.cell? (ad.add (i.toNat * 1 + j)) = some u := hc0
 obtain ⟨A0, c0, rfl, l0, g0⟩ := hK
 exact ⟨ad, A0, c0, e, by have hq := hc 0 _ rfl; rwa [Nat.mul_one, Nat.add_zero] at hq, l0, g0⟩

structure S26 where
 f0 : (List S73)
 f1 : (List S47)
 f2 : (List S43)
def z26 : S26 := ⟨([] : List S73), ([] : List S47), ([] : List S43)⟩
def k26 : Kd S26 := Kd.iso (Kd.pair (Kd.slice 73 k73) (Kd.pair (Kd.slice 47 k47) (Kd.slice 43 k43))) (fun x : S26 => (x.f0, x.f1, x.f2))
theorem k26_open {w : World} {x : S26} {cs : List Value} (h : k26.K w x cs) : ∃ A0 c0 A1 c1 A2 c2, cs = [.slice A0 x.f0.length c0, .slice A1 x.f1.length c1, .slice A2 x.f2.length c2] ∧ x.f0.length ≤ c0 ∧ k73.C w A0 x.f0.length x.f0 ∧ x.f1.length ≤ c1 ∧ k47.C w A1 x.f1.length x.f1 ∧ x.f2.length ≤ c2 ∧ k43.C w A2 x.f2.length x.f2 := by
 obtain ⟨_, _, rfl, ⟨A0, c0, rfl, l0, g0⟩, ⟨_, _, rfl, ⟨A1, c1, rfl, l1, g1⟩, ⟨A2, c2, rfl, l2, g2⟩⟩⟩ := h
 exact ⟨A0, c0, A1, c1, A2, c2, rfl, l0, g0, l1, g1, l2, g2⟩
theorem k26_openM {w : World} {base : Nat} {ok : Nat → Prop} {x : S26} {cs : List Value} (h : k26.M w base ok x cs) : ∃ v0 v1 v2, cs = [v0, v1, v2] ∧ k73.R 73 w base ok v0 x.f0 ∧ k47.R 47 w base ok v1 x.f1 ∧ k43.R 43 w base ok v2 x.f2 := by
 obtain ⟨_, _, rfl, ⟨v0, rfl, g0⟩, ⟨_, _, rfl, ⟨v1, rfl, g1⟩, ⟨v2, rfl, g2⟩⟩⟩ := h
 exact ⟨v0, v1, v2, rfl, g0, g1, g2⟩
theorem k26_mk (w : World) (x : S26) {A0 : Option Addr} {c0 : Nat} (l0 : x.f0.length ≤ c0) (g0 : k73.C w A0 x.f0.length x.f0) {A1 : Option Addr} {c1 : Nat} (l1 : x.f1.length ≤ c1) (g1 : k47.C w A1 x.f1.length x.f1) {A2 : Option Addr} {c2 : Nat} (l2 : x.f2.length ≤ c2) (g2 : k43.C w A2 x.f2.length x.f2) : k26.K w x [.slice A0 x.f0.length c0, .slice A1 x.f1.length c1, .slice A2 x.f2.length c2] := ⟨[.slice A0 x.f0.length c0], [.slice A1 x.f1.length c1, .slice A2 x.f2.length c2], rfl, ⟨A0, c0, rfl, l0, g0⟩, ⟨[.slice A1 x.f1.length c1], [.slice A2 x.f2.length c2], rfl, ⟨A1, c1, rfl, l1, g1⟩, ⟨A2, c2, rfl, l2, g2⟩⟩⟩
theorem k26_mkM (w : World) (base : Nat) (ok : Nat → Prop) (x : S26) {v0 : Value} (g0 : k73.R 73 w base ok v0 x.f0) {v1 : Value} (g1 : k47.R 47 w base ok v1 x.f1) {v2 : Value} (g2 : k43.R 43 w base ok v2 x.f2) : k26.M w base ok x [v0, v1, v2] := ⟨[v0], [v1, v2], rfl, ⟨v0, rfl, g0⟩, ⟨[v1], [v2], rfl, ⟨v1, rfl, g1⟩, ⟨v2, rfl, g2⟩⟩⟩
def rd_T26 (xs : List S26) (i : Int) : S26 := xs.getD i.toNat z26
theorem at_T26 {w : World} {A : Option Addr} {n : Nat} {xs : List S26} (h : Kd.C k26 w A n xs) (i : Int) (h0 : 0 ≤ i) (h1 : i < n) : ∃ ad A0 c0 A1 c1 A2 c2, A = some ad ∧ w.cell? (ad.add (i.toNat * 3)) = some (.slice A0 (rd_T26 xs i).f0.length c0) ∧ w.cell? ⟨(ad.add (i.toNat * 3)).block, (ad.add (i.toNat * 3)).off + 1, none⟩ = some (.slice A1 (rd_T26 xs i).f1.length c1) ∧ w.cell? ⟨(ad.add (i.toNat * 3)).block, (ad.add (i.toNat * 3)).off + 2, none⟩ = some (.slice A2 (rd_T26 xs i).f2.length c2) ∧ (rd_T26 xs i).f0.length ≤ c0 ∧ k73.C w A0 (rd_T26 xs i).f0.length (rd_T26 xs i).f0 ∧ (rd_T26 xs i).f1.length ≤ c1 ∧ k47.C w A1 (rd_T26 xs i).f1.length (rd_T26 xs i).f1 ∧ (rd_T26 xs i).f2.length ≤ c2 ∧ k43.C w A2 (rd_T26 xs i).f2.length (rd_T26 xs i).f2 := by
 obtain ⟨ad, c, e, _, hK, hc0⟩ := Kd.C_get h z26 i h0 h1
 have hc : ∀ j u, c[j]? = some u → w.cell? (ad.add (i.toNat * 3 + j)) = some u := hc0
 obtain ⟨A0, c0, A1, c1, A2, c2, rfl, l0, g0, l1, g1, l2, g2⟩ := k26_open hK
 exact ⟨ad, A0, c0, A1, c1, A2, c2, e, hc 0 _ rfl, by rw [← add_field _ _ 1 (by omega)]; exact hc 1 _ rfl, by rw [← add_field _ _ 2 (by omega)]; exact hc 2 _ rfl, l0, g0, l1, g1, l2, g2⟩

structure S28 where
 f0 : Int
 f1 : ByteArray
 f2 : ByteArray
 f3 : Int
def z28 : S28 := ⟨(0 : Int), (⟨#[]⟩ : ByteArray), (⟨#[]⟩ : ByteArray), (0 : Int)⟩
def k28 : Kd S28 := Kd.iso (Kd.pair (Kd.int .i64) (Kd.pair Kd.string (Kd.pair Kd.string (Kd.int .i64)))) (fun x : S28 => (x.f0, x.f1, x.f2, x.f3))
theorem k28_open {w : World} {x : S28} {cs : List Value} (h : k28.K w x cs) : cs = [.int .i64 x.f0, .string x.f1, .string x.f2, .int .i64 x.f3] := by
 obtain ⟨_, _, rfl, rfl, ⟨_, _, rfl, rfl, ⟨_, _, rfl, rfl, rfl⟩⟩⟩ := h
 exact rfl
theorem k28_openM {w : World} {base : Nat} {ok : Nat → Prop} {x : S28} {cs : List Value} (h : k28.M w base ok x cs) : cs = [.int .i64 x.f0, .string x.f1, .string x.f2, .int .i64 x.f3] := by
 obtain ⟨_, _, rfl, rfl, ⟨_, _, rfl, rfl, ⟨_, _, rfl, rfl, rfl⟩⟩⟩ := h
 exact rfl
theorem k28_mk (w : World) (x : S28)  : k28.K w x [.int .i64 x.f0, .string x.f1, .string x.f2, .int .i64 x.f3] := ⟨[.int .i64 x.f0], [.string x.f1, .string x.f2, .int .i64 x.f3], rfl, rfl, ⟨[.string x.f1], [.string x.f2, .int .i64 x.f3], rfl, rfl, ⟨[.string x.f2], [.int .i64 x.f3], rfl, rfl, rfl⟩⟩⟩
theorem k28_mkM (w : World) (base : Nat) (ok : Nat → Prop) (x : S28)  : k28.M w base ok x [.int .i64 x.f0, .string x.f1, .string x.f2, .int .i64 x.f3] := ⟨[.int .i64 x.f0], [.string x.f1, .string x.f2, .int .i64 x.f3], rfl, rfl, ⟨[.string x.f1], [.string x.f2, .int .i64 x.f3], rfl, rfl, ⟨[.string x.f2], [.int .i64 x.f3], rfl, rfl, rfl⟩⟩⟩
def rd_T28 (xs : List S28) (i : Int) : S28 := xs.getD i.toNat z28
theorem at_T28 {w : World} {A : Option Addr} {n : Nat} {xs : List S28} (h : Kd.C k28 w A n xs) (i : Int) (h0 : 0 ≤ i) (h1 : i < n) : ∃ ad , A = some ad ∧ w.cell? (ad.add (i.toNat * 4)) = some (.int .i64 (rd_T28 xs i).f0) ∧ w.cell? ⟨(ad.add (i.toNat * 4)).block, (ad.add (i.toNat * 4)).off + 1, none⟩ = some (.string (rd_T28 xs i).f1) ∧ w.cell? ⟨(ad.add (i.toNat * 4)).block, (ad.add (i.toNat * 4)).off + 2, none⟩ = some (.string (rd_T28 xs i).f2) ∧ w.cell? ⟨(ad.add (i.toNat * 4)).block, (ad.add (i.toNat * 4)).off + 3, none⟩ = some (.int .i64 (rd_T28 xs i).f3) := by
 obtain ⟨ad, c, e, _, hK, hc0⟩ := Kd.C_get h z28 i h0 h1
 have hc : ∀ j u, c[j]? = some u → w.cell? (ad.add (i.toNat * 4 + j)) = some u := hc0
 obtain rfl := k28_open hK
 exact ⟨ad, e, hc 0 _ rfl, by rw [← add_field _ _ 1 (by omega)]; exact hc 1 _ rfl, by rw [← add_field _ _ 2 (by omega)]; exact hc 2 _ rfl, by rw [← add_field _ _ 3 (by omega)]; exact hc 3 _ rfl⟩

def rd_L13 (xs : List (List Int)) (i : Int) : (List Int) := xs.getD i.toNat ([] : List Int)
theorem at_L13 {w : World} {A : Option Addr} {n : Nat} {xs : List (List Int)} (h : Kd.C (Kd.slice 5 (Kd.int .u8)) w A n xs) (i : Int) (h0 : 0 ≤ i) (h1 : i < n) : ∃ ad A0 c0, A = some ad ∧ w.cell? (ad.add i.toNat) = some (.slice A0 (rd_L13 xs i).length c0) ∧ (rd_L13 xs i).length ≤ c0 ∧ (Kd.int .u8).C w A0 (rd_L13 xs i).length (rd_L13 xs i) := by
 obtain ⟨ad, c, e, _, hK, hc0⟩ := Kd.C_get h ([] : List Int) i h0 h1
 have hc : ∀ j u, c[j]? = some u → w.cell? (ad.add (i.toNat * 1 + j)) = some u := hc0
 obtain ⟨A0, c0, rfl, l0, g0⟩ := hK
 exact ⟨ad, A0, c0, e, by have hq := hc 0 _ rfl; rwa [Nat.mul_one, Nat.add_zero] at hq, l0, g0⟩

theorem info43 : (Tryz.prog.info? 43).map (fun i => (i.zero, i.size, i.bytes)) = some (some (.agg #[(.string ⟨#[]⟩), (.string ⟨#[]⟩), (.int .i64 0), (.int .i64 0)]), 4, 48) := by kernel_rfl
end Go.Proofs.YtmcddoolniaehaaGreat.S
end
section
namespace Go.Proofs.YtmcddoolniaehaaGreat.S
open Go.RowKit Go.ChangeShapes Go.WideShapes Go.ChangeAt Go.Deep Go.Proofs.YtmcddoolniaehaaGreatW.PrintWords Go.Proofs.YtmcddoolniaehaaGreatW.PrintLast Go.Proofs.YtmcddoolniaehaaGreatW.PrintMore Go.Proofs.YtmcddoolniaehaaGreatW
set_option linter.unusedVariables false
set_option linter.unusedSimpArgs false
def okI (n : Int) : Prop := -9223372036854775808 ≤ n ∧ n ≤ 9223372036854775807
def okT (s : ByteArray) : Prop := s.size ≤ maxLen
theorem okI_of {n : Int} (h : (Lit.int .i64 n).wf = true) : okI n := by
  simp only [Lit.wf, Bool.and_eq_true, decide_eq_true_eq] at h
  exact ⟨by have := h.1; simpa [IntKind.min, IntKind.signed, IntKind.bits] using this, by have := h.2; simpa [IntKind.max, IntKind.signed, IntKind.bits] using this⟩
theorem len2 {α : Type} : ∀ {l : List α}, l.length = 2 → ∃ x0 x1, l = [x0, x1]
  | [x0, x1], _ => ⟨x0, x1, rfl⟩
theorem len3 {α : Type} : ∀ {l : List α}, l.length = 3 → ∃ x0 x1 x2, l = [x0, x1, x2]
  | [x0, x1, x2], _ => ⟨x0, x1, x2, rfl⟩
theorem len4 {α : Type} : ∀ {l : List α}, l.length = 4 → ∃ x0 x1 x2 x3, l = [x0, x1, x2, x3]
  | [x0, x1, x2, x3], _ => ⟨x0, x1, x2, x3, rfl⟩
theorem len5 {α : Type} : ∀ {l : List α}, l.length = 5 → ∃ x0 x1 x2 x3 x4, l = [x0, x1, x2, x3, x4]
  | [x0, x1, x2, x3, x4], _ => ⟨x0, x1, x2, x3, x4, rfl⟩
section
variable {H : Type} {enc : TypeId × Value → H} {w : World} {base : Nat} {spare : Nat → Bool} {held : Bool}
theorem open_ints2 {fuel : Nat} {cs : List Value} {x : DataW H × List MemPlace} (h : DataW.trod enc Tryz.prog w base spare held fuel 30 cs = some x) : ∃ a b, cs = [.int .i64 a, .int .i64 b] ∧ okI a ∧ okI b := by
  obtain ⟨xs, n, _, _, hl, hlen, hf⟩ := DataW.trod_struct Tryz.underlying30 h
  rw [show Tryz.prog.cellsOf 30 = 2 by kernel_rfl] at hl
  have hi : Tryz.prog.cellsOf 3 = 1 := by kernel_rfl
  have hlen : xs.length = 2 := hlen
  obtain ⟨c0, c1, rfl⟩ := len2 hl
  obtain ⟨y0, y1, rfl⟩ := len2 hlen
  have h0 := hf 0 _ rfl
  have h1 := hf 1 _ rfl
  simp only [List.getElem_toArray, List.getElem_cons_zero, List.getElem_cons_succ, hi,  List.drop_zero, List.drop_succ_cons, List.take_succ_cons, List.take_zero, List.getElem?_cons_zero, List.getElem?_cons_succ] at h0 h1
  obtain ⟨a, e0, _, w0⟩ := DataW.trod_int Tryz.underlying3 h0
  obtain ⟨b, e1, _, w1⟩ := DataW.trod_int Tryz.underlying3 h1
  cases e0; cases e1
  exact ⟨a, b, rfl, okI_of w0, okI_of w1⟩
def okReg (x : S47) : Prop := okT x.f0 ∧ okT x.f1 ∧ okI x.f2 ∧ okI x.f3.f0 ∧ okI x.f3.f1
theorem open_reg {fuel : Nat} {cs : List Value} {x : DataW H × List MemPlace} (h : DataW.trod enc Tryz.prog w base spare held fuel 47 cs = some x) : ∃ r : S47, cs = [.string r.f0, .string r.f1, .int .i64 r.f2, .int .i64 r.f3.f0, .int .i64 r.f3.f1] ∧ okReg r := by
  obtain ⟨xs, n, _, _, hl, hlen, hf⟩ := DataW.trod_struct Tryz.underlying47 h
  rw [show Tryz.prog.cellsOf 47 = 5 by kernel_rfl] at hl
  have hi : Tryz.prog.cellsOf 3 = 1 := by kernel_rfl
  have hs : Tryz.prog.cellsOf 9 = 1 := by kernel_rfl
  have he : Tryz.prog.cellsOf 30 = 2 := by kernel_rfl
  have hlen : xs.length = 4 := hlen
  obtain ⟨c0, c1, c2, c3, c4, rfl⟩ := len5 hl
  obtain ⟨y0, y1, y2, y3, rfl⟩ := len4 hlen
  have h0 := hf 0 _ rfl
  have h1 := hf 1 _ rfl
  have h2 := hf 2 _ rfl
  have h3 := hf 3 _ rfl
  simp only [List.getElem_toArray, List.getElem_cons_zero, List.getElem_cons_succ, hi, hs, he,  List.drop_zero, List.drop_succ_cons, List.take_succ_cons, List.take_zero, List.getElem?_cons_zero, List.getElem?_cons_succ] at h0 h1 h2 h3
  obtain ⟨a, e0, _, w0⟩ := DataW.trod_string Tryz.underlying9 h0
  obtain ⟨b, e1, _, w1⟩ := DataW.trod_string Tryz.underlying9 h1
  obtain ⟨c, e2, _, w2⟩ := DataW.trod_int Tryz.underlying3 h2
  obtain ⟨d, f, e3, w3, w4⟩ := open_ints2 h3
  cases e0; cases e1; cases e2; cases e3
  exact ⟨⟨a, b, c, ⟨d, f⟩⟩, rfl, w0, w1, okI_of w2, w3, w4⟩
def okCtr (x : S73) : Prop := okT x.f0 ∧ okI x.f1
theorem open_ctr {fuel : Nat} {cs : List Value} {x : DataW H × List MemPlace} (h : DataW.trod enc Tryz.prog w base spare held fuel 73 cs = some x) : ∃ r : S73, cs = [.string r.f0, .int .i64 r.f1] ∧ okCtr r := by
  obtain ⟨xs, n, _, _, hl, hlen, hf⟩ := DataW.trod_struct Tryz.underlying73 h
  rw [show Tryz.prog.cellsOf 73 = 2 by kernel_rfl] at hl
  have hi : Tryz.prog.cellsOf 3 = 1 := by kernel_rfl
  have hs : Tryz.prog.cellsOf 9 = 1 := by kernel_rfl
  have hlen : xs.length = 2 := hlen
  obtain ⟨c0, c1, rfl⟩ := len2 hl
  obtain ⟨y0, y1, rfl⟩ := len2 hlen
  have h0 := hf 0 _ rfl
  have h1 := hf 1 _ rfl
  simp only [List.getElem_toArray, List.getElem_cons_zero, List.getElem_cons_succ, hi, hs,  List.drop_zero, List.drop_succ_cons, List.take_succ_cons, List.take_zero, List.getElem?_cons_zero, List.getElem?_cons_succ] at h0 h1
  obtain ⟨a, e0, _, w0⟩ := DataW.trod_string Tryz.underlying9 h0
  obtain ⟨b, e1, _, w1⟩ := DataW.trod_int Tryz.underlying3 h1
  cases e0; cases e1
  exact ⟨⟨a, b⟩, rfl, w0, okI_of w1⟩
def okPair (x : S43) : Prop := okT x.f0 ∧ okT x.f1 ∧ okI x.f2.f0 ∧ okI x.f2.f1
theorem open_pair {fuel : Nat} {cs : List Value} {x : DataW H × List MemPlace} (h : DataW.trod enc Tryz.prog w base spare held fuel 43 cs = some x) : ∃ r : S43, cs = [.string r.f0, .string r.f1, .int .i64 r.f2.f0, .int .i64 r.f2.f1] ∧ okPair r := by
  obtain ⟨xs, n, _, _, hl, hlen, hf⟩ := DataW.trod_struct Tryz.underlying43 h
  rw [show Tryz.prog.cellsOf 43 = 4 by kernel_rfl] at hl
  have hs : Tryz.prog.cellsOf 9 = 1 := by kernel_rfl
  have he : Tryz.prog.cellsOf 30 = 2 := by kernel_rfl
  have hlen : xs.length = 3 := hlen
  obtain ⟨c0, c1, c2, c3, rfl⟩ := len4 hl
  obtain ⟨y0, y1, y2, rfl⟩ := len3 hlen
  have h0 := hf 0 _ rfl
  have h1 := hf 1 _ rfl
  have h2 := hf 2 _ rfl
  simp only [List.getElem_toArray, List.getElem_cons_zero, List.getElem_cons_succ, hs, he,  List.drop_zero, List.drop_succ_cons, List.take_succ_cons, List.take_zero, List.getElem?_cons_zero, List.getElem?_cons_succ] at h0 h1 h2
  obtain ⟨a, e0, _, w0⟩ := DataW.trod_string Tryz.underlying9 h0
  obtain ⟨b, e1, _, w1⟩ := DataW.trod_string Tryz.underlying9 h1
  obtain ⟨d, f, e3, w3, w4⟩ := open_ints2 h2
  cases e0; cases e1; cases e3
  exact ⟨⟨a, b, ⟨d, f⟩⟩, rfl, w0, w1, w3, w4⟩
theorem open_row {α : Type} [Inhabited α] {d : Kd α} {ok : α → Prop} {t e : TypeId} (hu : Tryz.prog.underlying t = some (.slice e)) (hc : Tryz.prog.cellsOf e = d.sz) (hsz : d.sz ≠ 0) (hop : ∀ (fuel : Nat) (cs : List Value) (x : DataW H × List MemPlace), DataW.trod enc Tryz.prog w base spare held fuel e cs = some x → ∃ a, d.K w a cs ∧ ok a)
    {A : Option Addr} {len cap : Nat} {dd : DataW H} {ps : List MemPlace} (h : DataW.Trod enc Tryz.prog w base spare held t (.slice A len cap) dd ps) : ∃ xs : List α, xs.length = len ∧ len ≤ cap ∧ d.C w A len xs ∧ ∀ x ∈ xs, ok x := by
  obtain ⟨fuel, hf⟩ := h
  rcases open_slice hu hf with ⟨hcs, _⟩ | ⟨a, len', cap', m, n, D, Pl, hcs, _, hl, hm, hmm, _, hx⟩
  · simp [Value.cells] at hcs
    obtain ⟨rfl, rfl, rfl⟩ := hcs
    exact ⟨[], rfl, Nat.le_refl _, Kd.C_nil d w, fun x hx => by simp at hx⟩
  · simp [Value.cells] at hcs
    obtain ⟨rfl, rfl, rfl⟩ := hcs
    have hle : len ≤ m := by rw [hmm]; split <;> omega
    obtain ⟨f, hf'⟩ := choose_lt (α := α) (n := len) (p := fun i a' => ∃ cs', w.cells? base (a.add (i * d.sz)) d.sz = some cs' ∧ d.K w a' cs' ∧ ok a') (fun i hi => by
      obtain ⟨cs', h1, h2⟩ := hx i (by omega)
      obtain ⟨a', h3, h4⟩ := hop _ _ _ h2
      rw [hc] at h1
      exact ⟨a', cs', h1, h3, h4⟩)
    refine ⟨(List.range len).map f, by simp, hl, ⟨by simp, by unfold maxLen at hm; omega, fun _ => ⟨a, rfl, fun j p hp => ?_⟩⟩, ?_⟩
    · have hj : j < len := by
        have := (List.getElem?_eq_some_iff.1 hp).1
        simpa using this
      have hp' : f j = p := by
        rw [List.getElem?_map, List.getElem?_range hj] at hp
        simpa using hp
      subst hp'
      obtain ⟨cs', h1, h2, h3⟩ := hf' j hj
      obtain ⟨_, h5, h6⟩ := World.cells?_some h1
      refine ⟨cs', h5, h2, fun i u hu => ?_⟩
      have hi := (List.getElem?_eq_some_iff.1 hu).1
      rw [← Deep.add_add, h6 i (by omega), hu]
    · intro x hx
      obtain ⟨i, hi, rfl⟩ := List.mem_map.1 hx
      obtain ⟨_, _, _, h⟩ := hf' i (by simpa using hi)
      exact h
end
instance : Inhabited S47 := ⟨z47⟩
instance : Inhabited S73 := ⟨z73⟩
instance : Inhabited S43 := ⟨z43⟩
end Go.Proofs.YtmcddoolniaehaaGreat.S
end
section
namespace Go.Proofs.YtmcddoolniaehaaGreat.S
open Go.RowKit Go.Proofs.YtmcddoolniaehaaGreatW.PrintWords Go.Proofs.YtmcddoolniaehaaGreatW.PrintLast Go.Proofs.YtmcddoolniaehaaGreatW.PrintMore Go.Proofs.YtmcddoolniaehaaGreatW
set_option linter.unusedVariables false
set_option linter.unusedSimpArgs false
abbrev MapL := List (ByteArray × Int)
def mLt (x y : ByteArray × Int) : Prop := Op.bytesLess x.1.toList y.1.toList = true
def ent (p : ByteArray × Int) : Lit × DataW Unit := (.string p.1.data.toList, .lit (.int .i64 p.2))
def datM (es : MapL) : DataW Unit := .map (es.map ent)
def getM (es : MapL) (k : ByteArray) : Int := match es with
  | [] => 0
  | p :: l => if p.1 = k then p.2 else getM l k
def setM (es : MapL) (k : ByteArray) (n : Int) : MapL := match es with
  | [] => [(k, n)]
  | p :: l => if Op.bytesLess p.1.toList k.toList then p :: setM l k n else if p.1 = k then (k, n) :: l else (k, n) :: p :: l
theorem setM_mem {es : MapL} {k : ByteArray} {n : Int} {p : ByteArray × Int} (h : p ∈ setM es k n) : p = (k, n) ∨ p ∈ es := by
  induction es with
  | nil => simpa [setM] using h
  | cons y l ih =>
    unfold setM at h
    split at h
    · rcases List.mem_cons.1 h with rfl | h
      · exact .inr List.mem_cons_self
      · rcases ih h with h | h
        · exact .inl h
        · exact .inr (List.mem_cons_of_mem _ h)
    · split at h
      · rcases List.mem_cons.1 h with rfl | h
        · exact .inl rfl
        · exact .inr (List.mem_cons_of_mem _ h)
      · rcases List.mem_cons.1 h with rfl | h
        · exact .inl rfl
        · exact .inr h
theorem setM_up {es : MapL} {k : ByteArray} {n : Int} (h : es.Pairwise mLt) : (setM es k n).Pairwise mLt := by
  induction es with
  | nil => exact List.pairwise_singleton _ _
  | cons y l ih =>
    rw [List.pairwise_cons] at h
    unfold setM
    cases hy : Op.bytesLess y.1.toList k.toList with
    | true =>
      rw [if_pos rfl, List.pairwise_cons]
      refine ⟨fun p hp => ?_, ih h.2⟩
      rcases setM_mem hp with rfl | hp
      · exact hy
      · exact h.1 p hp
    | false =>
      rw [if_neg (by simp)]
      by_cases he : y.1 = k
      · rw [if_pos he, List.pairwise_cons]
        exact ⟨fun p hp => by have := h.1 p hp; unfold mLt at this ⊢; rw [he] at this; exact this, h.2⟩
      · rw [if_neg he, List.pairwise_cons, List.pairwise_cons]
        have hk : Op.bytesLess k.toList y.1.toList = true := by
          cases q : Op.bytesLess k.toList y.1.toList with
          | true => rfl
          | false => exact absurd (toList_inj (less_antisymm hy q)) he
        refine ⟨fun p hp => ?_, h⟩
        rcases List.mem_cons.1 hp with rfl | hp
        · exact hk
        · exact less_trans hk (h.1 p hp)
theorem getM_set (es : MapL) (k j : ByteArray) (n : Int) : getM (setM es k n) j = if j = k then n else getM es j := by
  induction es with
  | nil =>
    simp only [setM, getM]
    by_cases h : j = k
    · rw [if_pos h.symm, if_pos h]
    · rw [if_neg (fun e => h e.symm), if_neg h]
  | cons y l ih =>
    unfold setM
    cases hy : Op.bytesLess y.1.toList k.toList with
    | true =>
      rw [if_pos rfl]
      simp only [getM]
      by_cases h : y.1 = j
      · rw [if_pos h, if_pos h]
        have : j ≠ k := fun e => by rw [h, e, less_irrefl] at hy; cases hy
        rw [if_neg this]
      · rw [if_neg h, if_neg h, ih]
    | false =>
      rw [if_neg (by simp)]
      by_cases he : y.1 = k
      · rw [if_pos he]
        simp only [getM]
        by_cases h : j = k
        · rw [if_pos h.symm, if_pos h]
        · rw [if_neg (fun e => h e.symm), if_neg h, if_neg (fun e => h (e.symm.trans he))]
      · rw [if_neg he]
        simp only [getM]
        by_cases h : j = k
        · rw [if_pos h.symm, if_pos h]
        · rw [if_neg (fun e => h e.symm), if_neg h]
theorem before_less : ∀ (x y : List UInt8), Go.bytesBefore x y = Op.bytesLess x y
  | [], [] => rfl
  | [], _ :: _ => rfl
  | _ :: _, [] => rfl
  | a :: x, b :: y => by
    unfold Go.bytesBefore Op.bytesLess
    rw [before_less x y]
theorem dl_toList (a : ByteArray) : a.toList = a.data.toList := ByteArray.toList_eq a
theorem filt_all {l : MapL} {k : ByteArray} (h : ∀ p ∈ l, p.1 ≠ k) : (l.map ent).filter (fun p => !p.1.sameKey (.string k.data.toList)) = l.map ent := by
  rw [List.filter_eq_self]
  intro a ha
  obtain ⟨p, hp, rfl⟩ := List.mem_map.1 ha
  simp only [ent, Lit.sameKey, Bool.not_eq_true', beq_eq_false_iff_ne, ne_eq]
  intro e
  exact h p hp (toList_inj (by rw [dl_toList, dl_toList]; exact e))
theorem ins_front {l : MapL} {k : ByteArray} {n : Int} (h : ∀ p ∈ l, Op.bytesLess k.toList p.1.toList = true) : DataW.insert (ent (k, n)) (l.map ent) = ent (k, n) :: l.map ent := by
  cases l with
  | nil => rfl
  | cons y l =>
    have := h y List.mem_cons_self
    simp only [List.map_cons, DataW.insert]
    rw [if_pos]
    simp only [ent, Lit.before]
    rw [before_less, ← dl_toList, ← dl_toList]
    exact this
theorem put_list : ∀ (es : MapL) (k : ByteArray) (n : Int), es.Pairwise mLt → DataW.insert (ent (k, n)) ((es.map ent).filter (fun p => !p.1.sameKey (.string k.data.toList))) = (setM es k n).map ent
  | [], k, n, _ => rfl
  | y :: l, k, n, hp => by
    rw [List.pairwise_cons] at hp
    have ih := put_list l k n hp.2
    unfold setM
    cases hy : Op.bytesLess y.1.toList k.toList with
    | true =>
      have hne : y.1 ≠ k := fun e => by rw [e, less_irrefl] at hy; cases hy
      rw [if_pos rfl, List.map_cons, List.filter_cons_of_pos, DataW.insert, if_neg, ih, List.map_cons]
      · simp only [ent, Lit.before]
        rw [before_less, ← dl_toList, ← dl_toList, less_asymm hy]
        simp
      · simp only [ent, Lit.sameKey, Bool.not_eq_true', beq_eq_false_iff_ne, ne_eq]
        intro e
        exact hne (toList_inj (by rw [dl_toList, dl_toList]; exact e))
    | false =>
      rw [if_neg (by simp)]
      by_cases he : y.1 = k
      · have hgt : ∀ p ∈ l, Op.bytesLess k.toList p.1.toList = true := fun p hp' => by have := hp.1 p hp'; unfold mLt at this; rw [he] at this; exact this
        rw [if_pos he, List.map_cons, List.filter_cons_of_neg, filt_all, ins_front hgt, List.map_cons]
        · intro p hp' e
          have := hgt p hp'
          rw [e, less_irrefl] at this; cases this
        · simp [ent, Lit.sameKey, he]
      · have hk : Op.bytesLess k.toList y.1.toList = true := by
          cases q : Op.bytesLess k.toList y.1.toList with
          | true => rfl
          | false => exact absurd (toList_inj (less_antisymm hy q)) he
        have hgt : ∀ p ∈ y :: l, Op.bytesLess k.toList p.1.toList = true := fun p hp' => by
          rcases List.mem_cons.1 hp' with rfl | hp'
          · exact hk
          · exact less_trans hk (hp.1 p hp')
        rw [if_neg he, filt_all, ins_front hgt]
        · rfl
        intro p hp' e
        have := hgt p hp'
        rw [e, less_irrefl] at this; cases this
theorem put_dat {es : MapL} (k : ByteArray) (n : Int) (h : es.Pairwise mLt) : (datM es).put (.string k.data.toList) (.lit (.int .i64 n)) = datM (setM es k n) := by
  unfold datM DataW.put
  exact congrArg DataW.map (put_list es k n h)
theorem at_dat : ∀ (es : MapL) (k : ByteArray), (datM es).atKey (.string k.data.toList) (.lit (.int .i64 0)) = .lit (.int .i64 (getM es k))
  | [], k => rfl
  | y :: l, k => by
    have ih := at_dat l k
    unfold datM DataW.atKey at ih ⊢
    simp only [List.map_cons, List.find?_cons] at ih ⊢
    unfold getM
    by_cases he : y.1 = k
    · rw [if_pos he]
      have : (ent y).1.sameKey (.string k.data.toList) = true := by simp [ent, Lit.sameKey, he]
      simp only [this]; rfl
    · rw [if_neg he]
      have : (ent y).1.sameKey (.string k.data.toList) = false := by
        simp only [ent, Lit.sameKey, beq_eq_false_iff_ne, ne_eq]
        intro e
        exact he (toList_inj (by rw [dl_toList, dl_toList]; exact e))
      simp only [this]
      exact ih
theorem bytesLess_lt : ∀ (x y : List UInt8), Op.bytesLess x y = decide (x < y)
  | [], [] => by simp [Op.bytesLess]
  | _ :: _, [] => by simp [Op.bytesLess]
  | [], _ :: _ => by simp [Op.bytesLess]
  | a :: x, b :: y => by
    rw [Op.bytesLess, bytesLess_lt x y]
    simp only [List.cons_lt_cons_iff]
    by_cases h1 : a < b <;> by_cases h2 : a = b <;> by_cases h3 : x < y <;> simp [h1, h2, h3]
def keysM (es : MapL) : List (List UInt8) := es.map fun p => p.1.data.toList
theorem strKeys_dat (es : MapL) : Go.strKeys (datM es) = keysM es := by
  unfold Go.strKeys datM keysM
  simp [List.map_map, Function.comp_def, ent, Go.strOf]
theorem keys_sorted {es : MapL} (h : es.Pairwise mLt) : (keysM es).mergeSort Go.leB = keysM es := by
  apply List.mergeSort_of_pairwise
  unfold keysM
  rw [List.pairwise_map]
  refine h.imp fun {a b} hab => ?_
  unfold mLt at hab
  rw [dl_toList, dl_toList, bytesLess_lt, decide_eq_true_eq] at hab
  simp only [Go.leB, decide_eq_true_eq]
  exact List.le_of_lt hab
theorem size_dat (es : MapL) : Maps.size (datM es) = es.length := by
  simp [Maps.size, datM]
end Go.Proofs.YtmcddoolniaehaaGreat.S
end
section
namespace Go.Proofs.YtmcddoolniaehaaGreat.S
open Go.RowKit Go.Maps Go.Proofs.YtmcddoolniaehaaGreatW.PrintWords Go.Proofs.YtmcddoolniaehaaGreatW.PrintLast Go.Proofs.YtmcddoolniaehaaGreatW.PrintMore Go.Proofs.YtmcddoolniaehaaGreatW
set_option linter.unusedVariables false
set_option linter.unusedSimpArgs false
theorem lawS : Keyed Tryz.prog 9 := string_keyed Tryz.underlying9
theorem zeroI (w : World) : (zeroValue 3).run Tryz.prog w = .ok (.int .i64 0) w := by kernel_rfl
def incM (es : MapL) (k : ByteArray) (n : Int) : MapL := setM es k (wrap64 (getM es k + n))
def addM (t : Int) (es : MapL) (l : List S73) : MapL := l.foldl (fun es c => incM es c.f0 (wrap64 (t * c.f1))) es
abbrev OwnsM (w : World) (gb n : Nat) (es : MapL) : Prop := w.ownsMap Tryz.prog 9 (plainElem (H := Unit) Tryz.prog 3) gb n (datM es)
theorem incM_up {es : MapL} (k : ByteArray) (n : Int) (h : es.Pairwise mLt) : (incM es k n).Pairwise mLt := setM_up h
theorem addM_up (t : Int) : ∀ (l : List S73) (es : MapL), es.Pairwise mLt → (addM t es l).Pairwise mLt
  | [], _, h => h
  | c :: l, es, h => addM_up t l _ (incM_up _ _ h)
theorem rdC_at (l : List S73) (k : Nat) (h : k < l.length) : rd_T73 l (k : Int) = l[k] := by
  simp [rd_T73, List.getD_eq_getElem?_getD, List.getElem?_eq_getElem h]
theorem addM_take (t : Int) (es : MapL) (l : List S73) (k : Nat) (h : k < l.length) : addM t es (l.take (k + 1)) = incM (addM t es (l.take k)) (rd_T73 l (k : Nat)).f0 (wrap64 (t * (rd_T73 l (k : Nat)).f1)) := by
  unfold addM
  rw [List.take_succ_eq_append_getElem h, List.foldl_append, rdC_at l k h]; rfl
set_option maxHeartbeats 4000000 in
set_option maxRecDepth 100000 in
theorem sums_add (w0 : World) (gb n : Nat) (es : MapL) (A0 : Option Addr) (c0 : Nat) (l : List S73) (t : Int) (w : World) (hB : Below w0.heap.size w0 w) (hbase : w0.heap.size ≤ gb) (hown : OwnsM w gb n es) (hup : es.Pairwise mLt) (hr0 : Kd.C k73 w0 A0 l.length l) (hlim : n + l.length ≤ maxLen) (hk : ∀ x ∈ l, x.f0.size ≤ maxLen) :
    Calls Tryz.prog 80 #[.map (some gb), .slice A0 l.length c0, .int .i64 t] w fun e w' => e = .returned (.tuple #[]) ∧ OwnsM w' gb (n + l.length) (addM t es l) ∧ Below w0.heap.size w0 w' := by
  have HR := Aside0.mk hr0
  have HL := Aside0.mk hr0.2.1
  have HO := Aside0.mk hown
  have HB0 := Aside0.mk hB
  have HUP := Aside0.mk hup
  have HK := Aside0.mk hk
  clear hr0 hown hB hup hk
  have hu := Tryz.underlying73
  have hum := Tryz.underlying100
  go_enter Tryz.func80, Tryz.ntmps80
  go_wp2
  go_loopw [10] (fun i wr => ∃ k : Nat, k ≤ l.length ∧ i = .int .i64 k ∧ Aside0 (OwnsM wr gb (n + k) (addM t es (l.take k))) ∧ Aside0 (Below w0.heap.size w0 wr)) (fun i _ => l.length - (intOf i).toNat)
  case atStart => exact ⟨0, Nat.zero_le _, rfl, ⟨by simpa [addM] using HO.out⟩, HB0⟩
  case round =>
    obtain ⟨k, hk, rfl, hO, HB⟩ := hrel
    by_cases hlt : k < l.length
    · obtain ⟨ad, e, hx0, hx1⟩ := at_T73 HR.out k (by omega) (by omega)
      cases e
      replace hx0 := (HB.out.cell (World.block_lt_of_cell? w0 _ hx0)).trans hx0
      replace hx1 := (HB.out.cell (World.block_lt_of_cell? w0 _ hx1)).trans hx1
      simp only [Int.toNat_natCast, add_plain] at hx0 hx1
      have hl63 := HL.out
      have hkl : (rd_T73 l (k : Nat)).f0.size ≤ maxLen := by rw [rdC_at l k hlt]; exact HK.out _ (List.getElem_mem _)
      have HS := Aside0.mk (addM_take t es l k hlt)
      have HU := Aside0.mk (addM_up t (l.take k) es HUP.out)
      have hglt := hO.out.lt
      have hnk : n + k < maxLen := by omega
      go_wp2_with (first
        | (at_lookup; refine wpList_lookup_own_int _ rfl _ _ 100 rfl 9 3 .i64 lawS Tryz.underlying100 Tryz.underlying3 (zeroI _) gb _ _ rfl (hO.out.alloc _) _ _ rfl (Go.WideMaps.keyOf_string_mk Tryz.underlying9 hkl) ?_; intro c hat hwc; have HC := Aside0.mk hat; clear hat hwc)
        | (at_mapUpdate; refine wpList_mapUpdate_own _ rfl _ _ _ 100 rfl 9 3 lawS Tryz.underlying100 _ gb _ _ rfl (hO.out.alloc _) hnk _ _ _ rfl rfl (Go.WideMaps.keyOf_string_mk Tryz.underlying9 hkl) _ [] (plainElem_int Tryz.underlying3 (wrap64_wf _)) ?_; intro w1 hown1 hgrow1; have HO1 := Aside0.mk hown1; have HG1 := Aside0.mk hgrow1; clear hown1 hgrow1))
      have HO2 : Aside0 (OwnsM w1 gb (n + (k + 1)) (addM t es (l.take (k + 1)))) := by
        have h1 := HO1.out
        have h2 := HC.out
        rw [at_dat] at h2
        injection h2 with h2
        injection h2 with _ h2
        rw [put_dat _ _ HU.out] at h1
        rw [HS.out]
        unfold incM
        rw [h2]
        exact ⟨h1⟩
      have HB2 := Aside0.mk ((below_alloc HB.out _).grown HG1.out (by simp; omega) (fun j hj => by simp at hj; subst hj; exact hbase))
      clear HO1 HG1 HC HS HU hx0 hx1 hO HB HR
      go_roundw
      case rel => exact ⟨k + 1, by omega, by go_num, HO2, HB2⟩
      case measure => simp [intOf]; omega
    · have HE := Aside0.mk (show l.take k = l ∧ k = l.length from ⟨List.take_of_length_le (by omega), by omega⟩)
      go_wp2
      go_end0
      refine ⟨rfl, ?_, HB.out⟩
      have := hO.out
      rw [HE.out.1, HE.out.2] at this
      exact this
end Go.Proofs.YtmcddoolniaehaaGreat.S
end
section
namespace Go.Proofs.YtmcddoolniaehaaGreat.S
open Go.RowKit Go.Proofs.YtmcddoolniaehaaGreatW.PrintWords Go.Proofs.YtmcddoolniaehaaGreatW.PrintLast Go.Proofs.YtmcddoolniaehaaGreatW.PrintMore
set_option linter.unusedVariables false
set_option linter.unusedSimpArgs false
section
variable {α : Type} {R : α → List Value → Prop} {enc : α → List Value} {sz : Nat}
theorem flat_length (hl : ∀ x, (enc x).length = sz) : ∀ ps : List α, (ps.flatMap enc).length = ps.length * sz
  | [] => by simp
  | x :: ps => by
    rw [List.flatMap_cons, List.length_append, hl, flat_length hl ps, List.length_cons, Nat.add_mul, Nat.one_mul, Nat.add_comm]
theorem flat_take (hl : ∀ x, (enc x).length = sz) : ∀ (ps : List α) (i : Nat), (ps.flatMap enc).take (i * sz) = (ps.take i).flatMap enc
  | [], i => by simp
  | x :: ps, 0 => by simp
  | x :: ps, i + 1 => by
    rw [List.flatMap_cons, Nat.add_mul, Nat.one_mul, List.take_succ_cons, List.flatMap_cons, Nat.add_comm, ← hl x, List.take_length_add_append, hl x, flat_take hl ps i]
theorem flat_drop (hl : ∀ x, (enc x).length = sz) : ∀ (ps : List α) (i : Nat), (ps.flatMap enc).drop (i * sz) = (ps.drop i).flatMap enc
  | [], i => by simp
  | x :: ps, 0 => by simp
  | x :: ps, i + 1 => by
    rw [List.flatMap_cons, Nat.add_mul, Nat.one_mul, List.drop_succ_cons, Nat.add_comm, ← hl x, List.drop_length_add_append, hl x, flat_drop hl ps i]
theorem reps_flat (hl : ∀ x, (enc x).length = sz) (hR : ∀ x c, R x c → c = enc x) : ∀ (ps : List α) (cs : List Value), Reps R sz ps cs → cs = ps.flatMap enc
  | [], cs, h => by have := h.1; simp at this; simp [this]
  | x :: ps, cs, h => by
    have h0 := hR _ _ (h.2 0 x rfl)
    rw [Nat.zero_mul, List.drop_zero] at h0
    have h1 : Reps R sz ps (cs.drop sz) := by
      refine ⟨by rw [List.length_drop, h.1, List.length_cons, Nat.add_mul]; omega, fun j p hj => ?_⟩
      have := h.2 (j + 1) p (by simpa using hj)
      rw [List.drop_drop]
      rwa [Nat.add_mul, Nat.one_mul, Nat.add_comm] at this
    rw [List.flatMap_cons, ← reps_flat hl hR ps _ h1, ← h0, List.take_append_drop]
theorem flat_reps (hl : ∀ x, (enc x).length = sz) (hR : ∀ x, R x (enc x)) (ps : List α) : Reps R sz ps (ps.flatMap enc) := by
  refine ⟨flat_length hl ps, fun j p hj => ?_⟩
  have hlt := (List.getElem?_eq_some_iff.1 hj).1
  have he := (List.getElem?_eq_some_iff.1 hj).2
  rw [flat_drop hl, List.drop_eq_getElem_cons hlt, List.flatMap_cons, he, ← hl p, List.take_left]
  exact hR p
theorem flat_one (h1 : ∀ x, ∀ u ∈ enc x, u.oneCell' = true) (ps : List α) : ∀ u ∈ ps.flatMap enc, u.oneCell' = true := by
  intro u hu
  obtain ⟨x, _, hx⟩ := List.mem_flatMap.1 hu
  exact h1 x u hx
end
section
variable {α : Type} {d : Kd α} {e : Nat} {w : World} {base : Nat} {ok : Nat → Prop} {v : Value} {enc : α → List Value}
theorem R_cells (hl : ∀ x, (enc x).length = d.sz) (hM : ∀ {w base ok x cs}, d.M w base ok x cs → cs = enc x) {xs : List α} (h : d.R e w base ok v xs) : w.ownsRow base e d.sz v xs.length (xs.flatMap enc) := by
  obtain ⟨_, inner, ho, hr⟩ := h
  rw [← reps_flat hl (fun x c hc => hM hc) xs inner hr]
  exact ho
theorem R_of_cells (hl : ∀ x, (enc x).length = d.sz) (hM : ∀ (w : World) (base : Nat) (ok : Nat → Prop) (x : α), d.M w base ok x (enc x)) {xs : List α} (h : w.ownsRow base e d.sz v xs.length (xs.flatMap enc)) (hok : ∀ k, v.ownBlock = some k → ok k) : d.R e w base ok v xs :=
  ⟨hok, _, h, flat_reps hl (fun x => hM _ _ _ x) xs⟩
end
section
variable {α : Type} {d : Kd α} {enc : α → List Value}
theorem flat_get {sz : Nat} (hl : ∀ x, (enc x).length = sz) : ∀ (ps : List α) (m : Nat) (u : Value), (ps.flatMap enc)[m]? = some u → ∃ j i p, m = j * sz + i ∧ ps[j]? = some p ∧ (enc p)[i]? = some u
  | [], m, u, h => by simp at h
  | x :: ps, m, u, h => by
    rw [List.flatMap_cons] at h
    rcases Nat.lt_or_ge m sz with hm | hm
    · rw [List.getElem?_append_left (by rw [hl]; exact hm)] at h
      exact ⟨0, m, x, by omega, rfl, h⟩
    · rw [List.getElem?_append_right (by rw [hl]; exact hm), hl] at h
      obtain ⟨j, i, p, h1, h2, h3⟩ := flat_get hl ps (m - sz) u h
      exact ⟨j + 1, i, p, by rw [Nat.add_mul]; omega, by simpa using h2, h3⟩
theorem C_news (hl : ∀ x, (enc x).length = d.sz) (hK : ∀ {w x cs}, d.K w x cs → cs = enc x) {w : World} {ad : Addr} {n : Nat} {xs : List α} (h : d.C w (some ad) n xs) : ∀ j u, (xs.flatMap enc)[j]? = some u → w.cell? (ad.add j) = some u := by
  intro m u hm
  obtain ⟨j, i, p, h1, h2, h3⟩ := flat_get hl xs m u hm
  have hj := (List.getElem?_eq_some_iff.1 h2).1
  have hn : 0 < n := by rw [← h.1]; omega
  obtain ⟨ad', e, hc⟩ := h.2.2 hn
  cases e
  obtain ⟨c, hcl, hR, hcc⟩ := hc j p h2
  rw [h1]
  exact hcc i u (by rw [hK hR]; exact h3)
end
def regCells (x : S47) : List Value := [.string x.f0, .string x.f1, .int .i64 x.f2, .int .i64 x.f3.f0, .int .i64 x.f3.f1]
def regRow (l : List S47) : List Value := l.flatMap regCells
theorem regCells_length (x : S47) : (regCells x).length = k47.sz := rfl
theorem regCells_one (x : S47) : ∀ u ∈ regCells x, u.oneCell' = true := by
  intro u hu
  simp only [regCells, List.mem_cons, List.not_mem_nil, or_false] at hu
  rcases hu with rfl | rfl | rfl | rfl | rfl <;> rfl
theorem reg_R {w : World} {base : Nat} {ok : Nat → Prop} {v : Value} {xs : List S47} (h : k47.R 47 w base ok v xs) : w.ownsRow base 47 5 v xs.length (regRow xs) :=
  R_cells (enc := regCells) regCells_length (fun hc => k47_openM hc) h
theorem R_reg {w : World} {base : Nat} {v : Value} {xs : List S47} (h : w.ownsRow base 47 5 v xs.length (regRow xs)) : k47.R 47 w base (fun _ => True) v xs :=
  R_of_cells (d := k47) (enc := regCells) regCells_length (fun w base ok x => k47_mkM w base ok x) h (fun _ _ => trivial)
end Go.Proofs.YtmcddoolniaehaaGreat.S
end
section
namespace Go.Proofs
open Go.Shelf
def Tryz.lays190_ren : Go.Shelf.Ren := ⟨fun | 190 => 121 | 125 => 126 | 258 => 131 | 128 => 144 | 129 => 145 | 302 => 148 | 303 => 149 | 304 => 150 | 305 => 151 | 306 => 152 | 307 => 153 | 308 => 154 | 309 => 155 | 310 => 156 | 333 => 163 | 329 => 159 | 330 => 160 | 334 => 164 | 335 => 165 | 336 => 146 | 344 => 168 | n => n, fun | 31 => 50 | 9 => 9 | 3 => 3 | 46 => 115 | 0 => 0 | 51 => 159 | 53 => 76 | 4 => 4 | 183 => 153 | 182 => 152 | 131 => 139 | 5 => 5 | 218 => 167 | 222 => 171 | 228 => 176 | 229 => 177 | n => n, fun | n => n⟩
theorem Tryz.lays190 : Go.Proofs.Lays.n190 Tryz.prog Tryz.lays190_ren := {
  mixed := by kernel_rfl
  f125 := Tryz.func126.trans (congrArg some (by kernel_rfl))
  f128 := Tryz.func144.trans (congrArg some (by kernel_rfl))
  f129 := Tryz.func145.trans (congrArg some (by kernel_rfl))
  f190 := Tryz.func121.trans (congrArg some (by kernel_rfl))
  f258 := Tryz.func131.trans (congrArg some (by kernel_rfl))
  f302 := Tryz.func148.trans (congrArg some (by kernel_rfl))
  f303 := Tryz.func149.trans (congrArg some (by kernel_rfl))
  f304 := Tryz.func150.trans (congrArg some (by kernel_rfl))
  f305 := Tryz.func151.trans (congrArg some (by kernel_rfl))
  f306 := Tryz.func152.trans (congrArg some (by kernel_rfl))
  f307 := Tryz.func153.trans (congrArg some (by kernel_rfl))
  f308 := Tryz.func154.trans (congrArg some (by kernel_rfl))
  f309 := Tryz.func155.trans (congrArg some (by kernel_rfl))
  f310 := Tryz.func156.trans (congrArg some (by kernel_rfl))
  f329 := Tryz.func159.trans (congrArg some (by kernel_rfl))
  f330 := Tryz.func160.trans (congrArg some (by kernel_rfl))
  f333 := Tryz.func163.trans (congrArg some (by kernel_rfl))
  f334 := Tryz.func164.trans (congrArg some (by kernel_rfl))
  f335 := Tryz.func165.trans (congrArg some (by kernel_rfl))
  f336 := Tryz.func146.trans (congrArg some (by kernel_rfl))
  f344 := Tryz.func168.trans (congrArg some (by kernel_rfl))
  t0 := Tryz.underlying0
  a0 := Tryz.isAgg0
  z0 := Tryz.sizeOf0
  v0 := Tryz.zeroValue0
  t3 := Tryz.underlying3
  a3 := Tryz.isAgg3
  z3 := Tryz.sizeOf3
  v3 := Tryz.zeroValue3
  t4 := Tryz.underlying4
  a4 := Tryz.isAgg4
  z4 := Tryz.sizeOf4
  v4 := Tryz.zeroValue4
  t5 := Tryz.underlying5
  a5 := Tryz.isAgg5
  z5 := Tryz.sizeOf5
  v5 := Tryz.zeroValue5
  t9 := Tryz.underlying9
  a9 := Tryz.isAgg9
  z9 := Tryz.sizeOf9
  v9 := Tryz.zeroValue9
  t31 := Tryz.underlying50
  a31 := Tryz.isAgg50
  z31 := Tryz.sizeOf50
  v31 := Tryz.zeroValue50
  t46 := Tryz.underlying115
  a46 := Tryz.isAgg115
  z46 := Tryz.sizeOf115
  v46 := Tryz.zeroValue115
  t51 := Tryz.underlying159
  a51 := Tryz.isAgg159
  z51 := Tryz.sizeOf159
  v51 := Tryz.zeroValue159
  t53 := Tryz.underlying76
  a53 := Tryz.isAgg76
  z53 := Tryz.sizeOf76
  v53 := Tryz.zeroValue76
  t131 := Tryz.underlying139
  a131 := Tryz.isAgg139
  z131 := Tryz.sizeOf139
  v131 := Tryz.zeroValue139
  t182 := Tryz.underlying152
  a182 := Tryz.isAgg152
  z182 := Tryz.sizeOf152
  v182 := Tryz.zeroValue152
  t183 := Tryz.underlying153
  a183 := Tryz.isAgg153
  z183 := Tryz.sizeOf153
  v183 := Tryz.zeroValue153
  t218 := Tryz.underlying167
  a218 := Tryz.isAgg167
  z218 := Tryz.sizeOf167
  v218 := Tryz.zeroValue167
  t222 := Tryz.underlying171
  a222 := Tryz.isAgg171
  z222 := Tryz.sizeOf171
  v222 := Tryz.zeroValue171
  t228 := Tryz.underlying176
  a228 := Tryz.isAgg176
  z228 := Tryz.sizeOf176
  v228 := Tryz.zeroValue176
  t229 := Tryz.underlying177
  a229 := Tryz.isAgg177
  z229 := Tryz.sizeOf177
  v229 := Tryz.zeroValue177 }
open Go.Sort Go.RowKit in
theorem Tryz.slices_Sort_string (blk off cap : Nat) (ss : List (List UInt8)) (w : World) (hH : Holds encStr w blk off ss.toArray) (hblk : blk < w.heap.size) (hsz : ss.length < 4611686018427387904) :
    Calls Tryz.prog 121 #[.slice (some ⟨blk, off, none⟩) ss.length cap] w fun e w' =>
      e = .returned (.tuple #[]) ∧ ∃ n os, w' = grow (putRow encStr (Sort.ahead w n) blk off (ss.mergeSort fun x y => decide (x ≤ y)).toArray) os := Any.slices_Sort_string Tryz.lays190 blk off cap ss w hH hblk hsz
def Tryz.lays194_ren : Go.Shelf.Ren := ⟨fun | 194 => 72 | n => n, fun | 31 => 50 | 9 => 9 | 3 => 3 | 4 => 4 | 0 => 0 | n => n, fun | n => n⟩
theorem Tryz.lays194 : Go.Proofs.Lays.n194 Tryz.prog Tryz.lays194_ren := {
  mixed := by kernel_rfl
  f194 := Tryz.func72.trans (congrArg some (by kernel_rfl))
  t0 := Tryz.underlying0
  a0 := Tryz.isAgg0
  z0 := Tryz.sizeOf0
  v0 := Tryz.zeroValue0
  t3 := Tryz.underlying3
  a3 := Tryz.isAgg3
  z3 := Tryz.sizeOf3
  v3 := Tryz.zeroValue3
  t4 := Tryz.underlying4
  a4 := Tryz.isAgg4
  z4 := Tryz.sizeOf4
  v4 := Tryz.zeroValue4
  t9 := Tryz.underlying9
  a9 := Tryz.isAgg9
  z9 := Tryz.sizeOf9
  v9 := Tryz.zeroValue9
  t31 := Tryz.underlying50
  a31 := Tryz.isAgg50
  z31 := Tryz.sizeOf50
  v31 := Tryz.zeroValue50 }
open Go.RowKit Go.Lib Go.Sort in
theorem Tryz.slices_Compact_string_arr (blk off cap : Nat) (d : Array (List UInt8)) (w : World) (hH : Holds encStr w blk off d) (hsz : d.size ≤ 9223372036854775807) (hcap : d.size ≤ cap) :
    Calls Tryz.prog 72 #[.slice (some ⟨blk, off, none⟩) d.size cap] w fun e w' => e = .returned (.slice (some ⟨blk, off, none⟩) (compactUpTo d d.size).length cap) ∧ ∃ q, w' = putRow encStr (Sort.ahead w q) blk off (compactUpTo d d.size ++ List.replicate (d.size - (compactUpTo d d.size).length) []).toArray := Any.slices_Compact_string_arr Tryz.lays194 blk off cap d w hH hsz hcap
open Go.RowKit Go.Lib Go.Sort in
theorem Tryz.slices_Compact_string (blk off cap : Nat) (zs : List (List UInt8)) (w : World) (hH : Holds encStr w blk off zs.toArray) (hsz : zs.length ≤ 9223372036854775807) (hcap : zs.length ≤ cap) :
    Calls Tryz.prog 72 #[.slice (some ⟨blk, off, none⟩) zs.length cap] w fun e w' => e = .returned (.slice (some ⟨blk, off, none⟩) (Lib.compact zs).length cap) ∧ ∃ q, w' = putRow encStr (Sort.ahead w q) blk off (Lib.compact zs ++ List.replicate (zs.length - (Lib.compact zs).length) []).toArray := Any.slices_Compact_string Tryz.lays194 blk off cap zs w hH hsz hcap
open Go.RowKit Go.Lib Go.Sort in
theorem Tryz.slices_Compact_string_empty (a : Option Addr) (cap : Nat) (w : World) :
    Calls Tryz.prog 72 #[.slice a 0 cap] w fun e w' => e = .returned (.slice a 0 cap) ∧ w' = w := Any.slices_Compact_string_empty Tryz.lays194 a cap w
open Go.RowKit Go.Lib Go.Sort in
theorem Tryz.slices_Compact_string_cells (b off n c : Nat) (Sx : Nat → ByteArray) (w : World) (hbig : n ≤ 9223372036854775807) (hcap : n ≤ c) (hc : ∀ i, i < n → w.cell? ⟨b, off + i, none⟩ = some (.string (Sx i))) (hf : ∀ j, j < n → w.frozen? ⟨b, off + j, none⟩ = false) :
    Calls Tryz.prog 72 #[.slice (some ⟨b, off, none⟩) n c] w fun e w' => e = .returned (.slice (some ⟨b, off, none⟩) (Lib.compact (Lib.strsOf Sx n)).length c) ∧ ∃ q, w' = (w.drewN q).setCells b off ((Lib.compact (Lib.strsOf Sx n) ++ List.replicate (n - (Lib.compact (Lib.strsOf Sx n)).length) []).map encStr) := Any.slices_Compact_string_cells Tryz.lays194 b off n c Sx w hbig hcap hc hf
open Go.RowKit Go.Sort in
theorem Tryz.slices_Sort_string_none (p : Option Addr) (cap : Nat) (w : World) :
    Calls Tryz.prog 121 #[.slice p 0 cap] w fun e w' => e = .returned (.tuple #[]) ∧ w' = w := Any.slices_Sort_string_none Tryz.lays190 p cap w
end Go.Proofs
end
