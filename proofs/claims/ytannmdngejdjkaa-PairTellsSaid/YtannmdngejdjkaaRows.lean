/-
  No cell of these rows narrows 'for every input' (looked for: loops, veiled, ifaces, maps, wideKeys, modest, calm, conditions, laid).
  DERIVED. THE GIVEN ROWS OF THIS SEAT. 17 by the template 'for every input the law returns true; each argument reads behind the call as it read before'; 0 by the template 'total and deterministic' (their statements: YtannmdngejdjkaaTotals.lean).
  GIVEN WITH THE SEED: the statements are not yours to turn. If you find one false, say at which input.
  Laid BY PROGRAM, IN A SANDBOX (cutbox-rows.mjs): the forced cells as the released guide's own fill.sh prints them over the translation 47c1da4b27818d66… (all of the seat's roots in one cut). By AI agents, Wed Nov 11 2026. No macro, syntax, notation, axiom, sorry.
-/
import Derived.Test.YtannmdngejdjkaaChecked
import GoSem.Claim
import GoSem.ClaimJoined
import GoSem.ClaimMapViews
import Derived.JoinedTies
import Derived.KernelRfl
namespace Go.Proofs.Ytannmdngejdjkaa
/- THE CELL 'sum', in the pinned program and in every row, IS THE sha256 OF THE DUMP (.gsa) THAT YtannmdngejdjkaaProg.lean LOADS. Nothing in Lean hashes anything: it is a label: what it is worth is what the hold of that sum in a sandbox is worth. -/
noncomputable def Try.pinned : Pinned := { name := "ytannmdngejdjkaa", sum := "47c1da4b27818d6610392442d32217615abaa773615985bd9418a0f43679ebef", checked := Try.checked }
namespace Rows
def none {H : Type} : Left H := { results := [], args := [] }

/-- 'anabranchlaw07.RegTells': WHATEVER THE INPUT: true; the input reads as it did. -/
def regTellsSpec : ChangeSpec := { name := "regTells", fn := fun _ => fun
  | [d1, d2, d3, d4] => { results := [.lit (.bool true)], args := [d1, d2, d3, d4] }
  | _ => none }
def regTellsRow : OpenClaim := { program := "ytannmdngejdjkaa", sum := "47c1da4b27818d6610392442d32217615abaa773615985bd9418a0f43679ebef", func := "anabranch/anabranchlaw07.RegTells", spec := "regTells", inPlace := ["internal/bytealg.IndexByteString", "slices.overlaps[anabranch/api.Reg]"], unfollowed := true, recurses := true, plainKeys := false, apart := false }
def RegTellsSaid : Prop := regTellsRow.holds Try.pinned (OpenSpec.ofChange regTellsSpec)

/-- ITS FALSE NEIGHBOUR: 'it returns false'. Refute it at one input. -/
def regTellsWrong : ChangeSpec := { name := "regTells", fn := fun _ => fun
  | [d1, d2, d3, d4] => { results := [.lit (.bool false)], args := [d1, d2, d3, d4] }
  | _ => none }
def RegTellsWrongFalsely : Prop := regTellsRow.holds Try.pinned (OpenSpec.ofChange regTellsWrong)

/-- 'anabranchlaw07.RegMerges': WHATEVER THE INPUT: true; the input reads as it did. -/
def regMergesSpec : ChangeSpec := { name := "regMerges", fn := fun _ => fun
  | [d1, d2, d3, d4] => { results := [.lit (.bool true)], args := [d1, d2, d3, d4] }
  | _ => none }
def regMergesRow : OpenClaim := { program := "ytannmdngejdjkaa", sum := "47c1da4b27818d6610392442d32217615abaa773615985bd9418a0f43679ebef", func := "anabranch/anabranchlaw07.RegMerges", spec := "regMerges", inPlace := ["internal/bytealg.IndexByteString", "slices.overlaps[anabranch/api.Reg]"], unfollowed := true, recurses := true, plainKeys := false, apart := false }
def RegMergesSaid : Prop := regMergesRow.holds Try.pinned (OpenSpec.ofChange regMergesSpec)

/-- ITS FALSE NEIGHBOUR: 'it returns false'. Refute it at one input. -/
def regMergesWrong : ChangeSpec := { name := "regMerges", fn := fun _ => fun
  | [d1, d2, d3, d4] => { results := [.lit (.bool false)], args := [d1, d2, d3, d4] }
  | _ => none }
def RegMergesWrongFalsely : Prop := regMergesRow.holds Try.pinned (OpenSpec.ofChange regMergesWrong)

/-- 'anabranchlaw07.RegNewer': WHATEVER THE INPUT: true; the input reads as it did. -/
def regNewerSpec : ChangeSpec := { name := "regNewer", fn := fun _ => fun
  | [d1, d2, d3] => { results := [.lit (.bool true)], args := [d1, d2, d3] }
  | _ => none }
def regNewerRow : OpenClaim := { program := "ytannmdngejdjkaa", sum := "47c1da4b27818d6610392442d32217615abaa773615985bd9418a0f43679ebef", func := "anabranch/anabranchlaw07.RegNewer", spec := "regNewer", inPlace := ["internal/bytealg.IndexByteString", "slices.overlaps[anabranch/api.Reg]"], unfollowed := true, recurses := true, plainKeys := false, apart := false }
def RegNewerSaid : Prop := regNewerRow.holds Try.pinned (OpenSpec.ofChange regNewerSpec)

/-- ITS FALSE NEIGHBOUR: 'it returns false'. Refute it at one input. -/
def regNewerWrong : ChangeSpec := { name := "regNewer", fn := fun _ => fun
  | [d1, d2, d3] => { results := [.lit (.bool false)], args := [d1, d2, d3] }
  | _ => none }
def RegNewerWrongFalsely : Prop := regNewerRow.holds Try.pinned (OpenSpec.ofChange regNewerWrong)

/-- 'anabranchlaw07.RegPuts': WHATEVER THE INPUT: true; the input reads as it did. -/
def regPutsSpec : ChangeSpec := { name := "regPuts", fn := fun _ => fun
  | [d1, d2, d3] => { results := [.lit (.bool true)], args := [d1, d2, d3] }
  | _ => none }
def regPutsRow : OpenClaim := { program := "ytannmdngejdjkaa", sum := "47c1da4b27818d6610392442d32217615abaa773615985bd9418a0f43679ebef", func := "anabranch/anabranchlaw07.RegPuts", spec := "regPuts", inPlace := ["internal/bytealg.IndexByteString", "slices.overlaps[anabranch/api.Reg]"], unfollowed := true, recurses := true, plainKeys := false, apart := false }
def RegPutsSaid : Prop := regPutsRow.holds Try.pinned (OpenSpec.ofChange regPutsSpec)

/-- ITS FALSE NEIGHBOUR: 'it returns false'. Refute it at one input. -/
def regPutsWrong : ChangeSpec := { name := "regPuts", fn := fun _ => fun
  | [d1, d2, d3] => { results := [.lit (.bool false)], args := [d1, d2, d3] }
  | _ => none }
def RegPutsWrongFalsely : Prop := regPutsRow.holds Try.pinned (OpenSpec.ofChange regPutsWrong)

/-- 'anabranchlaw07.RegOld': WHATEVER THE INPUT: true; the input reads as it did. -/
def regOldSpec : ChangeSpec := { name := "regOld", fn := fun _ => fun
  | [d1, d2, d3] => { results := [.lit (.bool true)], args := [d1, d2, d3] }
  | _ => none }
def regOldRow : OpenClaim := { program := "ytannmdngejdjkaa", sum := "47c1da4b27818d6610392442d32217615abaa773615985bd9418a0f43679ebef", func := "anabranch/anabranchlaw07.RegOld", spec := "regOld", inPlace := ["internal/bytealg.IndexByteString", "slices.overlaps[anabranch/api.Reg]"], unfollowed := true, recurses := true, plainKeys := false, apart := false }
def RegOldSaid : Prop := regOldRow.holds Try.pinned (OpenSpec.ofChange regOldSpec)

/-- ITS FALSE NEIGHBOUR: 'it returns false'. Refute it at one input. -/
def regOldWrong : ChangeSpec := { name := "regOld", fn := fun _ => fun
  | [d1, d2, d3] => { results := [.lit (.bool false)], args := [d1, d2, d3] }
  | _ => none }
def RegOldWrongFalsely : Prop := regOldRow.holds Try.pinned (OpenSpec.ofChange regOldWrong)

/-- 'anabranchlaw06.CtrTells': WHATEVER THE INPUT: true; the input reads as it did. -/
def ctrTellsSpec : ChangeSpec := { name := "ctrTells", fn := fun _ => fun
  | [d1, d2, d3, d4, d5] => { results := [.lit (.bool true)], args := [d1, d2, d3, d4, d5] }
  | _ => none }
def ctrTellsRow : OpenClaim := { program := "ytannmdngejdjkaa", sum := "47c1da4b27818d6610392442d32217615abaa773615985bd9418a0f43679ebef", func := "anabranch/anabranchlaw06.CtrTells", spec := "ctrTells", inPlace := ["internal/bytealg.IndexByteString"], unfollowed := true, recurses := true, plainKeys := false, apart := false }
def CtrTellsSaid : Prop := ctrTellsRow.holds Try.pinned (OpenSpec.ofChange ctrTellsSpec)

/-- ITS FALSE NEIGHBOUR: 'it returns false'. Refute it at one input. -/
def ctrTellsWrong : ChangeSpec := { name := "ctrTells", fn := fun _ => fun
  | [d1, d2, d3, d4, d5] => { results := [.lit (.bool false)], args := [d1, d2, d3, d4, d5] }
  | _ => none }
def CtrTellsWrongFalsely : Prop := ctrTellsRow.holds Try.pinned (OpenSpec.ofChange ctrTellsWrong)

/-- 'anabranchlaw06.CtrIncs': WHATEVER THE INPUT: true; the input reads as it did. -/
def ctrIncsSpec : ChangeSpec := { name := "ctrIncs", fn := fun _ => fun
  | [d1, d2, d3, d4] => { results := [.lit (.bool true)], args := [d1, d2, d3, d4] }
  | _ => none }
def ctrIncsRow : OpenClaim := { program := "ytannmdngejdjkaa", sum := "47c1da4b27818d6610392442d32217615abaa773615985bd9418a0f43679ebef", func := "anabranch/anabranchlaw06.CtrIncs", spec := "ctrIncs", inPlace := ["internal/bytealg.IndexByteString"], unfollowed := true, recurses := true, plainKeys := false, apart := false }
def CtrIncsSaid : Prop := ctrIncsRow.holds Try.pinned (OpenSpec.ofChange ctrIncsSpec)

/-- ITS FALSE NEIGHBOUR: 'it returns false'. Refute it at one input. -/
def ctrIncsWrong : ChangeSpec := { name := "ctrIncs", fn := fun _ => fun
  | [d1, d2, d3, d4] => { results := [.lit (.bool false)], args := [d1, d2, d3, d4] }
  | _ => none }
def CtrIncsWrongFalsely : Prop := ctrIncsRow.holds Try.pinned (OpenSpec.ofChange ctrIncsWrong)

/-- 'anabranchlaw06.CtrMerges': WHATEVER THE INPUT: true; the input reads as it did. -/
def ctrMergesSpec : ChangeSpec := { name := "ctrMerges", fn := fun _ => fun
  | [d1, d2, d3, d4, d5, d6] => { results := [.lit (.bool true)], args := [d1, d2, d3, d4, d5, d6] }
  | _ => none }
def ctrMergesRow : OpenClaim := { program := "ytannmdngejdjkaa", sum := "47c1da4b27818d6610392442d32217615abaa773615985bd9418a0f43679ebef", func := "anabranch/anabranchlaw06.CtrMerges", spec := "ctrMerges", inPlace := ["internal/bytealg.IndexByteString"], unfollowed := true, recurses := true, plainKeys := false, apart := false }
def CtrMergesSaid : Prop := ctrMergesRow.holds Try.pinned (OpenSpec.ofChange ctrMergesSpec)

/-- ITS FALSE NEIGHBOUR: 'it returns false'. Refute it at one input. -/
def ctrMergesWrong : ChangeSpec := { name := "ctrMerges", fn := fun _ => fun
  | [d1, d2, d3, d4, d5, d6] => { results := [.lit (.bool false)], args := [d1, d2, d3, d4, d5, d6] }
  | _ => none }
def CtrMergesWrongFalsely : Prop := ctrMergesRow.holds Try.pinned (OpenSpec.ofChange ctrMergesWrong)

/-- 'anabranchlaw06.CtrBase': WHATEVER THE INPUT: true; the input reads as it did. -/
def ctrBaseSpec : ChangeSpec := { name := "ctrBase", fn := fun _ => fun
  | [d1, d2, d3, d4] => { results := [.lit (.bool true)], args := [d1, d2, d3, d4] }
  | _ => none }
def ctrBaseRow : OpenClaim := { program := "ytannmdngejdjkaa", sum := "47c1da4b27818d6610392442d32217615abaa773615985bd9418a0f43679ebef", func := "anabranch/anabranchlaw06.CtrBase", spec := "ctrBase", inPlace := ["internal/bytealg.IndexByteString"], unfollowed := true, recurses := true, plainKeys := false, apart := false }
def CtrBaseSaid : Prop := ctrBaseRow.holds Try.pinned (OpenSpec.ofChange ctrBaseSpec)

/-- ITS FALSE NEIGHBOUR: 'it returns false'. Refute it at one input. -/
def ctrBaseWrong : ChangeSpec := { name := "ctrBase", fn := fun _ => fun
  | [d1, d2, d3, d4] => { results := [.lit (.bool false)], args := [d1, d2, d3, d4] }
  | _ => none }
def CtrBaseWrongFalsely : Prop := ctrBaseRow.holds Try.pinned (OpenSpec.ofChange ctrBaseWrong)

/-- 'anabranchlaw06.CtrNone': WHATEVER THE INPUT: true; the input reads as it did. -/
def ctrNoneSpec : ChangeSpec := { name := "ctrNone", fn := fun _ => fun
  | [d1, d2] => { results := [.lit (.bool true)], args := [d1, d2] }
  | _ => none }
def ctrNoneRow : OpenClaim := { program := "ytannmdngejdjkaa", sum := "47c1da4b27818d6610392442d32217615abaa773615985bd9418a0f43679ebef", func := "anabranch/anabranchlaw06.CtrNone", spec := "ctrNone", inPlace := ["internal/bytealg.IndexByteString"], unfollowed := true, recurses := true, plainKeys := false, apart := false }
def CtrNoneSaid : Prop := ctrNoneRow.holds Try.pinned (OpenSpec.ofChange ctrNoneSpec)

/-- ITS FALSE NEIGHBOUR: 'it returns false'. Refute it at one input. -/
def ctrNoneWrong : ChangeSpec := { name := "ctrNone", fn := fun _ => fun
  | [d1, d2] => { results := [.lit (.bool false)], args := [d1, d2] }
  | _ => none }
def CtrNoneWrongFalsely : Prop := ctrNoneRow.holds Try.pinned (OpenSpec.ofChange ctrNoneWrong)

/-- 'anabranchlaw06.CtrKeys': WHATEVER THE INPUT: true; the input reads as it did. -/
def ctrKeysSpec : ChangeSpec := { name := "ctrKeys", fn := fun _ => fun
  | [d1, d2, d3, d4] => { results := [.lit (.bool true)], args := [d1, d2, d3, d4] }
  | _ => none }
def ctrKeysRow : OpenClaim := { program := "ytannmdngejdjkaa", sum := "47c1da4b27818d6610392442d32217615abaa773615985bd9418a0f43679ebef", func := "anabranch/anabranchlaw06.CtrKeys", spec := "ctrKeys", inPlace := ["internal/bytealg.IndexByteString"], unfollowed := true, recurses := true, plainKeys := false, apart := false }
def CtrKeysSaid : Prop := ctrKeysRow.holds Try.pinned (OpenSpec.ofChange ctrKeysSpec)

/-- ITS FALSE NEIGHBOUR: 'it returns false'. Refute it at one input. -/
def ctrKeysWrong : ChangeSpec := { name := "ctrKeys", fn := fun _ => fun
  | [d1, d2, d3, d4] => { results := [.lit (.bool false)], args := [d1, d2, d3, d4] }
  | _ => none }
def CtrKeysWrongFalsely : Prop := ctrKeysRow.holds Try.pinned (OpenSpec.ofChange ctrKeysWrong)

/-- 'anabranchlaw08.PairTells': WHATEVER THE INPUT: true; the input reads as it did. -/
def pairTellsSpec : ChangeSpec := { name := "pairTells", fn := fun _ => fun
  | [d1, d2, d3, d4] => { results := [.lit (.bool true)], args := [d1, d2, d3, d4] }
  | _ => none }
def pairTellsRow : OpenClaim := { program := "ytannmdngejdjkaa", sum := "47c1da4b27818d6610392442d32217615abaa773615985bd9418a0f43679ebef", func := "anabranch/anabranchlaw08.PairTells", spec := "pairTells", inPlace := ["internal/bytealg.IndexByteString"], unfollowed := true, recurses := true, plainKeys := false, apart := false }
def PairTellsSaid : Prop := pairTellsRow.holds Try.pinned (OpenSpec.ofChange pairTellsSpec)

/-- ITS FALSE NEIGHBOUR: 'it returns false'. Refute it at one input. -/
def pairTellsWrong : ChangeSpec := { name := "pairTells", fn := fun _ => fun
  | [d1, d2, d3, d4] => { results := [.lit (.bool false)], args := [d1, d2, d3, d4] }
  | _ => none }
def PairTellsWrongFalsely : Prop := pairTellsRow.holds Try.pinned (OpenSpec.ofChange pairTellsWrong)

/-- 'anabranchlaw08.PairWins': WHATEVER THE INPUT: true; the input reads as it did. -/
def pairWinsSpec : ChangeSpec := { name := "pairWins", fn := fun _ => fun
  | [d1, d2, d3, d4] => { results := [.lit (.bool true)], args := [d1, d2, d3, d4] }
  | _ => none }
def pairWinsRow : OpenClaim := { program := "ytannmdngejdjkaa", sum := "47c1da4b27818d6610392442d32217615abaa773615985bd9418a0f43679ebef", func := "anabranch/anabranchlaw08.PairWins", spec := "pairWins", inPlace := ["internal/bytealg.IndexByteString"], unfollowed := true, recurses := true, plainKeys := false, apart := false }
def PairWinsSaid : Prop := pairWinsRow.holds Try.pinned (OpenSpec.ofChange pairWinsSpec)

/-- ITS FALSE NEIGHBOUR: 'it returns false'. Refute it at one input. -/
def pairWinsWrong : ChangeSpec := { name := "pairWins", fn := fun _ => fun
  | [d1, d2, d3, d4] => { results := [.lit (.bool false)], args := [d1, d2, d3, d4] }
  | _ => none }
def PairWinsWrongFalsely : Prop := pairWinsRow.holds Try.pinned (OpenSpec.ofChange pairWinsWrong)

/-- 'anabranchlaw08.PairMerges': WHATEVER THE INPUT: true; the input reads as it did. -/
def pairMergesSpec : ChangeSpec := { name := "pairMerges", fn := fun _ => fun
  | [d1, d2, d3] => { results := [.lit (.bool true)], args := [d1, d2, d3] }
  | _ => none }
def pairMergesRow : OpenClaim := { program := "ytannmdngejdjkaa", sum := "47c1da4b27818d6610392442d32217615abaa773615985bd9418a0f43679ebef", func := "anabranch/anabranchlaw08.PairMerges", spec := "pairMerges", inPlace := ["internal/bytealg.IndexByteString"], unfollowed := true, recurses := true, plainKeys := false, apart := false }
def PairMergesSaid : Prop := pairMergesRow.holds Try.pinned (OpenSpec.ofChange pairMergesSpec)

/-- ITS FALSE NEIGHBOUR: 'it returns false'. Refute it at one input. -/
def pairMergesWrong : ChangeSpec := { name := "pairMerges", fn := fun _ => fun
  | [d1, d2, d3] => { results := [.lit (.bool false)], args := [d1, d2, d3] }
  | _ => none }
def PairMergesWrongFalsely : Prop := pairMergesRow.holds Try.pinned (OpenSpec.ofChange pairMergesWrong)

/-- 'anabranchlaw08.PairElems': WHATEVER THE INPUT: true; the input reads as it did. -/
def pairElemsSpec : ChangeSpec := { name := "pairElems", fn := fun _ => fun
  | [d1, d2] => { results := [.lit (.bool true)], args := [d1, d2] }
  | _ => none }
def pairElemsRow : OpenClaim := { program := "ytannmdngejdjkaa", sum := "47c1da4b27818d6610392442d32217615abaa773615985bd9418a0f43679ebef", func := "anabranch/anabranchlaw08.PairElems", spec := "pairElems", inPlace := ["internal/bytealg.IndexByteString"], unfollowed := true, recurses := true, plainKeys := false, apart := false }
def PairElemsSaid : Prop := pairElemsRow.holds Try.pinned (OpenSpec.ofChange pairElemsSpec)

/-- ITS FALSE NEIGHBOUR: 'it returns false'. Refute it at one input. -/
def pairElemsWrong : ChangeSpec := { name := "pairElems", fn := fun _ => fun
  | [d1, d2] => { results := [.lit (.bool false)], args := [d1, d2] }
  | _ => none }
def PairElemsWrongFalsely : Prop := pairElemsRow.holds Try.pinned (OpenSpec.ofChange pairElemsWrong)

/-- 'anabranchlaw08.PairOrder': WHATEVER THE INPUT: true; the input reads as it did. -/
def pairOrderSpec : ChangeSpec := { name := "pairOrder", fn := fun _ => fun
  | [d1, d2, d3] => { results := [.lit (.bool true)], args := [d1, d2, d3] }
  | _ => none }
def pairOrderRow : OpenClaim := { program := "ytannmdngejdjkaa", sum := "47c1da4b27818d6610392442d32217615abaa773615985bd9418a0f43679ebef", func := "anabranch/anabranchlaw08.PairOrder", spec := "pairOrder", inPlace := ["internal/bytealg.IndexByteString"], unfollowed := true, recurses := true, plainKeys := false, apart := false }
def PairOrderSaid : Prop := pairOrderRow.holds Try.pinned (OpenSpec.ofChange pairOrderSpec)

/-- ITS FALSE NEIGHBOUR: 'it returns false'. Refute it at one input. -/
def pairOrderWrong : ChangeSpec := { name := "pairOrder", fn := fun _ => fun
  | [d1, d2, d3] => { results := [.lit (.bool false)], args := [d1, d2, d3] }
  | _ => none }
def PairOrderWrongFalsely : Prop := pairOrderRow.holds Try.pinned (OpenSpec.ofChange pairOrderWrong)

/-- 'anabranchlaw08.PairThree': WHATEVER THE INPUT: true; the input reads as it did. -/
def pairThreeSpec : ChangeSpec := { name := "pairThree", fn := fun _ => fun
  | [d1, d2, d3, d4] => { results := [.lit (.bool true)], args := [d1, d2, d3, d4] }
  | _ => none }
def pairThreeRow : OpenClaim := { program := "ytannmdngejdjkaa", sum := "47c1da4b27818d6610392442d32217615abaa773615985bd9418a0f43679ebef", func := "anabranch/anabranchlaw08.PairThree", spec := "pairThree", inPlace := ["internal/bytealg.IndexByteString"], unfollowed := true, recurses := true, plainKeys := false, apart := false }
def PairThreeSaid : Prop := pairThreeRow.holds Try.pinned (OpenSpec.ofChange pairThreeSpec)

/-- ITS FALSE NEIGHBOUR: 'it returns false'. Refute it at one input. -/
def pairThreeWrong : ChangeSpec := { name := "pairThree", fn := fun _ => fun
  | [d1, d2, d3, d4] => { results := [.lit (.bool false)], args := [d1, d2, d3, d4] }
  | _ => none }
def PairThreeWrongFalsely : Prop := pairThreeRow.holds Try.pinned (OpenSpec.ofChange pairThreeWrong)

/- THE SECOND FORM. 'bulk': how many values and letters a reading holds, each counted each time it is reached (what is shared counts as often as it is met; a slice's spare places count too). A statement '..UptoSaid' is the law's where the arguments, and the package variables that the reading takes, are together of bulk at most 1048576: NARROWER than '..Said'. Prove '..Said' where nothing that the law and all that it calls make is longer than what came in: it says more and counts as full. Else prove '..UptoSaid'. A law counts once. -/
mutual
def uptoBulk {H : Type} : DataW H → Nat
  | .lit (.string bytes) => bytes.length + 1
  | .lit _ => 1
  | .nil => 1
  | .ptr d => uptoBulk d + 1
  | .slice elems spare => uptoBulkAll elems + uptoBulkAll spare + 1
  | .agg parts => uptoBulkAll parts + 1
  | .iface _ d => uptoBulk d + 1
  | .map entries => uptoBulkEntries entries + 1
  | .held _ => 1
def uptoBulkAll {H : Type} : List (DataW H) → Nat
  | [] => 0
  | d :: r => uptoBulk d + uptoBulkAll r
def uptoBulkEntries {H : Type} : List (Lit × DataW H) → Nat
  | [] => 0
  | x :: r => uptoBulkEntry x + uptoBulkEntries r
def uptoBulkEntry {H : Type} : Lit × DataW H → Nat
  | (.string bytes, d) => bytes.length + uptoBulk d + 1
  | (_, d) => uptoBulk d + 1
 end
def uptoSmall : (H : Type) → List (DataW H) → Bool := fun _ ds => decide (uptoBulkAll ds ≤ 1048576)
def OpenSpec.upto (s : _root_.Go.ChangeSpec) : _root_.Go.OpenSpec := { _root_.Go.OpenSpec.ofChange s with cond := some uptoSmall }

/-- 'anabranchlaw07.RegTells', WHERE WHAT IT READS IS OF BULK AT MOST 1048576: true; the input reads as it did. -/
def regTellsUptoRow : OpenClaim := { program := "ytannmdngejdjkaa", sum := "47c1da4b27818d6610392442d32217615abaa773615985bd9418a0f43679ebef", func := "anabranch/anabranchlaw07.RegTells", spec := "regTells", inPlace := ["internal/bytealg.IndexByteString", "slices.overlaps[anabranch/api.Reg]"], unfollowed := true, recurses := true, plainKeys := false, apart := false, narrowed := true }
def RegTellsUptoSaid : Prop := regTellsUptoRow.holds Try.pinned (OpenSpec.upto regTellsSpec)

/-- 'anabranchlaw07.RegMerges', WHERE WHAT IT READS IS OF BULK AT MOST 1048576: true; the input reads as it did. -/
def regMergesUptoRow : OpenClaim := { program := "ytannmdngejdjkaa", sum := "47c1da4b27818d6610392442d32217615abaa773615985bd9418a0f43679ebef", func := "anabranch/anabranchlaw07.RegMerges", spec := "regMerges", inPlace := ["internal/bytealg.IndexByteString", "slices.overlaps[anabranch/api.Reg]"], unfollowed := true, recurses := true, plainKeys := false, apart := false, narrowed := true }
def RegMergesUptoSaid : Prop := regMergesUptoRow.holds Try.pinned (OpenSpec.upto regMergesSpec)

/-- 'anabranchlaw07.RegNewer', WHERE WHAT IT READS IS OF BULK AT MOST 1048576: true; the input reads as it did. -/
def regNewerUptoRow : OpenClaim := { program := "ytannmdngejdjkaa", sum := "47c1da4b27818d6610392442d32217615abaa773615985bd9418a0f43679ebef", func := "anabranch/anabranchlaw07.RegNewer", spec := "regNewer", inPlace := ["internal/bytealg.IndexByteString", "slices.overlaps[anabranch/api.Reg]"], unfollowed := true, recurses := true, plainKeys := false, apart := false, narrowed := true }
def RegNewerUptoSaid : Prop := regNewerUptoRow.holds Try.pinned (OpenSpec.upto regNewerSpec)

/-- 'anabranchlaw07.RegPuts', WHERE WHAT IT READS IS OF BULK AT MOST 1048576: true; the input reads as it did. -/
def regPutsUptoRow : OpenClaim := { program := "ytannmdngejdjkaa", sum := "47c1da4b27818d6610392442d32217615abaa773615985bd9418a0f43679ebef", func := "anabranch/anabranchlaw07.RegPuts", spec := "regPuts", inPlace := ["internal/bytealg.IndexByteString", "slices.overlaps[anabranch/api.Reg]"], unfollowed := true, recurses := true, plainKeys := false, apart := false, narrowed := true }
def RegPutsUptoSaid : Prop := regPutsUptoRow.holds Try.pinned (OpenSpec.upto regPutsSpec)

/-- 'anabranchlaw07.RegOld', WHERE WHAT IT READS IS OF BULK AT MOST 1048576: true; the input reads as it did. -/
def regOldUptoRow : OpenClaim := { program := "ytannmdngejdjkaa", sum := "47c1da4b27818d6610392442d32217615abaa773615985bd9418a0f43679ebef", func := "anabranch/anabranchlaw07.RegOld", spec := "regOld", inPlace := ["internal/bytealg.IndexByteString", "slices.overlaps[anabranch/api.Reg]"], unfollowed := true, recurses := true, plainKeys := false, apart := false, narrowed := true }
def RegOldUptoSaid : Prop := regOldUptoRow.holds Try.pinned (OpenSpec.upto regOldSpec)

/-- 'anabranchlaw06.CtrTells', WHERE WHAT IT READS IS OF BULK AT MOST 1048576: true; the input reads as it did. -/
def ctrTellsUptoRow : OpenClaim := { program := "ytannmdngejdjkaa", sum := "47c1da4b27818d6610392442d32217615abaa773615985bd9418a0f43679ebef", func := "anabranch/anabranchlaw06.CtrTells", spec := "ctrTells", inPlace := ["internal/bytealg.IndexByteString"], unfollowed := true, recurses := true, plainKeys := false, apart := false, narrowed := true }
def CtrTellsUptoSaid : Prop := ctrTellsUptoRow.holds Try.pinned (OpenSpec.upto ctrTellsSpec)

/-- 'anabranchlaw06.CtrIncs', WHERE WHAT IT READS IS OF BULK AT MOST 1048576: true; the input reads as it did. -/
def ctrIncsUptoRow : OpenClaim := { program := "ytannmdngejdjkaa", sum := "47c1da4b27818d6610392442d32217615abaa773615985bd9418a0f43679ebef", func := "anabranch/anabranchlaw06.CtrIncs", spec := "ctrIncs", inPlace := ["internal/bytealg.IndexByteString"], unfollowed := true, recurses := true, plainKeys := false, apart := false, narrowed := true }
def CtrIncsUptoSaid : Prop := ctrIncsUptoRow.holds Try.pinned (OpenSpec.upto ctrIncsSpec)

/-- 'anabranchlaw06.CtrMerges', WHERE WHAT IT READS IS OF BULK AT MOST 1048576: true; the input reads as it did. -/
def ctrMergesUptoRow : OpenClaim := { program := "ytannmdngejdjkaa", sum := "47c1da4b27818d6610392442d32217615abaa773615985bd9418a0f43679ebef", func := "anabranch/anabranchlaw06.CtrMerges", spec := "ctrMerges", inPlace := ["internal/bytealg.IndexByteString"], unfollowed := true, recurses := true, plainKeys := false, apart := false, narrowed := true }
def CtrMergesUptoSaid : Prop := ctrMergesUptoRow.holds Try.pinned (OpenSpec.upto ctrMergesSpec)

/-- 'anabranchlaw06.CtrBase', WHERE WHAT IT READS IS OF BULK AT MOST 1048576: true; the input reads as it did. -/
def ctrBaseUptoRow : OpenClaim := { program := "ytannmdngejdjkaa", sum := "47c1da4b27818d6610392442d32217615abaa773615985bd9418a0f43679ebef", func := "anabranch/anabranchlaw06.CtrBase", spec := "ctrBase", inPlace := ["internal/bytealg.IndexByteString"], unfollowed := true, recurses := true, plainKeys := false, apart := false, narrowed := true }
def CtrBaseUptoSaid : Prop := ctrBaseUptoRow.holds Try.pinned (OpenSpec.upto ctrBaseSpec)

/-- 'anabranchlaw06.CtrNone', WHERE WHAT IT READS IS OF BULK AT MOST 1048576: true; the input reads as it did. -/
def ctrNoneUptoRow : OpenClaim := { program := "ytannmdngejdjkaa", sum := "47c1da4b27818d6610392442d32217615abaa773615985bd9418a0f43679ebef", func := "anabranch/anabranchlaw06.CtrNone", spec := "ctrNone", inPlace := ["internal/bytealg.IndexByteString"], unfollowed := true, recurses := true, plainKeys := false, apart := false, narrowed := true }
def CtrNoneUptoSaid : Prop := ctrNoneUptoRow.holds Try.pinned (OpenSpec.upto ctrNoneSpec)

/-- 'anabranchlaw06.CtrKeys', WHERE WHAT IT READS IS OF BULK AT MOST 1048576: true; the input reads as it did. -/
def ctrKeysUptoRow : OpenClaim := { program := "ytannmdngejdjkaa", sum := "47c1da4b27818d6610392442d32217615abaa773615985bd9418a0f43679ebef", func := "anabranch/anabranchlaw06.CtrKeys", spec := "ctrKeys", inPlace := ["internal/bytealg.IndexByteString"], unfollowed := true, recurses := true, plainKeys := false, apart := false, narrowed := true }
def CtrKeysUptoSaid : Prop := ctrKeysUptoRow.holds Try.pinned (OpenSpec.upto ctrKeysSpec)

/-- 'anabranchlaw08.PairTells', WHERE WHAT IT READS IS OF BULK AT MOST 1048576: true; the input reads as it did. -/
def pairTellsUptoRow : OpenClaim := { program := "ytannmdngejdjkaa", sum := "47c1da4b27818d6610392442d32217615abaa773615985bd9418a0f43679ebef", func := "anabranch/anabranchlaw08.PairTells", spec := "pairTells", inPlace := ["internal/bytealg.IndexByteString"], unfollowed := true, recurses := true, plainKeys := false, apart := false, narrowed := true }
def PairTellsUptoSaid : Prop := pairTellsUptoRow.holds Try.pinned (OpenSpec.upto pairTellsSpec)

/-- 'anabranchlaw08.PairWins', WHERE WHAT IT READS IS OF BULK AT MOST 1048576: true; the input reads as it did. -/
def pairWinsUptoRow : OpenClaim := { program := "ytannmdngejdjkaa", sum := "47c1da4b27818d6610392442d32217615abaa773615985bd9418a0f43679ebef", func := "anabranch/anabranchlaw08.PairWins", spec := "pairWins", inPlace := ["internal/bytealg.IndexByteString"], unfollowed := true, recurses := true, plainKeys := false, apart := false, narrowed := true }
def PairWinsUptoSaid : Prop := pairWinsUptoRow.holds Try.pinned (OpenSpec.upto pairWinsSpec)

/-- 'anabranchlaw08.PairMerges', WHERE WHAT IT READS IS OF BULK AT MOST 1048576: true; the input reads as it did. -/
def pairMergesUptoRow : OpenClaim := { program := "ytannmdngejdjkaa", sum := "47c1da4b27818d6610392442d32217615abaa773615985bd9418a0f43679ebef", func := "anabranch/anabranchlaw08.PairMerges", spec := "pairMerges", inPlace := ["internal/bytealg.IndexByteString"], unfollowed := true, recurses := true, plainKeys := false, apart := false, narrowed := true }
def PairMergesUptoSaid : Prop := pairMergesUptoRow.holds Try.pinned (OpenSpec.upto pairMergesSpec)

/-- 'anabranchlaw08.PairElems', WHERE WHAT IT READS IS OF BULK AT MOST 1048576: true; the input reads as it did. -/
def pairElemsUptoRow : OpenClaim := { program := "ytannmdngejdjkaa", sum := "47c1da4b27818d6610392442d32217615abaa773615985bd9418a0f43679ebef", func := "anabranch/anabranchlaw08.PairElems", spec := "pairElems", inPlace := ["internal/bytealg.IndexByteString"], unfollowed := true, recurses := true, plainKeys := false, apart := false, narrowed := true }
def PairElemsUptoSaid : Prop := pairElemsUptoRow.holds Try.pinned (OpenSpec.upto pairElemsSpec)

/-- 'anabranchlaw08.PairOrder', WHERE WHAT IT READS IS OF BULK AT MOST 1048576: true; the input reads as it did. -/
def pairOrderUptoRow : OpenClaim := { program := "ytannmdngejdjkaa", sum := "47c1da4b27818d6610392442d32217615abaa773615985bd9418a0f43679ebef", func := "anabranch/anabranchlaw08.PairOrder", spec := "pairOrder", inPlace := ["internal/bytealg.IndexByteString"], unfollowed := true, recurses := true, plainKeys := false, apart := false, narrowed := true }
def PairOrderUptoSaid : Prop := pairOrderUptoRow.holds Try.pinned (OpenSpec.upto pairOrderSpec)

/-- 'anabranchlaw08.PairThree', WHERE WHAT IT READS IS OF BULK AT MOST 1048576: true; the input reads as it did. -/
def pairThreeUptoRow : OpenClaim := { program := "ytannmdngejdjkaa", sum := "47c1da4b27818d6610392442d32217615abaa773615985bd9418a0f43679ebef", func := "anabranch/anabranchlaw08.PairThree", spec := "pairThree", inPlace := ["internal/bytealg.IndexByteString"], unfollowed := true, recurses := true, plainKeys := false, apart := false, narrowed := true }
def PairThreeUptoSaid : Prop := pairThreeUptoRow.holds Try.pinned (OpenSpec.upto pairThreeSpec)

end Rows
end Go.Proofs.Ytannmdngejdjkaa
