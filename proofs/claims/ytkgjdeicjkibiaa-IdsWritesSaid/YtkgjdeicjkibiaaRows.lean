/-
  No cell of these rows narrows 'for every input' (looked for: loops, veiled, ifaces, maps, wideKeys, modest, calm, conditions, laid).
  DERIVED. THE GIVEN ROWS OF THIS SEAT. 6 by the template 'for every input the law returns true; each argument reads behind the call as it read before'; 0 by the template 'total and deterministic' (their statements: YtkgjdeicjkibiaaTotals.lean).
  GIVEN WITH THE SEED: the statements are not yours to turn. If you find one false, say at which input.
  Laid BY PROGRAM, IN A SANDBOX (cutbox-rows.mjs): the forced cells as the released guide's own fill.sh prints them over the translation f3dff992ed4aaf83… (all of the seat's roots in one cut). By AI agents, Wed Nov 11 2026. No macro, syntax, notation, axiom, sorry.
-/
import Derived.Test.YtkgjdeicjkibiaaChecked
import GoSem.Claim
import GoSem.ClaimJoined
import GoSem.ClaimMapViews
import Derived.JoinedTies
import Derived.KernelRfl
namespace Go.Proofs.Ytkgjdeicjkibiaa
/- THE CELL 'sum', in the pinned program and in every row, IS THE sha256 OF THE DUMP (.gsa) THAT YtkgjdeicjkibiaaProg.lean LOADS. Nothing in Lean hashes anything: it is a label: what it is worth is what the hold of that sum in a sandbox is worth. -/
noncomputable def Try.pinned : Pinned := { name := "ytkgjdeicjkibiaa", sum := "f3dff992ed4aaf831da2198ba2aa2351fe3ba0ff5d327aac1d05bf7e55482629", checked := Try.checked }
namespace Rows
def none {H : Type} : Left H := { results := [], args := [] }

/-- 'anabranchlaw04.IdsWrites': WHATEVER THE INPUT: true; the input reads as it did. -/
def idsWritesSpec : ChangeSpec := { name := "idsWrites", fn := fun _ => fun
  | [d1, d2] => { results := [.lit (.bool true)], args := [d1, d2] }
  | _ => none }
def idsWritesRow : OpenClaim := { program := "ytkgjdeicjkibiaa", sum := "f3dff992ed4aaf831da2198ba2aa2351fe3ba0ff5d327aac1d05bf7e55482629", func := "anabranch/anabranchlaw04.IdsWrites", spec := "idsWrites", inPlace := ["internal/abi.NoEscape", "internal/bytealg.IndexByteString", "internal/bytealg.Compare"], unfollowed := true, recurses := true, plainKeys := false, apart := false }
def IdsWritesSaid : Prop := idsWritesRow.holds Try.pinned (OpenSpec.ofChange idsWritesSpec)

/-- ITS FALSE NEIGHBOUR: 'it returns false'. Refute it at one input. -/
def idsWritesWrong : ChangeSpec := { name := "idsWrites", fn := fun _ => fun
  | [d1, d2] => { results := [.lit (.bool false)], args := [d1, d2] }
  | _ => none }
def IdsWritesWrongFalsely : Prop := idsWritesRow.holds Try.pinned (OpenSpec.ofChange idsWritesWrong)

/-- 'anabranchlaw04.IdsOrder': WHATEVER THE INPUT: true; the input reads as it did. -/
def idsOrderSpec : ChangeSpec := { name := "idsOrder", fn := fun _ => fun
  | [d1, d2] => { results := [.lit (.bool true)], args := [d1, d2] }
  | _ => none }
def idsOrderRow : OpenClaim := { program := "ytkgjdeicjkibiaa", sum := "f3dff992ed4aaf831da2198ba2aa2351fe3ba0ff5d327aac1d05bf7e55482629", func := "anabranch/anabranchlaw04.IdsOrder", spec := "idsOrder", inPlace := ["internal/abi.NoEscape", "internal/bytealg.IndexByteString", "internal/bytealg.Compare"], unfollowed := true, recurses := true, plainKeys := false, apart := false }
def IdsOrderSaid : Prop := idsOrderRow.holds Try.pinned (OpenSpec.ofChange idsOrderSpec)

/-- ITS FALSE NEIGHBOUR: 'it returns false'. Refute it at one input. -/
def idsOrderWrong : ChangeSpec := { name := "idsOrder", fn := fun _ => fun
  | [d1, d2] => { results := [.lit (.bool false)], args := [d1, d2] }
  | _ => none }
def IdsOrderWrongFalsely : Prop := idsOrderRow.holds Try.pinned (OpenSpec.ofChange idsOrderWrong)

/-- 'anabranchlaw04.IdsLess': WHATEVER THE INPUT: true; the input reads as it did. -/
def idsLessSpec : ChangeSpec := { name := "idsLess", fn := fun _ => fun
  | [d1, d2, d3] => { results := [.lit (.bool true)], args := [d1, d2, d3] }
  | _ => none }
def idsLessRow : OpenClaim := { program := "ytkgjdeicjkibiaa", sum := "f3dff992ed4aaf831da2198ba2aa2351fe3ba0ff5d327aac1d05bf7e55482629", func := "anabranch/anabranchlaw04.IdsLess", spec := "idsLess", inPlace := ["internal/abi.NoEscape", "internal/bytealg.IndexByteString", "internal/bytealg.Compare"], unfollowed := true, recurses := true, plainKeys := false, apart := false }
def IdsLessSaid : Prop := idsLessRow.holds Try.pinned (OpenSpec.ofChange idsLessSpec)

/-- ITS FALSE NEIGHBOUR: 'it returns false'. Refute it at one input. -/
def idsLessWrong : ChangeSpec := { name := "idsLess", fn := fun _ => fun
  | [d1, d2, d3] => { results := [.lit (.bool false)], args := [d1, d2, d3] }
  | _ => none }
def IdsLessWrongFalsely : Prop := idsLessRow.holds Try.pinned (OpenSpec.ofChange idsLessWrong)

/-- 'anabranchlaw04.IdsParts': WHATEVER THE INPUT: true; the input reads as it did. -/
def idsPartsSpec : ChangeSpec := { name := "idsParts", fn := fun _ => fun
  | [d1, d2, d3] => { results := [.lit (.bool true)], args := [d1, d2, d3] }
  | _ => none }
def idsPartsRow : OpenClaim := { program := "ytkgjdeicjkibiaa", sum := "f3dff992ed4aaf831da2198ba2aa2351fe3ba0ff5d327aac1d05bf7e55482629", func := "anabranch/anabranchlaw04.IdsParts", spec := "idsParts", inPlace := ["internal/abi.NoEscape", "internal/bytealg.IndexByteString", "internal/bytealg.Compare"], unfollowed := true, recurses := true, plainKeys := false, apart := false }
def IdsPartsSaid : Prop := idsPartsRow.holds Try.pinned (OpenSpec.ofChange idsPartsSpec)

/-- ITS FALSE NEIGHBOUR: 'it returns false'. Refute it at one input. -/
def idsPartsWrong : ChangeSpec := { name := "idsParts", fn := fun _ => fun
  | [d1, d2, d3] => { results := [.lit (.bool false)], args := [d1, d2, d3] }
  | _ => none }
def IdsPartsWrongFalsely : Prop := idsPartsRow.holds Try.pinned (OpenSpec.ofChange idsPartsWrong)

/-- 'anabranchlaw04.IdsTells': WHATEVER THE INPUT: true; the input reads as it did. -/
def idsTellsSpec : ChangeSpec := { name := "idsTells", fn := fun _ => fun
  | [d1, d2, d3, d4] => { results := [.lit (.bool true)], args := [d1, d2, d3, d4] }
  | _ => none }
def idsTellsRow : OpenClaim := { program := "ytkgjdeicjkibiaa", sum := "f3dff992ed4aaf831da2198ba2aa2351fe3ba0ff5d327aac1d05bf7e55482629", func := "anabranch/anabranchlaw04.IdsTells", spec := "idsTells", inPlace := ["internal/abi.NoEscape", "internal/bytealg.IndexByteString", "internal/bytealg.Compare"], unfollowed := true, recurses := true, plainKeys := false, apart := false }
def IdsTellsSaid : Prop := idsTellsRow.holds Try.pinned (OpenSpec.ofChange idsTellsSpec)

/-- ITS FALSE NEIGHBOUR: 'it returns false'. Refute it at one input. -/
def idsTellsWrong : ChangeSpec := { name := "idsTells", fn := fun _ => fun
  | [d1, d2, d3, d4] => { results := [.lit (.bool false)], args := [d1, d2, d3, d4] }
  | _ => none }
def IdsTellsWrongFalsely : Prop := idsTellsRow.holds Try.pinned (OpenSpec.ofChange idsTellsWrong)

/-- 'anabranchlaw04.IdsSets': WHATEVER THE INPUT: true; the input reads as it did. -/
def idsSetsSpec : ChangeSpec := { name := "idsSets", fn := fun _ => fun
  | [d1, d2, d3] => { results := [.lit (.bool true)], args := [d1, d2, d3] }
  | _ => none }
def idsSetsRow : OpenClaim := { program := "ytkgjdeicjkibiaa", sum := "f3dff992ed4aaf831da2198ba2aa2351fe3ba0ff5d327aac1d05bf7e55482629", func := "anabranch/anabranchlaw04.IdsSets", spec := "idsSets", inPlace := ["internal/abi.NoEscape", "internal/bytealg.IndexByteString", "internal/bytealg.Compare"], unfollowed := true, recurses := true, plainKeys := false, apart := false }
def IdsSetsSaid : Prop := idsSetsRow.holds Try.pinned (OpenSpec.ofChange idsSetsSpec)

/-- ITS FALSE NEIGHBOUR: 'it returns false'. Refute it at one input. -/
def idsSetsWrong : ChangeSpec := { name := "idsSets", fn := fun _ => fun
  | [d1, d2, d3] => { results := [.lit (.bool false)], args := [d1, d2, d3] }
  | _ => none }
def IdsSetsWrongFalsely : Prop := idsSetsRow.holds Try.pinned (OpenSpec.ofChange idsSetsWrong)

/- THE SECOND FORM. 'bulk': how many values and letters a reading holds, each counted each time it is reached (what is shared counts as often as it is met; a slice's spare places count too). A statement '..UptoSaid' is the law's where the arguments, and the package variables that the reading takes, are together of bulk at most 1048576: NARROWER than '..Said'. Prove '..Said' where nothing that the law and all that it calls make is longer than what came in: it says more and counts as full. Else prove '..UptoSaid'. A law counts once. -/
mutual
def uptoBulk {H : Type} : DataW H → Nat
  | .lit (.string bytes) => bytes.length + 1
  | .lit _ => 1
  | .nil => 1
  | .ptr d => uptoBulk d + 1
  | .slice elems spare => uptoBulkAll elems + uptoBulkAll spare + 1
  | .agg parts => uptoBulkAll parts + 1
  | .iface _ d => uptoBulk d + 1
  | .map entries => uptoBulkEntries entries + 1
  | .held _ => 1
def uptoBulkAll {H : Type} : List (DataW H) → Nat
  | [] => 0
  | d :: r => uptoBulk d + uptoBulkAll r
def uptoBulkEntries {H : Type} : List (Lit × DataW H) → Nat
  | [] => 0
  | x :: r => uptoBulkEntry x + uptoBulkEntries r
def uptoBulkEntry {H : Type} : Lit × DataW H → Nat
  | (.string bytes, d) => bytes.length + uptoBulk d + 1
  | (_, d) => uptoBulk d + 1
 end
def uptoSmall : (H : Type) → List (DataW H) → Bool := fun _ ds => decide (uptoBulkAll ds ≤ 1048576)
def OpenSpec.upto (s : _root_.Go.ChangeSpec) : _root_.Go.OpenSpec := { _root_.Go.OpenSpec.ofChange s with cond := some uptoSmall }

/-- 'anabranchlaw04.IdsWrites', WHERE WHAT IT READS IS OF BULK AT MOST 1048576: true; the input reads as it did. -/
def idsWritesUptoRow : OpenClaim := { program := "ytkgjdeicjkibiaa", sum := "f3dff992ed4aaf831da2198ba2aa2351fe3ba0ff5d327aac1d05bf7e55482629", func := "anabranch/anabranchlaw04.IdsWrites", spec := "idsWrites", inPlace := ["internal/abi.NoEscape", "internal/bytealg.IndexByteString", "internal/bytealg.Compare"], unfollowed := true, recurses := true, plainKeys := false, apart := false, narrowed := true }
def IdsWritesUptoSaid : Prop := idsWritesUptoRow.holds Try.pinned (OpenSpec.upto idsWritesSpec)

/-- 'anabranchlaw04.IdsOrder', WHERE WHAT IT READS IS OF BULK AT MOST 1048576: true; the input reads as it did. -/
def idsOrderUptoRow : OpenClaim := { program := "ytkgjdeicjkibiaa", sum := "f3dff992ed4aaf831da2198ba2aa2351fe3ba0ff5d327aac1d05bf7e55482629", func := "anabranch/anabranchlaw04.IdsOrder", spec := "idsOrder", inPlace := ["internal/abi.NoEscape", "internal/bytealg.IndexByteString", "internal/bytealg.Compare"], unfollowed := true, recurses := true, plainKeys := false, apart := false, narrowed := true }
def IdsOrderUptoSaid : Prop := idsOrderUptoRow.holds Try.pinned (OpenSpec.upto idsOrderSpec)

/-- 'anabranchlaw04.IdsLess', WHERE WHAT IT READS IS OF BULK AT MOST 1048576: true; the input reads as it did. -/
def idsLessUptoRow : OpenClaim := { program := "ytkgjdeicjkibiaa", sum := "f3dff992ed4aaf831da2198ba2aa2351fe3ba0ff5d327aac1d05bf7e55482629", func := "anabranch/anabranchlaw04.IdsLess", spec := "idsLess", inPlace := ["internal/abi.NoEscape", "internal/bytealg.IndexByteString", "internal/bytealg.Compare"], unfollowed := true, recurses := true, plainKeys := false, apart := false, narrowed := true }
def IdsLessUptoSaid : Prop := idsLessUptoRow.holds Try.pinned (OpenSpec.upto idsLessSpec)

/-- 'anabranchlaw04.IdsParts', WHERE WHAT IT READS IS OF BULK AT MOST 1048576: true; the input reads as it did. -/
def idsPartsUptoRow : OpenClaim := { program := "ytkgjdeicjkibiaa", sum := "f3dff992ed4aaf831da2198ba2aa2351fe3ba0ff5d327aac1d05bf7e55482629", func := "anabranch/anabranchlaw04.IdsParts", spec := "idsParts", inPlace := ["internal/abi.NoEscape", "internal/bytealg.IndexByteString", "internal/bytealg.Compare"], unfollowed := true, recurses := true, plainKeys := false, apart := false, narrowed := true }
def IdsPartsUptoSaid : Prop := idsPartsUptoRow.holds Try.pinned (OpenSpec.upto idsPartsSpec)

/-- 'anabranchlaw04.IdsTells', WHERE WHAT IT READS IS OF BULK AT MOST 1048576: true; the input reads as it did. -/
def idsTellsUptoRow : OpenClaim := { program := "ytkgjdeicjkibiaa", sum := "f3dff992ed4aaf831da2198ba2aa2351fe3ba0ff5d327aac1d05bf7e55482629", func := "anabranch/anabranchlaw04.IdsTells", spec := "idsTells", inPlace := ["internal/abi.NoEscape", "internal/bytealg.IndexByteString", "internal/bytealg.Compare"], unfollowed := true, recurses := true, plainKeys := false, apart := false, narrowed := true }
def IdsTellsUptoSaid : Prop := idsTellsUptoRow.holds Try.pinned (OpenSpec.upto idsTellsSpec)

/-- 'anabranchlaw04.IdsSets', WHERE WHAT IT READS IS OF BULK AT MOST 1048576: true; the input reads as it did. -/
def idsSetsUptoRow : OpenClaim := { program := "ytkgjdeicjkibiaa", sum := "f3dff992ed4aaf831da2198ba2aa2351fe3ba0ff5d327aac1d05bf7e55482629", func := "anabranch/anabranchlaw04.IdsSets", spec := "idsSets", inPlace := ["internal/abi.NoEscape", "internal/bytealg.IndexByteString", "internal/bytealg.Compare"], unfollowed := true, recurses := true, plainKeys := false, apart := false, narrowed := true }
def IdsSetsUptoSaid : Prop := idsSetsUptoRow.holds Try.pinned (OpenSpec.upto idsSetsSpec)

end Rows
end Go.Proofs.Ytkgjdeicjkibiaa
