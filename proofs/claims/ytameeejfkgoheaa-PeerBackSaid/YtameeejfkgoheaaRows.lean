/-
  No cell of these rows narrows 'for every input' (looked for: loops, veiled, ifaces, maps, wideKeys, modest, calm, conditions, laid).
  DERIVED. THE GIVEN ROWS OF THIS SEAT. 7 by the template 'for every input the law returns true; each argument reads behind the call as it read before'; 0 by the template 'total and deterministic' (their statements: YtameeejfkgoheaaTotals.lean).
  GIVEN WITH THE SEED: the statements are not yours to turn. If you find one false, say at which input.
  Laid BY PROGRAM, IN A SANDBOX (cutbox-rows.mjs): the forced cells as the released guide's own fill.sh prints them over the translation 8402a5322d5df471… (all of the seat's roots in one cut). By AI agents, Wed Nov 11 2026. No macro, syntax, notation, axiom, sorry.
-/
import Derived.Test.YtameeejfkgoheaaChecked
import GoSem.Claim
import GoSem.ClaimJoined
import GoSem.ClaimMapViews
import Derived.JoinedTies
import Derived.KernelRfl
namespace Go.Proofs.Ytameeejfkgoheaa
/- THE CELL 'sum', in the pinned program and in every row, IS THE sha256 OF THE DUMP (.gsa) THAT YtameeejfkgoheaaProg.lean LOADS. Nothing in Lean hashes anything: it is a label: what it is worth is what the hold of that sum in a sandbox is worth. -/
noncomputable def Try.pinned : Pinned := { name := "ytameeejfkgoheaa", sum := "8402a5322d5df471a82d79a471253a51b19e986b49301a1c0997abef24fb611e", checked := Try.checked }
namespace Rows
def none {H : Type} : Left H := { results := [], args := [] }

/-- 'anabranchlaw19.PeerOnly': WHATEVER THE INPUT: true; the input reads as it did. -/
def peerOnlySpec : ChangeSpec := { name := "peerOnly", fn := fun _ => fun
  | [d1, d2] => { results := [.lit (.bool true)], args := [d1, d2] }
  | _ => none }
def peerOnlyRow : OpenClaim := { program := "ytameeejfkgoheaa", sum := "8402a5322d5df471a82d79a471253a51b19e986b49301a1c0997abef24fb611e", func := "anabranch/anabranchlaw19.PeerOnly", spec := "peerOnly", inPlace := ["slices.overlaps[int]"], unfollowed := true, recurses := true, apart := false }
def PeerOnlySaid : Prop := peerOnlyRow.holds Try.pinned (OpenSpec.ofChange peerOnlySpec)

/-- ITS FALSE NEIGHBOUR: 'it returns false'. Refute it at one input. -/
def peerOnlyWrong : ChangeSpec := { name := "peerOnly", fn := fun _ => fun
  | [d1, d2] => { results := [.lit (.bool false)], args := [d1, d2] }
  | _ => none }
def PeerOnlyWrongFalsely : Prop := peerOnlyRow.holds Try.pinned (OpenSpec.ofChange peerOnlyWrong)

/-- 'anabranchlaw19.PeerWaits': WHATEVER THE INPUT: true; the input reads as it did. -/
def peerWaitsSpec : ChangeSpec := { name := "peerWaits", fn := fun _ => fun
  | [d] => { results := [.lit (.bool true)], args := [d] }
  | _ => none }
def peerWaitsRow : OpenClaim := { program := "ytameeejfkgoheaa", sum := "8402a5322d5df471a82d79a471253a51b19e986b49301a1c0997abef24fb611e", func := "anabranch/anabranchlaw19.PeerWaits", spec := "peerWaits", inPlace := ["slices.overlaps[int]"], unfollowed := true, recurses := true, apart := false }
def PeerWaitsSaid : Prop := peerWaitsRow.holds Try.pinned (OpenSpec.ofChange peerWaitsSpec)

/-- ITS FALSE NEIGHBOUR: 'it returns false'. Refute it at one input. -/
def peerWaitsWrong : ChangeSpec := { name := "peerWaits", fn := fun _ => fun
  | [d] => { results := [.lit (.bool false)], args := [d] }
  | _ => none }
def PeerWaitsWrongFalsely : Prop := peerWaitsRow.holds Try.pinned (OpenSpec.ofChange peerWaitsWrong)

/-- 'anabranchlaw19.PeerPicks': WHATEVER THE INPUT: true; the input reads as it did. -/
def peerPicksSpec : ChangeSpec := { name := "peerPicks", fn := fun _ => fun
  | [d1, d2, d3] => { results := [.lit (.bool true)], args := [d1, d2, d3] }
  | _ => none }
def peerPicksRow : OpenClaim := { program := "ytameeejfkgoheaa", sum := "8402a5322d5df471a82d79a471253a51b19e986b49301a1c0997abef24fb611e", func := "anabranch/anabranchlaw19.PeerPicks", spec := "peerPicks", inPlace := ["slices.overlaps[int]"], unfollowed := true, recurses := true, apart := false }
def PeerPicksSaid : Prop := peerPicksRow.holds Try.pinned (OpenSpec.ofChange peerPicksSpec)

/-- ITS FALSE NEIGHBOUR: 'it returns false'. Refute it at one input. -/
def peerPicksWrong : ChangeSpec := { name := "peerPicks", fn := fun _ => fun
  | [d1, d2, d3] => { results := [.lit (.bool false)], args := [d1, d2, d3] }
  | _ => none }
def PeerPicksWrongFalsely : Prop := peerPicksRow.holds Try.pinned (OpenSpec.ofChange peerPicksWrong)

/-- 'anabranchlaw19.PeerLong': WHATEVER THE INPUT: true; the input reads as it did. -/
def peerLongSpec : ChangeSpec := { name := "peerLong", fn := fun _ => fun
  | [d1, d2] => { results := [.lit (.bool true)], args := [d1, d2] }
  | _ => none }
def peerLongRow : OpenClaim := { program := "ytameeejfkgoheaa", sum := "8402a5322d5df471a82d79a471253a51b19e986b49301a1c0997abef24fb611e", func := "anabranch/anabranchlaw19.PeerLong", spec := "peerLong", inPlace := ["slices.overlaps[int]"], unfollowed := true, recurses := true, apart := false }
def PeerLongSaid : Prop := peerLongRow.holds Try.pinned (OpenSpec.ofChange peerLongSpec)

/-- ITS FALSE NEIGHBOUR: 'it returns false'. Refute it at one input. -/
def peerLongWrong : ChangeSpec := { name := "peerLong", fn := fun _ => fun
  | [d1, d2] => { results := [.lit (.bool false)], args := [d1, d2] }
  | _ => none }
def PeerLongWrongFalsely : Prop := peerLongRow.holds Try.pinned (OpenSpec.ofChange peerLongWrong)

/-- 'anabranchlaw19.PeerTells': WHATEVER THE INPUT: true; the input reads as it did. -/
def peerTellsSpec : ChangeSpec := { name := "peerTells", fn := fun _ => fun
  | [d1, d2, d3, d4] => { results := [.lit (.bool true)], args := [d1, d2, d3, d4] }
  | _ => none }
def peerTellsRow : OpenClaim := { program := "ytameeejfkgoheaa", sum := "8402a5322d5df471a82d79a471253a51b19e986b49301a1c0997abef24fb611e", func := "anabranch/anabranchlaw19.PeerTells", spec := "peerTells", inPlace := ["slices.overlaps[int]"], unfollowed := true, recurses := true, apart := false }
def PeerTellsSaid : Prop := peerTellsRow.holds Try.pinned (OpenSpec.ofChange peerTellsSpec)

/-- ITS FALSE NEIGHBOUR: 'it returns false'. Refute it at one input. -/
def peerTellsWrong : ChangeSpec := { name := "peerTells", fn := fun _ => fun
  | [d1, d2, d3, d4] => { results := [.lit (.bool false)], args := [d1, d2, d3, d4] }
  | _ => none }
def PeerTellsWrongFalsely : Prop := peerTellsRow.holds Try.pinned (OpenSpec.ofChange peerTellsWrong)

/-- 'anabranchlaw19.PeerBack': WHATEVER THE INPUT: true; the input reads as it did. -/
def peerBackSpec : ChangeSpec := { name := "peerBack", fn := fun _ => fun
  | [d1, d2] => { results := [.lit (.bool true)], args := [d1, d2] }
  | _ => none }
def peerBackRow : OpenClaim := { program := "ytameeejfkgoheaa", sum := "8402a5322d5df471a82d79a471253a51b19e986b49301a1c0997abef24fb611e", func := "anabranch/anabranchlaw19.PeerBack", spec := "peerBack", inPlace := ["slices.overlaps[int]"], unfollowed := true, recurses := true, apart := false }
def PeerBackSaid : Prop := peerBackRow.holds Try.pinned (OpenSpec.ofChange peerBackSpec)

/-- ITS FALSE NEIGHBOUR: 'it returns false'. Refute it at one input. -/
def peerBackWrong : ChangeSpec := { name := "peerBack", fn := fun _ => fun
  | [d1, d2] => { results := [.lit (.bool false)], args := [d1, d2] }
  | _ => none }
def PeerBackWrongFalsely : Prop := peerBackRow.holds Try.pinned (OpenSpec.ofChange peerBackWrong)

/-- 'anabranchlaw19.PeerOrder': WHATEVER THE INPUT: true; the input reads as it did. -/
def peerOrderSpec : ChangeSpec := { name := "peerOrder", fn := fun _ => fun
  | [d1, d2, d3] => { results := [.lit (.bool true)], args := [d1, d2, d3] }
  | _ => none }
def peerOrderRow : OpenClaim := { program := "ytameeejfkgoheaa", sum := "8402a5322d5df471a82d79a471253a51b19e986b49301a1c0997abef24fb611e", func := "anabranch/anabranchlaw19.PeerOrder", spec := "peerOrder", inPlace := ["slices.overlaps[int]"], unfollowed := true, recurses := true, apart := false }
def PeerOrderSaid : Prop := peerOrderRow.holds Try.pinned (OpenSpec.ofChange peerOrderSpec)

/-- ITS FALSE NEIGHBOUR: 'it returns false'. Refute it at one input. -/
def peerOrderWrong : ChangeSpec := { name := "peerOrder", fn := fun _ => fun
  | [d1, d2, d3] => { results := [.lit (.bool false)], args := [d1, d2, d3] }
  | _ => none }
def PeerOrderWrongFalsely : Prop := peerOrderRow.holds Try.pinned (OpenSpec.ofChange peerOrderWrong)

/- THE SECOND FORM. 'bulk': how many values and letters a reading holds, each counted each time it is reached (what is shared counts as often as it is met; a slice's spare places count too). A statement '..UptoSaid' is the law's where the arguments, and the package variables that the reading takes, are together of bulk at most 1048576: NARROWER than '..Said'. Prove '..Said' where nothing that the law and all that it calls make is longer than what came in: it says more and counts as full. Else prove '..UptoSaid'. A law counts once. -/
mutual
def uptoBulk {H : Type} : DataW H → Nat
  | .lit (.string bytes) => bytes.length + 1
  | .lit _ => 1
  | .nil => 1
  | .ptr d => uptoBulk d + 1
  | .slice elems spare => uptoBulkAll elems + uptoBulkAll spare + 1
  | .agg parts => uptoBulkAll parts + 1
  | .iface _ d => uptoBulk d + 1
  | .map entries => uptoBulkEntries entries + 1
  | .held _ => 1
def uptoBulkAll {H : Type} : List (DataW H) → Nat
  | [] => 0
  | d :: r => uptoBulk d + uptoBulkAll r
def uptoBulkEntries {H : Type} : List (Lit × DataW H) → Nat
  | [] => 0
  | x :: r => uptoBulkEntry x + uptoBulkEntries r
def uptoBulkEntry {H : Type} : Lit × DataW H → Nat
  | (.string bytes, d) => bytes.length + uptoBulk d + 1
  | (_, d) => uptoBulk d + 1
 end
def uptoSmall : (H : Type) → List (DataW H) → Bool := fun _ ds => decide (uptoBulkAll ds ≤ 1048576)
def OpenSpec.upto (s : _root_.Go.ChangeSpec) : _root_.Go.OpenSpec := { _root_.Go.OpenSpec.ofChange s with cond := some uptoSmall }

/-- 'anabranchlaw19.PeerOnly', WHERE WHAT IT READS IS OF BULK AT MOST 1048576: true; the input reads as it did. -/
def peerOnlyUptoRow : OpenClaim := { program := "ytameeejfkgoheaa", sum := "8402a5322d5df471a82d79a471253a51b19e986b49301a1c0997abef24fb611e", func := "anabranch/anabranchlaw19.PeerOnly", spec := "peerOnly", inPlace := ["slices.overlaps[int]"], unfollowed := true, recurses := true, apart := false, narrowed := true }
def PeerOnlyUptoSaid : Prop := peerOnlyUptoRow.holds Try.pinned (OpenSpec.upto peerOnlySpec)

/-- 'anabranchlaw19.PeerWaits', WHERE WHAT IT READS IS OF BULK AT MOST 1048576: true; the input reads as it did. -/
def peerWaitsUptoRow : OpenClaim := { program := "ytameeejfkgoheaa", sum := "8402a5322d5df471a82d79a471253a51b19e986b49301a1c0997abef24fb611e", func := "anabranch/anabranchlaw19.PeerWaits", spec := "peerWaits", inPlace := ["slices.overlaps[int]"], unfollowed := true, recurses := true, apart := false, narrowed := true }
def PeerWaitsUptoSaid : Prop := peerWaitsUptoRow.holds Try.pinned (OpenSpec.upto peerWaitsSpec)

/-- 'anabranchlaw19.PeerPicks', WHERE WHAT IT READS IS OF BULK AT MOST 1048576: true; the input reads as it did. -/
def peerPicksUptoRow : OpenClaim := { program := "ytameeejfkgoheaa", sum := "8402a5322d5df471a82d79a471253a51b19e986b49301a1c0997abef24fb611e", func := "anabranch/anabranchlaw19.PeerPicks", spec := "peerPicks", inPlace := ["slices.overlaps[int]"], unfollowed := true, recurses := true, apart := false, narrowed := true }
def PeerPicksUptoSaid : Prop := peerPicksUptoRow.holds Try.pinned (OpenSpec.upto peerPicksSpec)

/-- 'anabranchlaw19.PeerLong', WHERE WHAT IT READS IS OF BULK AT MOST 1048576: true; the input reads as it did. -/
def peerLongUptoRow : OpenClaim := { program := "ytameeejfkgoheaa", sum := "8402a5322d5df471a82d79a471253a51b19e986b49301a1c0997abef24fb611e", func := "anabranch/anabranchlaw19.PeerLong", spec := "peerLong", inPlace := ["slices.overlaps[int]"], unfollowed := true, recurses := true, apart := false, narrowed := true }
def PeerLongUptoSaid : Prop := peerLongUptoRow.holds Try.pinned (OpenSpec.upto peerLongSpec)

/-- 'anabranchlaw19.PeerTells', WHERE WHAT IT READS IS OF BULK AT MOST 1048576: true; the input reads as it did. -/
def peerTellsUptoRow : OpenClaim := { program := "ytameeejfkgoheaa", sum := "8402a5322d5df471a82d79a471253a51b19e986b49301a1c0997abef24fb611e", func := "anabranch/anabranchlaw19.PeerTells", spec := "peerTells", inPlace := ["slices.overlaps[int]"], unfollowed := true, recurses := true, apart := false, narrowed := true }
def PeerTellsUptoSaid : Prop := peerTellsUptoRow.holds Try.pinned (OpenSpec.upto peerTellsSpec)

/-- 'anabranchlaw19.PeerBack', WHERE WHAT IT READS IS OF BULK AT MOST 1048576: true; the input reads as it did. -/
def peerBackUptoRow : OpenClaim := { program := "ytameeejfkgoheaa", sum := "8402a5322d5df471a82d79a471253a51b19e986b49301a1c0997abef24fb611e", func := "anabranch/anabranchlaw19.PeerBack", spec := "peerBack", inPlace := ["slices.overlaps[int]"], unfollowed := true, recurses := true, apart := false, narrowed := true }
def PeerBackUptoSaid : Prop := peerBackUptoRow.holds Try.pinned (OpenSpec.upto peerBackSpec)

/-- 'anabranchlaw19.PeerOrder', WHERE WHAT IT READS IS OF BULK AT MOST 1048576: true; the input reads as it did. -/
def peerOrderUptoRow : OpenClaim := { program := "ytameeejfkgoheaa", sum := "8402a5322d5df471a82d79a471253a51b19e986b49301a1c0997abef24fb611e", func := "anabranch/anabranchlaw19.PeerOrder", spec := "peerOrder", inPlace := ["slices.overlaps[int]"], unfollowed := true, recurses := true, apart := false, narrowed := true }
def PeerOrderUptoSaid : Prop := peerOrderUptoRow.holds Try.pinned (OpenSpec.upto peerOrderSpec)

end Rows
end Go.Proofs.Ytameeejfkgoheaa
