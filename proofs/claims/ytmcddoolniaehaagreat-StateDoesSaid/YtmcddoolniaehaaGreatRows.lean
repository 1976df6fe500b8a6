/-
  No cell of these rows narrows 'for every input' (looked for: loops, veiled, ifaces, maps, wideKeys, modest, calm, conditions, laid).
  DERIVED. THE GIVEN ROWS OF THIS SEAT. 6 by the template 'for every input the law returns true; each argument reads behind the call as it read before'; 0 by the template 'total and deterministic' (their statements: YtmcddoolniaehaaGreatTotals.lean).
  GIVEN WITH THE SEED: the statements are not yours to turn. If you find one false, say at which input.
  Laid BY PROGRAM, IN A SANDBOX (cutbox-rows.mjs): the forced cells as the released guide's own fill.sh prints them over the translation 203752e12d08f0d4… (all of the seat's roots in one cut). By AI agents, Wed Nov 11 2026. No macro, syntax, notation, axiom, sorry.
-/
import Derived.Test.YtmcddoolniaehaaGreatChecked
import GoSem.Claim
import GoSem.ClaimJoined
import GoSem.ClaimMapViews
import Derived.JoinedTies
import Derived.KernelRfl
namespace Go.Proofs.YtmcddoolniaehaaGreat
/- THE CELL 'sum', in the pinned program and in every row, IS THE sha256 OF THE DUMP (.gsa) THAT YtmcddoolniaehaaGreatProg.lean LOADS. Nothing in Lean hashes anything: it is a label: what it is worth is what the hold of that sum in a sandbox is worth. -/
noncomputable def Tryz.pinned : Pinned := { name := "ytmcddoolniaehaagreat", sum := "203752e12d08f0d41391b97d9fa66e99df154ed09465c15ccf73aa99fb8c2249", checked := Tryz.checked }
namespace Rows
def none {H : Type} : Left H := { results := [], args := [] }

/-- 'anabranchlaw09.StateDoes': WHATEVER THE INPUT: true; the input reads as it did. -/
def stateDoesSpec : ChangeSpec := { name := "stateDoes", fn := fun _ => fun
  | [d1, d2, d3, d4] => { results := [.lit (.bool true)], args := [d1, d2, d3, d4] }
  | _ => none }
def stateDoesRow : OpenClaim := { program := "ytmcddoolniaehaagreat", sum := "203752e12d08f0d41391b97d9fa66e99df154ed09465c15ccf73aa99fb8c2249", func := "anabranch/anabranchlaw09.StateDoes", spec := "stateDoes", inPlace := ["internal/bytealg.IndexByteString", "slices.overlaps[anabranch/api.Reg]"], unfollowed := true, recurses := true, plainKeys := false, apart := false }
def StateDoesSaid : Prop := stateDoesRow.holds Tryz.pinned (OpenSpec.ofChange stateDoesSpec)

/-- ITS FALSE NEIGHBOUR: 'it returns false'. Refute it at one input. -/
def stateDoesWrong : ChangeSpec := { name := "stateDoes", fn := fun _ => fun
  | [d1, d2, d3, d4] => { results := [.lit (.bool false)], args := [d1, d2, d3, d4] }
  | _ => none }
def StateDoesWrongFalsely : Prop := stateDoesRow.holds Tryz.pinned (OpenSpec.ofChange stateDoesWrong)

/-- 'anabranchlaw09.StateMerges': WHATEVER THE INPUT: true; the input reads as it did. -/
def stateMergesSpec : ChangeSpec := { name := "stateMerges", fn := fun _ => fun
  | [d1, d2, d3] => { results := [.lit (.bool true)], args := [d1, d2, d3] }
  | _ => none }
def stateMergesRow : OpenClaim := { program := "ytmcddoolniaehaagreat", sum := "203752e12d08f0d41391b97d9fa66e99df154ed09465c15ccf73aa99fb8c2249", func := "anabranch/anabranchlaw09.StateMerges", spec := "stateMerges", inPlace := ["internal/bytealg.IndexByteString", "slices.overlaps[anabranch/api.Reg]"], unfollowed := true, recurses := true, plainKeys := false, apart := false }
def StateMergesSaid : Prop := stateMergesRow.holds Tryz.pinned (OpenSpec.ofChange stateMergesSpec)

/-- ITS FALSE NEIGHBOUR: 'it returns false'. Refute it at one input. -/
def stateMergesWrong : ChangeSpec := { name := "stateMerges", fn := fun _ => fun
  | [d1, d2, d3] => { results := [.lit (.bool false)], args := [d1, d2, d3] }
  | _ => none }
def StateMergesWrongFalsely : Prop := stateMergesRow.holds Tryz.pinned (OpenSpec.ofChange stateMergesWrong)

/-- 'anabranchlaw09.StateTurns': WHATEVER THE INPUT: true; the input reads as it did. -/
def stateTurnsSpec : ChangeSpec := { name := "stateTurns", fn := fun _ => fun
  | [d1, d2, d3] => { results := [.lit (.bool true)], args := [d1, d2, d3] }
  | _ => none }
def stateTurnsRow : OpenClaim := { program := "ytmcddoolniaehaagreat", sum := "203752e12d08f0d41391b97d9fa66e99df154ed09465c15ccf73aa99fb8c2249", func := "anabranch/anabranchlaw09.StateTurns", spec := "stateTurns", inPlace := ["internal/bytealg.IndexByteString", "slices.overlaps[anabranch/api.Reg]"], unfollowed := true, recurses := true, plainKeys := false, apart := false }
def StateTurnsSaid : Prop := stateTurnsRow.holds Tryz.pinned (OpenSpec.ofChange stateTurnsSpec)

/-- ITS FALSE NEIGHBOUR: 'it returns false'. Refute it at one input. -/
def stateTurnsWrong : ChangeSpec := { name := "stateTurns", fn := fun _ => fun
  | [d1, d2, d3] => { results := [.lit (.bool false)], args := [d1, d2, d3] }
  | _ => none }
def StateTurnsWrongFalsely : Prop := stateTurnsRow.holds Tryz.pinned (OpenSpec.ofChange stateTurnsWrong)

/-- 'anabranchlaw09.StateBoth': WHATEVER THE INPUT: true; the input reads as it did. -/
def stateBothSpec : ChangeSpec := { name := "stateBoth", fn := fun _ => fun
  | [d1, d2, d3, d4] => { results := [.lit (.bool true)], args := [d1, d2, d3, d4] }
  | _ => none }
def stateBothRow : OpenClaim := { program := "ytmcddoolniaehaagreat", sum := "203752e12d08f0d41391b97d9fa66e99df154ed09465c15ccf73aa99fb8c2249", func := "anabranch/anabranchlaw09.StateBoth", spec := "stateBoth", inPlace := ["internal/bytealg.IndexByteString", "slices.overlaps[anabranch/api.Reg]"], unfollowed := true, recurses := true, plainKeys := false, apart := false }
def StateBothSaid : Prop := stateBothRow.holds Tryz.pinned (OpenSpec.ofChange stateBothSpec)

/-- ITS FALSE NEIGHBOUR: 'it returns false'. Refute it at one input. -/
def stateBothWrong : ChangeSpec := { name := "stateBoth", fn := fun _ => fun
  | [d1, d2, d3, d4] => { results := [.lit (.bool false)], args := [d1, d2, d3, d4] }
  | _ => none }
def StateBothWrongFalsely : Prop := stateBothRow.holds Tryz.pinned (OpenSpec.ofChange stateBothWrong)

/-- 'anabranchlaw09.StateThree': WHATEVER THE INPUT: true; the input reads as it did. -/
def stateThreeSpec : ChangeSpec := { name := "stateThree", fn := fun _ => fun
  | [d1, d2, d3, d4] => { results := [.lit (.bool true)], args := [d1, d2, d3, d4] }
  | _ => none }
def stateThreeRow : OpenClaim := { program := "ytmcddoolniaehaagreat", sum := "203752e12d08f0d41391b97d9fa66e99df154ed09465c15ccf73aa99fb8c2249", func := "anabranch/anabranchlaw09.StateThree", spec := "stateThree", inPlace := ["internal/bytealg.IndexByteString", "slices.overlaps[anabranch/api.Reg]"], unfollowed := true, recurses := true, plainKeys := false, apart := false }
def StateThreeSaid : Prop := stateThreeRow.holds Tryz.pinned (OpenSpec.ofChange stateThreeSpec)

/-- ITS FALSE NEIGHBOUR: 'it returns false'. Refute it at one input. -/
def stateThreeWrong : ChangeSpec := { name := "stateThree", fn := fun _ => fun
  | [d1, d2, d3, d4] => { results := [.lit (.bool false)], args := [d1, d2, d3, d4] }
  | _ => none }
def StateThreeWrongFalsely : Prop := stateThreeRow.holds Tryz.pinned (OpenSpec.ofChange stateThreeWrong)

/-- 'anabranchlaw09.StateKeeps': WHATEVER THE INPUT: true; the input reads as it did. -/
def stateKeepsSpec : ChangeSpec := { name := "stateKeeps", fn := fun _ => fun
  | [d1, d2, d3, d4, d5] => { results := [.lit (.bool true)], args := [d1, d2, d3, d4, d5] }
  | _ => none }
def stateKeepsRow : OpenClaim := { program := "ytmcddoolniaehaagreat", sum := "203752e12d08f0d41391b97d9fa66e99df154ed09465c15ccf73aa99fb8c2249", func := "anabranch/anabranchlaw09.StateKeeps", spec := "stateKeeps", inPlace := ["internal/bytealg.IndexByteString", "slices.overlaps[anabranch/api.Reg]"], unfollowed := true, recurses := true, plainKeys := false, apart := false }
def StateKeepsSaid : Prop := stateKeepsRow.holds Tryz.pinned (OpenSpec.ofChange stateKeepsSpec)

/-- ITS FALSE NEIGHBOUR: 'it returns false'. Refute it at one input. -/
def stateKeepsWrong : ChangeSpec := { name := "stateKeeps", fn := fun _ => fun
  | [d1, d2, d3, d4, d5] => { results := [.lit (.bool false)], args := [d1, d2, d3, d4, d5] }
  | _ => none }
def StateKeepsWrongFalsely : Prop := stateKeepsRow.holds Tryz.pinned (OpenSpec.ofChange stateKeepsWrong)

/- THE SECOND FORM. 'bulk': how many values and letters a reading holds, each counted each time it is reached (what is shared counts as often as it is met; a slice's spare places count too). A statement '..UptoSaid' is the law's where the arguments, and the package variables that the reading takes, are together of bulk at most 1048576: NARROWER than '..Said'. Prove '..Said' where nothing that the law and all that it calls make is longer than what came in: it says more and counts as full. Else prove '..UptoSaid'. A law counts once. -/
mutual
def uptoBulk {H : Type} : DataW H → Nat
  | .lit (.string bytes) => bytes.length + 1
  | .lit _ => 1
  | .nil => 1
  | .ptr d => uptoBulk d + 1
  | .slice elems spare => uptoBulkAll elems + uptoBulkAll spare + 1
  | .agg parts => uptoBulkAll parts + 1
  | .iface _ d => uptoBulk d + 1
  | .map entries => uptoBulkEntries entries + 1
  | .held _ => 1
def uptoBulkAll {H : Type} : List (DataW H) → Nat
  | [] => 0
  | d :: r => uptoBulk d + uptoBulkAll r
def uptoBulkEntries {H : Type} : List (Lit × DataW H) → Nat
  | [] => 0
  | x :: r => uptoBulkEntry x + uptoBulkEntries r
def uptoBulkEntry {H : Type} : Lit × DataW H → Nat
  | (.string bytes, d) => bytes.length + uptoBulk d + 1
  | (_, d) => uptoBulk d + 1
 end
def uptoSmall : (H : Type) → List (DataW H) → Bool := fun _ ds => decide (uptoBulkAll ds ≤ 1048576)
def OpenSpec.upto (s : _root_.Go.ChangeSpec) : _root_.Go.OpenSpec := { _root_.Go.OpenSpec.ofChange s with cond := some uptoSmall }

/-- 'anabranchlaw09.StateDoes', WHERE WHAT IT READS IS OF BULK AT MOST 1048576: true; the input reads as it did. -/
def stateDoesUptoRow : OpenClaim := { program := "ytmcddoolniaehaagreat", sum := "203752e12d08f0d41391b97d9fa66e99df154ed09465c15ccf73aa99fb8c2249", func := "anabranch/anabranchlaw09.StateDoes", spec := "stateDoes", inPlace := ["internal/bytealg.IndexByteString", "slices.overlaps[anabranch/api.Reg]"], unfollowed := true, recurses := true, plainKeys := false, apart := false, narrowed := true }
def StateDoesUptoSaid : Prop := stateDoesUptoRow.holds Tryz.pinned (OpenSpec.upto stateDoesSpec)

/-- 'anabranchlaw09.StateMerges', WHERE WHAT IT READS IS OF BULK AT MOST 1048576: true; the input reads as it did. -/
def stateMergesUptoRow : OpenClaim := { program := "ytmcddoolniaehaagreat", sum := "203752e12d08f0d41391b97d9fa66e99df154ed09465c15ccf73aa99fb8c2249", func := "anabranch/anabranchlaw09.StateMerges", spec := "stateMerges", inPlace := ["internal/bytealg.IndexByteString", "slices.overlaps[anabranch/api.Reg]"], unfollowed := true, recurses := true, plainKeys := false, apart := false, narrowed := true }
def StateMergesUptoSaid : Prop := stateMergesUptoRow.holds Tryz.pinned (OpenSpec.upto stateMergesSpec)

/-- 'anabranchlaw09.StateTurns', WHERE WHAT IT READS IS OF BULK AT MOST 1048576: true; the input reads as it did. -/
def stateTurnsUptoRow : OpenClaim := { program := "ytmcddoolniaehaagreat", sum := "203752e12d08f0d41391b97d9fa66e99df154ed09465c15ccf73aa99fb8c2249", func := "anabranch/anabranchlaw09.StateTurns", spec := "stateTurns", inPlace := ["internal/bytealg.IndexByteString", "slices.overlaps[anabranch/api.Reg]"], unfollowed := true, recurses := true, plainKeys := false, apart := false, narrowed := true }
def StateTurnsUptoSaid : Prop := stateTurnsUptoRow.holds Tryz.pinned (OpenSpec.upto stateTurnsSpec)

/-- 'anabranchlaw09.StateBoth', WHERE WHAT IT READS IS OF BULK AT MOST 1048576: true; the input reads as it did. -/
def stateBothUptoRow : OpenClaim := { program := "ytmcddoolniaehaagreat", sum := "203752e12d08f0d41391b97d9fa66e99df154ed09465c15ccf73aa99fb8c2249", func := "anabranch/anabranchlaw09.StateBoth", spec := "stateBoth", inPlace := ["internal/bytealg.IndexByteString", "slices.overlaps[anabranch/api.Reg]"], unfollowed := true, recurses := true, plainKeys := false, apart := false, narrowed := true }
def StateBothUptoSaid : Prop := stateBothUptoRow.holds Tryz.pinned (OpenSpec.upto stateBothSpec)

/-- 'anabranchlaw09.StateThree', WHERE WHAT IT READS IS OF BULK AT MOST 1048576: true; the input reads as it did. -/
def stateThreeUptoRow : OpenClaim := { program := "ytmcddoolniaehaagreat", sum := "203752e12d08f0d41391b97d9fa66e99df154ed09465c15ccf73aa99fb8c2249", func := "anabranch/anabranchlaw09.StateThree", spec := "stateThree", inPlace := ["internal/bytealg.IndexByteString", "slices.overlaps[anabranch/api.Reg]"], unfollowed := true, recurses := true, plainKeys := false, apart := false, narrowed := true }
def StateThreeUptoSaid : Prop := stateThreeUptoRow.holds Tryz.pinned (OpenSpec.upto stateThreeSpec)

/-- 'anabranchlaw09.StateKeeps', WHERE WHAT IT READS IS OF BULK AT MOST 1048576: true; the input reads as it did. -/
def stateKeepsUptoRow : OpenClaim := { program := "ytmcddoolniaehaagreat", sum := "203752e12d08f0d41391b97d9fa66e99df154ed09465c15ccf73aa99fb8c2249", func := "anabranch/anabranchlaw09.StateKeeps", spec := "stateKeeps", inPlace := ["internal/bytealg.IndexByteString", "slices.overlaps[anabranch/api.Reg]"], unfollowed := true, recurses := true, plainKeys := false, apart := false, narrowed := true }
def StateKeepsUptoSaid : Prop := stateKeepsUptoRow.holds Tryz.pinned (OpenSpec.upto stateKeepsSpec)

end Rows
end Go.Proofs.YtmcddoolniaehaaGreat
