/- Words that the kit's print laid for this seat, cut down by a small program to what the texts of the claims use. -/
import Derived.Test.YtannmdngejdjkaaWTab
namespace Go.Proofs.YtannmdngejdjkaaW.PrintLast
section
variable {P : Program} {ops : Array Oper} {Q : Exit → Act → World → Prop} {md : Region.Mode} {S : World → Prop} {ds : List Nat} {T : Bool × List (List Nat × List Nat)}
end
end Go.Proofs.YtannmdngejdjkaaW.PrintLast
