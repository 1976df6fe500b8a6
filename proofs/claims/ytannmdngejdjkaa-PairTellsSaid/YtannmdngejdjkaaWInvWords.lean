/- Words that the kit's print laid for this seat, cut down by a small program to what the texts of the claims use. -/
import Derived.Test.YtannmdngejdjkaaWInv
import Derived.Test.YtannmdngejdjkaaWFootNe
namespace Go.Proofs.YtannmdngejdjkaaW.PrintWords
open Go.RowKit
end Go.Proofs.YtannmdngejdjkaaW.PrintWords
namespace Go.Proofs.YtannmdngejdjkaaW.PrintLast
section
variable {ops : Array Oper} {a : Act} {o og : Oper} {g : Nat} {t : Tmp} {u : Bool}
end
end Go.Proofs.YtannmdngejdjkaaW.PrintLast
