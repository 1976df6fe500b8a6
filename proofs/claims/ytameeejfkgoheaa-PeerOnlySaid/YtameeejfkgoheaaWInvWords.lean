/- Words that the kit's print laid for this seat, cut down by a small program to what the texts of the claims use. -/
import Derived.Test.YtameeejfkgoheaaWInv
import Derived.Test.YtameeejfkgoheaaWFootNe
namespace Go.Proofs.YtameeejfkgoheaaW.PrintWords
open Go.RowKit
end Go.Proofs.YtameeejfkgoheaaW.PrintWords
namespace Go.Proofs.YtameeejfkgoheaaW.PrintLast
section
variable {ops : Array Oper} {a : Act} {o og : Oper} {g : Nat} {t : Tmp} {u : Bool}
end
end Go.Proofs.YtameeejfkgoheaaW.PrintLast
