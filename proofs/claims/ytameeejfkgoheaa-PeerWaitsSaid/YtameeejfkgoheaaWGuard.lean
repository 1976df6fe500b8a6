/- Words that the kit's print laid for this seat, cut down by a small program to what the texts of the claims use. -/
import Derived.Test.YtameeejfkgoheaaWWords
namespace Go.Proofs.YtameeejfkgoheaaW.PrintWords
open Go.RowKit
section
variable {P : Program} {ops : Array Oper} {rest : List Oper} {o : Oper} {a : Act} {Q : Exit → Act → World → Prop} {W : World}
end
end Go.Proofs.YtameeejfkgoheaaW.PrintWords
