/- Words that the kit's print laid for this seat, cut down by a small program to what the texts of the claims use. -/
import Derived.Test.YtameeejfkgoheaaWWords
import Derived.Laws.StructEq
namespace Go.Proofs.YtameeejfkgoheaaW.PrintWords
open Go.RowKit
section
variable {P : Program} {d : Nat} {xs ys : Array Value} {f : Field} {fs : List Field} {a b : Value} {r s : Bool} {w : World}
end
end Go.Proofs.YtameeejfkgoheaaW.PrintWords
