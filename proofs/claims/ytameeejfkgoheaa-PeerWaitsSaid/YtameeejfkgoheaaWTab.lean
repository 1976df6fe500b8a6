/- Words that the kit's print laid for this seat, cut down by a small program to what the texts of the claims use. -/
import Derived.Test.YtameeejfkgoheaaWLast
import Derived.Test.YtameeejfkgoheaaWWords
namespace Go.Proofs.YtameeejfkgoheaaW.PrintLast
open Go.Proofs.YtameeejfkgoheaaW.PrintWords (Aside0)
section
variable {md : Region.Mode} {ops : Array Oper} {T : Bool × List (List Nat × List Nat)} {l l' li lj lk : Array Bool} {ds : List Nat} {i j k : Nat}
end
end Go.Proofs.YtameeejfkgoheaaW.PrintLast
