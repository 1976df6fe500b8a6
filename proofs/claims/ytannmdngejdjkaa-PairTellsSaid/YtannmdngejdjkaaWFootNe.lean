/- Words that the kit's print laid for this seat, cut down by a small program to what the texts of the claims use. -/
import Derived.Test.YtannmdngejdjkaaWN
namespace Go.Proofs.YtannmdngejdjkaaW.PrintWords
open Go.RowKit
namespace Kd
section
variable {α : Type} {d : Kd α} {W : World} {g n : Nat} {S ok : Nat → Prop} {A : Option Addr} {ad : Addr} {xs : List α}
end
end Kd
end Go.Proofs.YtannmdngejdjkaaW.PrintWords
