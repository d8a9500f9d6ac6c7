/- Words that the texts of the law ModelOrder use. -/
import Derived.Test.YtcffmmdgjifaaaaYInv
import Derived.Test.YtcffmmdgjifaaaaYFootNe
namespace Go.Proofs.YtcffmmdgjifaaaaW.PrintWords
open Go.RowKit
end Go.Proofs.YtcffmmdgjifaaaaW.PrintWords
namespace Go.Proofs.YtcffmmdgjifaaaaW.PrintLast
section
variable {ops : Array Oper} {a : Act} {o og : Oper} {g : Nat} {t : Tmp} {u : Bool}
end
end Go.Proofs.YtcffmmdgjifaaaaW.PrintLast
