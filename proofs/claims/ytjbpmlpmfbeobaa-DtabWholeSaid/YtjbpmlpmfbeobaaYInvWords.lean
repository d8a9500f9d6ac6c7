/- Words that the texts of the law DtabWhole use. -/
import Derived.Test.YtjbpmlpmfbeobaaYInv
import Derived.Test.YtjbpmlpmfbeobaaYFootNe
namespace Go.Proofs.YtjbpmlpmfbeobaaW.PrintWords
open Go.RowKit
end Go.Proofs.YtjbpmlpmfbeobaaW.PrintWords
namespace Go.Proofs.YtjbpmlpmfbeobaaW.PrintLast
section
variable {ops : Array Oper} {a : Act} {o og : Oper} {g : Nat} {t : Tmp} {u : Bool}
end
end Go.Proofs.YtjbpmlpmfbeobaaW.PrintLast
