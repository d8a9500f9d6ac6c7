/- Words that the texts of the law DtabWhole use. -/
import Derived.Test.YtjbpmlpmfbeobaaYTab
namespace Go.Proofs.YtjbpmlpmfbeobaaW.PrintLast
section
variable {P : Program} {ops : Array Oper} {Q : Exit → Act → World → Prop} {md : Region.Mode} {S : World → Prop} {ds : List Nat} {T : Bool × List (List Nat × List Nat)}
end
end Go.Proofs.YtjbpmlpmfbeobaaW.PrintLast
