/- Words that the texts of the law ModelOrder use. -/
import Derived.Test.YtcffmmdgjifaaaaYTab
namespace Go.Proofs.YtcffmmdgjifaaaaW.PrintLast
section
variable {P : Program} {ops : Array Oper} {Q : Exit → Act → World → Prop} {md : Region.Mode} {S : World → Prop} {ds : List Nat} {T : Bool × List (List Nat × List Nat)}
end
end Go.Proofs.YtcffmmdgjifaaaaW.PrintLast
