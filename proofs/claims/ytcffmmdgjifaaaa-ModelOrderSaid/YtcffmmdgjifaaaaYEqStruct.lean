/- Words that the texts of the law ModelOrder use. -/
import Derived.Test.YtcffmmdgjifaaaaYWords
import Derived.Laws.StructEq
namespace Go.Proofs.YtcffmmdgjifaaaaW.PrintWords
open Go.RowKit
section
variable {P : Program} {d : Nat} {xs ys : Array Value} {f : Field} {fs : List Field} {a b : Value} {r s : Bool} {w : World}
end
end Go.Proofs.YtcffmmdgjifaaaaW.PrintWords
