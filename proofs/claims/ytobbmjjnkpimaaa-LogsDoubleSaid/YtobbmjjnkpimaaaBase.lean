/- Words that all texts of this seat share: how a slice that came in reads, and small lemmas on endings, on the world and on whole numbers. -/
import Derived.Test.YtobbmjjnkpimaaaWSized
import Derived.Test.YtobbmjjnkpimaaaWMore
import Derived.WalkKit
import Derived.OpenShut
import Derived.Deep.LoopGhost
import Derived.Lib.Hide
namespace Go.Proofs.Ytobbmjjnkpimaaa
open Go.RowKit Go.Proofs.YtobbmjjnkpimaaaW.PrintWords Go.Proofs.YtobbmjjnkpimaaaW.PrintLast Go.Proofs.YtobbmjjnkpimaaaW.PrintMore
/-- A slice of whole numbers that came in: its numbers up to its capacity. -/
def IsRow (k : IntKind) (w : World) (a : Option Addr) (len cap : Nat) (zs : List Int) : Prop :=
  (a = none ∧ len = 0 ∧ cap = 0 ∧ zs = []) ∨
  ∃ x, a = some x ∧ len ≤ cap ∧ cap ≤ maxLen ∧ zs.length = cap ∧ (∀ i, i < zs.length → w.cell? (x.add i) = some (.int k (zs.getD i 0))) ∧ ∀ n ∈ zs, (Lit.int k n).wf = true
theorem below_then' {w w1 w2 : World} (h : Below w.heap.size w w1) (k : Below w1.heap.size w1 w2) : Below w.heap.size w w2 := h.trans (k.mono h.size)
theorem ret_int {k : IntKind} {a b : Int} (h : a = b) : Ending.returned (.int k a) = .returned (.int k b) := by rw [h]
theorem ret_bool {a : Bool} (h : a = true) : Ending.returned (.bool a) = .returned (.bool true) := by rw [h]
theorem ret_booleq {a b : Bool} (h : a = b) : Ending.returned (.bool a) = .returned (.bool b) := by rw [h]
theorem w64 {x y : Int} (h : x = y) (h0 : -9223372036854775808 ≤ y) (h1 : y ≤ 9223372036854775807) : wrap64 x = y := by subst h; unfold wrap64; omega
end Go.Proofs.Ytobbmjjnkpimaaa
