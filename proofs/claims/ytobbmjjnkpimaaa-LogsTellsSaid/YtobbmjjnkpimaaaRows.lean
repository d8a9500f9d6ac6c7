/-
  No cell of these rows narrows 'for every input' (looked for: loops, veiled, ifaces, maps, wideKeys, modest, calm, conditions, laid).
  DERIVED. THE GIVEN ROWS OF THIS SEAT. 5 by the template 'for every input the law returns true; each argument reads behind the call as it read before'; 0 by the template 'total and deterministic' (their statements: YtobbmjjnkpimaaaTotals.lean).
  GIVEN WITH THE SEED: the statements are not yours to turn. If you find one false, say at which input.
  Laid BY PROGRAM, IN A SANDBOX (cutbox-rows.mjs): the forced cells as the released guide's own fill.sh prints them over the translation bde5b5ee8c265992… (all of the seat's roots in one cut). By AI agents, Wed Nov 11 2026. No macro, syntax, notation, axiom, sorry.
-/
import Derived.Test.YtobbmjjnkpimaaaChecked
import GoSem.Claim
import GoSem.ClaimJoined
import GoSem.ClaimMapViews
import Derived.JoinedTies
import Derived.KernelRfl
namespace Go.Proofs.Ytobbmjjnkpimaaa
/- THE CELL 'sum', in the pinned program and in every row, IS THE sha256 OF THE DUMP (.gsa) THAT YtobbmjjnkpimaaaProg.lean LOADS. Nothing in Lean hashes anything: it is a label: what it is worth is what the hold of that sum in a sandbox is worth. -/
noncomputable def Try.pinned : Pinned := { name := "ytobbmjjnkpimaaa", sum := "bde5b5ee8c265992ca3197ea99f838a948f237d3cbfa29843355b23773697b56", checked := Try.checked }
namespace Rows
def none {H : Type} : Left H := { results := [], args := [] }

/-- 'puncheonlaw07.LogsTells': WHATEVER THE INPUT: true; the input reads as it did. -/
def logsTellsSpec : ChangeSpec := { name := "logsTells", fn := fun _ => fun
  | [d1, d2, d3] => { results := [.lit (.bool true)], args := [d1, d2, d3] }
  | _ => none }
def logsTellsRow : OpenClaim := { program := "ytobbmjjnkpimaaa", sum := "bde5b5ee8c265992ca3197ea99f838a948f237d3cbfa29843355b23773697b56", func := "puncheon/puncheonlaw07.LogsTells", spec := "logsTells", apart := false }
def LogsTellsSaid : Prop := logsTellsRow.holds Try.pinned (OpenSpec.ofChange logsTellsSpec)

/-- ITS FALSE NEIGHBOUR: 'it returns false'. Refute it at one input. -/
def logsTellsWrong : ChangeSpec := { name := "logsTells", fn := fun _ => fun
  | [d1, d2, d3] => { results := [.lit (.bool false)], args := [d1, d2, d3] }
  | _ => none }
def LogsTellsWrongFalsely : Prop := logsTellsRow.holds Try.pinned (OpenSpec.ofChange logsTellsWrong)

/-- 'puncheonlaw07.LogsBetween': WHATEVER THE INPUT: true; the input reads as it did. -/
def logsBetweenSpec : ChangeSpec := { name := "logsBetween", fn := fun _ => fun
  | [d] => { results := [.lit (.bool true)], args := [d] }
  | _ => none }
def logsBetweenRow : OpenClaim := { program := "ytobbmjjnkpimaaa", sum := "bde5b5ee8c265992ca3197ea99f838a948f237d3cbfa29843355b23773697b56", func := "puncheon/puncheonlaw07.LogsBetween", spec := "logsBetween", apart := false }
def LogsBetweenSaid : Prop := logsBetweenRow.holds Try.pinned (OpenSpec.ofChange logsBetweenSpec)

/-- ITS FALSE NEIGHBOUR: 'it returns false'. Refute it at one input. -/
def logsBetweenWrong : ChangeSpec := { name := "logsBetween", fn := fun _ => fun
  | [d] => { results := [.lit (.bool false)], args := [d] }
  | _ => none }
def LogsBetweenWrongFalsely : Prop := logsBetweenRow.holds Try.pinned (OpenSpec.ofChange logsBetweenWrong)

/-- 'puncheonlaw07.LogsRoom': WHATEVER THE INPUT: true; the input reads as it did. -/
def logsRoomSpec : ChangeSpec := { name := "logsRoom", fn := fun _ => fun
  | [d1, d2, d3] => { results := [.lit (.bool true)], args := [d1, d2, d3] }
  | _ => none }
def logsRoomRow : OpenClaim := { program := "ytobbmjjnkpimaaa", sum := "bde5b5ee8c265992ca3197ea99f838a948f237d3cbfa29843355b23773697b56", func := "puncheon/puncheonlaw07.LogsRoom", spec := "logsRoom", apart := false }
def LogsRoomSaid : Prop := logsRoomRow.holds Try.pinned (OpenSpec.ofChange logsRoomSpec)

/-- ITS FALSE NEIGHBOUR: 'it returns false'. Refute it at one input. -/
def logsRoomWrong : ChangeSpec := { name := "logsRoom", fn := fun _ => fun
  | [d1, d2, d3] => { results := [.lit (.bool false)], args := [d1, d2, d3] }
  | _ => none }
def LogsRoomWrongFalsely : Prop := logsRoomRow.holds Try.pinned (OpenSpec.ofChange logsRoomWrong)

/-- 'puncheonlaw07.LogsRise': WHATEVER THE INPUT: true; the input reads as it did. -/
def logsRiseSpec : ChangeSpec := { name := "logsRise", fn := fun _ => fun
  | [d1, d2, d3, d4] => { results := [.lit (.bool true)], args := [d1, d2, d3, d4] }
  | _ => none }
def logsRiseRow : OpenClaim := { program := "ytobbmjjnkpimaaa", sum := "bde5b5ee8c265992ca3197ea99f838a948f237d3cbfa29843355b23773697b56", func := "puncheon/puncheonlaw07.LogsRise", spec := "logsRise", apart := false }
def LogsRiseSaid : Prop := logsRiseRow.holds Try.pinned (OpenSpec.ofChange logsRiseSpec)

/-- ITS FALSE NEIGHBOUR: 'it returns false'. Refute it at one input. -/
def logsRiseWrong : ChangeSpec := { name := "logsRise", fn := fun _ => fun
  | [d1, d2, d3, d4] => { results := [.lit (.bool false)], args := [d1, d2, d3, d4] }
  | _ => none }
def LogsRiseWrongFalsely : Prop := logsRiseRow.holds Try.pinned (OpenSpec.ofChange logsRiseWrong)

/-- 'puncheonlaw07.LogsDouble': WHATEVER THE INPUT: true; the input reads as it did. -/
def logsDoubleSpec : ChangeSpec := { name := "logsDouble", fn := fun _ => fun
  | [d] => { results := [.lit (.bool true)], args := [d] }
  | _ => none }
def logsDoubleRow : OpenClaim := { program := "ytobbmjjnkpimaaa", sum := "bde5b5ee8c265992ca3197ea99f838a948f237d3cbfa29843355b23773697b56", func := "puncheon/puncheonlaw07.LogsDouble", spec := "logsDouble", apart := false }
def LogsDoubleSaid : Prop := logsDoubleRow.holds Try.pinned (OpenSpec.ofChange logsDoubleSpec)

/-- ITS FALSE NEIGHBOUR: 'it returns false'. Refute it at one input. -/
def logsDoubleWrong : ChangeSpec := { name := "logsDouble", fn := fun _ => fun
  | [d] => { results := [.lit (.bool false)], args := [d] }
  | _ => none }
def LogsDoubleWrongFalsely : Prop := logsDoubleRow.holds Try.pinned (OpenSpec.ofChange logsDoubleWrong)

/- THE SECOND FORM. 'bulk': how many values and letters a reading holds, each counted each time it is reached (what is shared counts as often as it is met; a slice's spare places count too). A statement '..UptoSaid' is the law's where the arguments, and the package variables that the reading takes, are together of bulk at most 1048576: NARROWER than '..Said'. Prove '..Said' where nothing that the law and all that it calls make is longer than what came in: it says more and counts as full. Else prove '..UptoSaid'. A law counts once. -/
mutual
def uptoBulk {H : Type} : DataW H → Nat
  | .lit (.string bytes) => bytes.length + 1
  | .lit _ => 1
  | .nil => 1
  | .ptr d => uptoBulk d + 1
  | .slice elems spare => uptoBulkAll elems + uptoBulkAll spare + 1
  | .agg parts => uptoBulkAll parts + 1
  | .iface _ d => uptoBulk d + 1
  | .map entries => uptoBulkEntries entries + 1
  | .held _ => 1
def uptoBulkAll {H : Type} : List (DataW H) → Nat
  | [] => 0
  | d :: r => uptoBulk d + uptoBulkAll r
def uptoBulkEntries {H : Type} : List (Lit × DataW H) → Nat
  | [] => 0
  | x :: r => uptoBulkEntry x + uptoBulkEntries r
def uptoBulkEntry {H : Type} : Lit × DataW H → Nat
  | (.string bytes, d) => bytes.length + uptoBulk d + 1
  | (_, d) => uptoBulk d + 1
 end
def uptoSmall : (H : Type) → List (DataW H) → Bool := fun _ ds => decide (uptoBulkAll ds ≤ 1048576)
def OpenSpec.upto (s : _root_.Go.ChangeSpec) : _root_.Go.OpenSpec := { _root_.Go.OpenSpec.ofChange s with cond := some uptoSmall }

/-- 'puncheonlaw07.LogsTells', WHERE WHAT IT READS IS OF BULK AT MOST 1048576: true; the input reads as it did. -/
def logsTellsUptoRow : OpenClaim := { program := "ytobbmjjnkpimaaa", sum := "bde5b5ee8c265992ca3197ea99f838a948f237d3cbfa29843355b23773697b56", func := "puncheon/puncheonlaw07.LogsTells", spec := "logsTells", apart := false, narrowed := true }
def LogsTellsUptoSaid : Prop := logsTellsUptoRow.holds Try.pinned (OpenSpec.upto logsTellsSpec)

/-- 'puncheonlaw07.LogsBetween', WHERE WHAT IT READS IS OF BULK AT MOST 1048576: true; the input reads as it did. -/
def logsBetweenUptoRow : OpenClaim := { program := "ytobbmjjnkpimaaa", sum := "bde5b5ee8c265992ca3197ea99f838a948f237d3cbfa29843355b23773697b56", func := "puncheon/puncheonlaw07.LogsBetween", spec := "logsBetween", apart := false, narrowed := true }
def LogsBetweenUptoSaid : Prop := logsBetweenUptoRow.holds Try.pinned (OpenSpec.upto logsBetweenSpec)

/-- 'puncheonlaw07.LogsRoom', WHERE WHAT IT READS IS OF BULK AT MOST 1048576: true; the input reads as it did. -/
def logsRoomUptoRow : OpenClaim := { program := "ytobbmjjnkpimaaa", sum := "bde5b5ee8c265992ca3197ea99f838a948f237d3cbfa29843355b23773697b56", func := "puncheon/puncheonlaw07.LogsRoom", spec := "logsRoom", apart := false, narrowed := true }
def LogsRoomUptoSaid : Prop := logsRoomUptoRow.holds Try.pinned (OpenSpec.upto logsRoomSpec)

/-- 'puncheonlaw07.LogsRise', WHERE WHAT IT READS IS OF BULK AT MOST 1048576: true; the input reads as it did. -/
def logsRiseUptoRow : OpenClaim := { program := "ytobbmjjnkpimaaa", sum := "bde5b5ee8c265992ca3197ea99f838a948f237d3cbfa29843355b23773697b56", func := "puncheon/puncheonlaw07.LogsRise", spec := "logsRise", apart := false, narrowed := true }
def LogsRiseUptoSaid : Prop := logsRiseUptoRow.holds Try.pinned (OpenSpec.upto logsRiseSpec)

/-- 'puncheonlaw07.LogsDouble', WHERE WHAT IT READS IS OF BULK AT MOST 1048576: true; the input reads as it did. -/
def logsDoubleUptoRow : OpenClaim := { program := "ytobbmjjnkpimaaa", sum := "bde5b5ee8c265992ca3197ea99f838a948f237d3cbfa29843355b23773697b56", func := "puncheon/puncheonlaw07.LogsDouble", spec := "logsDouble", apart := false, narrowed := true }
def LogsDoubleUptoSaid : Prop := logsDoubleUptoRow.holds Try.pinned (OpenSpec.upto logsDoubleSpec)

end Rows
end Go.Proofs.Ytobbmjjnkpimaaa
