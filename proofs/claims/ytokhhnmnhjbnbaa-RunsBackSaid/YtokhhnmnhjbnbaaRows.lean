/-
  No cell of these rows narrows 'for every input' (looked for: loops, veiled, ifaces, maps, wideKeys, modest, calm, conditions, laid).
  DERIVED. THE GIVEN ROWS OF THIS SEAT. 5 by the template 'for every input the law returns true; each argument reads behind the call as it read before'; 0 by the template 'total and deterministic' (their statements: YtokhhnmnhjbnbaaTotals.lean).
  GIVEN WITH THE SEED: the statements are not yours to turn. If you find one false, say at which input.
  Laid BY PROGRAM, IN A SANDBOX (cutbox-rows.mjs): the forced cells as the released guide's own fill.sh prints them over the translation 3a5fcb48a8dfaa47… (all of the seat's roots in one cut). By AI agents, Wed Nov 11 2026. No macro, syntax, notation, axiom, sorry.
-/
import Derived.Test.YtokhhnmnhjbnbaaChecked
import GoSem.Claim
import GoSem.ClaimJoined
import GoSem.ClaimMapViews
import Derived.JoinedTies
import Derived.KernelRfl
namespace Go.Proofs.Ytokhhnmnhjbnbaa
/- THE CELL 'sum', in the pinned program and in every row, IS THE sha256 OF THE DUMP (.gsa) THAT YtokhhnmnhjbnbaaProg.lean LOADS. Nothing in Lean hashes anything: it is a label: what it is worth is what the hold of that sum in a sandbox is worth. -/
noncomputable def Try.pinned : Pinned := { name := "ytokhhnmnhjbnbaa", sum := "3a5fcb48a8dfaa4760d66c367451d01739acc763e67417c8ec17912dfeb53a32", checked := Try.checked }
namespace Rows
def none {H : Type} : Left H := { results := [], args := [] }

/-- 'puncheonlaw14.RunsPuts': WHATEVER THE INPUT: true; the input reads as it did. -/
def runsPutsSpec : ChangeSpec := { name := "runsPuts", fn := fun _ => fun
  | [d] => { results := [.lit (.bool true)], args := [d] }
  | _ => none }
def runsPutsRow : OpenClaim := { program := "ytokhhnmnhjbnbaa", sum := "3a5fcb48a8dfaa4760d66c367451d01739acc763e67417c8ec17912dfeb53a32", func := "puncheon/puncheonlaw14.RunsPuts", spec := "runsPuts", recurses := true, apart := false }
def RunsPutsSaid : Prop := runsPutsRow.holds Try.pinned (OpenSpec.ofChange runsPutsSpec)

/-- ITS FALSE NEIGHBOUR: 'it returns false'. Refute it at one input. -/
def runsPutsWrong : ChangeSpec := { name := "runsPuts", fn := fun _ => fun
  | [d] => { results := [.lit (.bool false)], args := [d] }
  | _ => none }
def RunsPutsWrongFalsely : Prop := runsPutsRow.holds Try.pinned (OpenSpec.ofChange runsPutsWrong)

/-- 'puncheonlaw14.RunsTakes': WHATEVER THE INPUT: true; the input reads as it did. -/
def runsTakesSpec : ChangeSpec := { name := "runsTakes", fn := fun _ => fun
  | [d1, d2] => { results := [.lit (.bool true)], args := [d1, d2] }
  | _ => none }
def runsTakesRow : OpenClaim := { program := "ytokhhnmnhjbnbaa", sum := "3a5fcb48a8dfaa4760d66c367451d01739acc763e67417c8ec17912dfeb53a32", func := "puncheon/puncheonlaw14.RunsTakes", spec := "runsTakes", apart := false }
def RunsTakesSaid : Prop := runsTakesRow.holds Try.pinned (OpenSpec.ofChange runsTakesSpec)

/-- ITS FALSE NEIGHBOUR: 'it returns false'. Refute it at one input. -/
def runsTakesWrong : ChangeSpec := { name := "runsTakes", fn := fun _ => fun
  | [d1, d2] => { results := [.lit (.bool false)], args := [d1, d2] }
  | _ => none }
def RunsTakesWrongFalsely : Prop := runsTakesRow.holds Try.pinned (OpenSpec.ofChange runsTakesWrong)

/-- 'puncheonlaw14.RunsCost': WHATEVER THE INPUT: true; the input reads as it did. -/
def runsCostSpec : ChangeSpec := { name := "runsCost", fn := fun _ => fun
  | [d1, d2] => { results := [.lit (.bool true)], args := [d1, d2] }
  | _ => none }
def runsCostRow : OpenClaim := { program := "ytokhhnmnhjbnbaa", sum := "3a5fcb48a8dfaa4760d66c367451d01739acc763e67417c8ec17912dfeb53a32", func := "puncheon/puncheonlaw14.RunsCost", spec := "runsCost", apart := false }
def RunsCostSaid : Prop := runsCostRow.holds Try.pinned (OpenSpec.ofChange runsCostSpec)

/-- ITS FALSE NEIGHBOUR: 'it returns false'. Refute it at one input. -/
def runsCostWrong : ChangeSpec := { name := "runsCost", fn := fun _ => fun
  | [d1, d2] => { results := [.lit (.bool false)], args := [d1, d2] }
  | _ => none }
def RunsCostWrongFalsely : Prop := runsCostRow.holds Try.pinned (OpenSpec.ofChange runsCostWrong)

/-- 'puncheonlaw14.RunsOne': WHATEVER THE INPUT: true; the input reads as it did. -/
def runsOneSpec : ChangeSpec := { name := "runsOne", fn := fun _ => fun
  | [d1, d2] => { results := [.lit (.bool true)], args := [d1, d2] }
  | _ => none }
def runsOneRow : OpenClaim := { program := "ytokhhnmnhjbnbaa", sum := "3a5fcb48a8dfaa4760d66c367451d01739acc763e67417c8ec17912dfeb53a32", func := "puncheon/puncheonlaw14.RunsOne", spec := "runsOne", apart := false }
def RunsOneSaid : Prop := runsOneRow.holds Try.pinned (OpenSpec.ofChange runsOneSpec)

/-- ITS FALSE NEIGHBOUR: 'it returns false'. Refute it at one input. -/
def runsOneWrong : ChangeSpec := { name := "runsOne", fn := fun _ => fun
  | [d1, d2] => { results := [.lit (.bool false)], args := [d1, d2] }
  | _ => none }
def RunsOneWrongFalsely : Prop := runsOneRow.holds Try.pinned (OpenSpec.ofChange runsOneWrong)

/-- 'puncheonlaw14.RunsBack': WHATEVER THE INPUT: true; the input reads as it did. -/
def runsBackSpec : ChangeSpec := { name := "runsBack", fn := fun _ => fun
  | [d1, d2] => { results := [.lit (.bool true)], args := [d1, d2] }
  | _ => none }
def runsBackRow : OpenClaim := { program := "ytokhhnmnhjbnbaa", sum := "3a5fcb48a8dfaa4760d66c367451d01739acc763e67417c8ec17912dfeb53a32", func := "puncheon/puncheonlaw14.RunsBack", spec := "runsBack", apart := false }
def RunsBackSaid : Prop := runsBackRow.holds Try.pinned (OpenSpec.ofChange runsBackSpec)

/-- ITS FALSE NEIGHBOUR: 'it returns false'. Refute it at one input. -/
def runsBackWrong : ChangeSpec := { name := "runsBack", fn := fun _ => fun
  | [d1, d2] => { results := [.lit (.bool false)], args := [d1, d2] }
  | _ => none }
def RunsBackWrongFalsely : Prop := runsBackRow.holds Try.pinned (OpenSpec.ofChange runsBackWrong)

/- THE SECOND FORM. 'bulk': how many values and letters a reading holds, each counted each time it is reached (what is shared counts as often as it is met; a slice's spare places count too). A statement '..UptoSaid' is the law's where the arguments, and the package variables that the reading takes, are together of bulk at most 1048576: NARROWER than '..Said'. Prove '..Said' where nothing that the law and all that it calls make is longer than what came in: it says more and counts as full. Else prove '..UptoSaid'. A law counts once. -/
mutual
def uptoBulk {H : Type} : DataW H → Nat
  | .lit (.string bytes) => bytes.length + 1
  | .lit _ => 1
  | .nil => 1
  | .ptr d => uptoBulk d + 1
  | .slice elems spare => uptoBulkAll elems + uptoBulkAll spare + 1
  | .agg parts => uptoBulkAll parts + 1
  | .iface _ d => uptoBulk d + 1
  | .map entries => uptoBulkEntries entries + 1
  | .held _ => 1
def uptoBulkAll {H : Type} : List (DataW H) → Nat
  | [] => 0
  | d :: r => uptoBulk d + uptoBulkAll r
def uptoBulkEntries {H : Type} : List (Lit × DataW H) → Nat
  | [] => 0
  | x :: r => uptoBulkEntry x + uptoBulkEntries r
def uptoBulkEntry {H : Type} : Lit × DataW H → Nat
  | (.string bytes, d) => bytes.length + uptoBulk d + 1
  | (_, d) => uptoBulk d + 1
 end
def uptoSmall : (H : Type) → List (DataW H) → Bool := fun _ ds => decide (uptoBulkAll ds ≤ 1048576)
def OpenSpec.upto (s : _root_.Go.ChangeSpec) : _root_.Go.OpenSpec := { _root_.Go.OpenSpec.ofChange s with cond := some uptoSmall }

/-- 'puncheonlaw14.RunsPuts', WHERE WHAT IT READS IS OF BULK AT MOST 1048576: true; the input reads as it did. -/
def runsPutsUptoRow : OpenClaim := { program := "ytokhhnmnhjbnbaa", sum := "3a5fcb48a8dfaa4760d66c367451d01739acc763e67417c8ec17912dfeb53a32", func := "puncheon/puncheonlaw14.RunsPuts", spec := "runsPuts", recurses := true, apart := false, narrowed := true }
def RunsPutsUptoSaid : Prop := runsPutsUptoRow.holds Try.pinned (OpenSpec.upto runsPutsSpec)

/-- 'puncheonlaw14.RunsTakes', WHERE WHAT IT READS IS OF BULK AT MOST 1048576: true; the input reads as it did. -/
def runsTakesUptoRow : OpenClaim := { program := "ytokhhnmnhjbnbaa", sum := "3a5fcb48a8dfaa4760d66c367451d01739acc763e67417c8ec17912dfeb53a32", func := "puncheon/puncheonlaw14.RunsTakes", spec := "runsTakes", apart := false, narrowed := true }
def RunsTakesUptoSaid : Prop := runsTakesUptoRow.holds Try.pinned (OpenSpec.upto runsTakesSpec)

/-- 'puncheonlaw14.RunsCost', WHERE WHAT IT READS IS OF BULK AT MOST 1048576: true; the input reads as it did. -/
def runsCostUptoRow : OpenClaim := { program := "ytokhhnmnhjbnbaa", sum := "3a5fcb48a8dfaa4760d66c367451d01739acc763e67417c8ec17912dfeb53a32", func := "puncheon/puncheonlaw14.RunsCost", spec := "runsCost", apart := false, narrowed := true }
def RunsCostUptoSaid : Prop := runsCostUptoRow.holds Try.pinned (OpenSpec.upto runsCostSpec)

/-- 'puncheonlaw14.RunsOne', WHERE WHAT IT READS IS OF BULK AT MOST 1048576: true; the input reads as it did. -/
def runsOneUptoRow : OpenClaim := { program := "ytokhhnmnhjbnbaa", sum := "3a5fcb48a8dfaa4760d66c367451d01739acc763e67417c8ec17912dfeb53a32", func := "puncheon/puncheonlaw14.RunsOne", spec := "runsOne", apart := false, narrowed := true }
def RunsOneUptoSaid : Prop := runsOneUptoRow.holds Try.pinned (OpenSpec.upto runsOneSpec)

/-- 'puncheonlaw14.RunsBack', WHERE WHAT IT READS IS OF BULK AT MOST 1048576: true; the input reads as it did. -/
def runsBackUptoRow : OpenClaim := { program := "ytokhhnmnhjbnbaa", sum := "3a5fcb48a8dfaa4760d66c367451d01739acc763e67417c8ec17912dfeb53a32", func := "puncheon/puncheonlaw14.RunsBack", spec := "runsBack", apart := false, narrowed := true }
def RunsBackUptoSaid : Prop := runsBackUptoRow.holds Try.pinned (OpenSpec.upto runsBackSpec)

end Rows
end Go.Proofs.Ytokhhnmnhjbnbaa
