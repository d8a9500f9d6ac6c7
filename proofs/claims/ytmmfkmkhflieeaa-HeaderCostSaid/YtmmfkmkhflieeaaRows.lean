/-
  No cell of these rows narrows 'for every input' (looked for: loops, veiled, ifaces, maps, wideKeys, modest, calm, conditions, laid).
  DERIVED. THE GIVEN ROWS OF THIS SEAT. 5 by the template 'for every input the law returns true; each argument reads behind the call as it read before'; 0 by the template 'total and deterministic' (their statements: YtmmfkmkhflieeaaTotals.lean).
  GIVEN WITH THE SEED: the statements are not yours to turn. If you find one false, say at which input.
  Laid BY PROGRAM, IN A SANDBOX (cutbox-rows.mjs): the forced cells as the released guide's own fill.sh prints them over the translation cee3a50bbc790762… (all of the seat's roots in one cut). By AI agents, Wed Nov 11 2026. No macro, syntax, notation, axiom, sorry.
-/
import Derived.Test.YtmmfkmkhflieeaaChecked
import GoSem.Claim
import GoSem.ClaimJoined
import GoSem.ClaimMapViews
import Derived.JoinedTies
import Derived.KernelRfl
namespace Go.Proofs.Ytmmfkmkhflieeaa
/- THE CELL 'sum', in the pinned program and in every row, IS THE sha256 OF THE DUMP (.gsa) THAT YtmmfkmkhflieeaaProg.lean LOADS. Nothing in Lean hashes anything: it is a label: what it is worth is what the hold of that sum in a sandbox is worth. -/
noncomputable def Try.pinned : Pinned := { name := "ytmmfkmkhflieeaa", sum := "cee3a50bbc79076223fe24326ff21b55b44d026be2971a7764b1e4757d106418", checked := Try.checked }
namespace Rows
def none {H : Type} : Left H := { results := [], args := [] }

/-- 'puncheonlaw15.HeaderPuts': WHATEVER THE INPUT: true; the input reads as it did. -/
def headerPutsSpec : ChangeSpec := { name := "headerPuts", fn := fun _ => fun
  | [d] => { results := [.lit (.bool true)], args := [d] }
  | _ => none }
def headerPutsRow : OpenClaim := { program := "ytmmfkmkhflieeaa", sum := "cee3a50bbc79076223fe24326ff21b55b44d026be2971a7764b1e4757d106418", func := "puncheon/puncheonlaw15.HeaderPuts", spec := "headerPuts", unfollowed := true, recurses := true, apart := false }
def HeaderPutsSaid : Prop := headerPutsRow.holds Try.pinned (OpenSpec.ofChange headerPutsSpec)

/-- ITS FALSE NEIGHBOUR: 'it returns false'. Refute it at one input. -/
def headerPutsWrong : ChangeSpec := { name := "headerPuts", fn := fun _ => fun
  | [d] => { results := [.lit (.bool false)], args := [d] }
  | _ => none }
def HeaderPutsWrongFalsely : Prop := headerPutsRow.holds Try.pinned (OpenSpec.ofChange headerPutsWrong)

/-- 'puncheonlaw15.HeaderTakes': WHATEVER THE INPUT: true; the input reads as it did. -/
def headerTakesSpec : ChangeSpec := { name := "headerTakes", fn := fun _ => fun
  | [d1, d2] => { results := [.lit (.bool true)], args := [d1, d2] }
  | _ => none }
def headerTakesRow : OpenClaim := { program := "ytmmfkmkhflieeaa", sum := "cee3a50bbc79076223fe24326ff21b55b44d026be2971a7764b1e4757d106418", func := "puncheon/puncheonlaw15.HeaderTakes", spec := "headerTakes", unfollowed := true, recurses := true, apart := false }
def HeaderTakesSaid : Prop := headerTakesRow.holds Try.pinned (OpenSpec.ofChange headerTakesSpec)

/-- ITS FALSE NEIGHBOUR: 'it returns false'. Refute it at one input. -/
def headerTakesWrong : ChangeSpec := { name := "headerTakes", fn := fun _ => fun
  | [d1, d2] => { results := [.lit (.bool false)], args := [d1, d2] }
  | _ => none }
def HeaderTakesWrongFalsely : Prop := headerTakesRow.holds Try.pinned (OpenSpec.ofChange headerTakesWrong)

/-- 'puncheonlaw15.HeaderCost': WHATEVER THE INPUT: true; the input reads as it did. -/
def headerCostSpec : ChangeSpec := { name := "headerCost", fn := fun _ => fun
  | [d1, d2, d3] => { results := [.lit (.bool true)], args := [d1, d2, d3] }
  | _ => none }
def headerCostRow : OpenClaim := { program := "ytmmfkmkhflieeaa", sum := "cee3a50bbc79076223fe24326ff21b55b44d026be2971a7764b1e4757d106418", func := "puncheon/puncheonlaw15.HeaderCost", spec := "headerCost", unfollowed := true, recurses := true, apart := false }
def HeaderCostSaid : Prop := headerCostRow.holds Try.pinned (OpenSpec.ofChange headerCostSpec)

/-- ITS FALSE NEIGHBOUR: 'it returns false'. Refute it at one input. -/
def headerCostWrong : ChangeSpec := { name := "headerCost", fn := fun _ => fun
  | [d1, d2, d3] => { results := [.lit (.bool false)], args := [d1, d2, d3] }
  | _ => none }
def HeaderCostWrongFalsely : Prop := headerCostRow.holds Try.pinned (OpenSpec.ofChange headerCostWrong)

/-- 'puncheonlaw15.HeaderOne': WHATEVER THE INPUT: true; the input reads as it did. -/
def headerOneSpec : ChangeSpec := { name := "headerOne", fn := fun _ => fun
  | [d1, d2] => { results := [.lit (.bool true)], args := [d1, d2] }
  | _ => none }
def headerOneRow : OpenClaim := { program := "ytmmfkmkhflieeaa", sum := "cee3a50bbc79076223fe24326ff21b55b44d026be2971a7764b1e4757d106418", func := "puncheon/puncheonlaw15.HeaderOne", spec := "headerOne", unfollowed := true, recurses := true, apart := false }
def HeaderOneSaid : Prop := headerOneRow.holds Try.pinned (OpenSpec.ofChange headerOneSpec)

/-- ITS FALSE NEIGHBOUR: 'it returns false'. Refute it at one input. -/
def headerOneWrong : ChangeSpec := { name := "headerOne", fn := fun _ => fun
  | [d1, d2] => { results := [.lit (.bool false)], args := [d1, d2] }
  | _ => none }
def HeaderOneWrongFalsely : Prop := headerOneRow.holds Try.pinned (OpenSpec.ofChange headerOneWrong)

/-- 'puncheonlaw15.HeaderBack': WHATEVER THE INPUT: true; the input reads as it did. -/
def headerBackSpec : ChangeSpec := { name := "headerBack", fn := fun _ => fun
  | [d1, d2, d3] => { results := [.lit (.bool true)], args := [d1, d2, d3] }
  | _ => none }
def headerBackRow : OpenClaim := { program := "ytmmfkmkhflieeaa", sum := "cee3a50bbc79076223fe24326ff21b55b44d026be2971a7764b1e4757d106418", func := "puncheon/puncheonlaw15.HeaderBack", spec := "headerBack", unfollowed := true, recurses := true, apart := false }
def HeaderBackSaid : Prop := headerBackRow.holds Try.pinned (OpenSpec.ofChange headerBackSpec)

/-- ITS FALSE NEIGHBOUR: 'it returns false'. Refute it at one input. -/
def headerBackWrong : ChangeSpec := { name := "headerBack", fn := fun _ => fun
  | [d1, d2, d3] => { results := [.lit (.bool false)], args := [d1, d2, d3] }
  | _ => none }
def HeaderBackWrongFalsely : Prop := headerBackRow.holds Try.pinned (OpenSpec.ofChange headerBackWrong)

/- THE SECOND FORM. 'bulk': how many values and letters a reading holds, each counted each time it is reached (what is shared counts as often as it is met; a slice's spare places count too). A statement '..UptoSaid' is the law's where the arguments, and the package variables that the reading takes, are together of bulk at most 1048576: NARROWER than '..Said'. Prove '..Said' where nothing that the law and all that it calls make is longer than what came in: it says more and counts as full. Else prove '..UptoSaid'. A law counts once. -/
mutual
def uptoBulk {H : Type} : DataW H → Nat
  | .lit (.string bytes) => bytes.length + 1
  | .lit _ => 1
  | .nil => 1
  | .ptr d => uptoBulk d + 1
  | .slice elems spare => uptoBulkAll elems + uptoBulkAll spare + 1
  | .agg parts => uptoBulkAll parts + 1
  | .iface _ d => uptoBulk d + 1
  | .map entries => uptoBulkEntries entries + 1
  | .held _ => 1
def uptoBulkAll {H : Type} : List (DataW H) → Nat
  | [] => 0
  | d :: r => uptoBulk d + uptoBulkAll r
def uptoBulkEntries {H : Type} : List (Lit × DataW H) → Nat
  | [] => 0
  | x :: r => uptoBulkEntry x + uptoBulkEntries r
def uptoBulkEntry {H : Type} : Lit × DataW H → Nat
  | (.string bytes, d) => bytes.length + uptoBulk d + 1
  | (_, d) => uptoBulk d + 1
 end
def uptoSmall : (H : Type) → List (DataW H) → Bool := fun _ ds => decide (uptoBulkAll ds ≤ 1048576)
def OpenSpec.upto (s : _root_.Go.ChangeSpec) : _root_.Go.OpenSpec := { _root_.Go.OpenSpec.ofChange s with cond := some uptoSmall }

/-- 'puncheonlaw15.HeaderPuts', WHERE WHAT IT READS IS OF BULK AT MOST 1048576: true; the input reads as it did. -/
def headerPutsUptoRow : OpenClaim := { program := "ytmmfkmkhflieeaa", sum := "cee3a50bbc79076223fe24326ff21b55b44d026be2971a7764b1e4757d106418", func := "puncheon/puncheonlaw15.HeaderPuts", spec := "headerPuts", unfollowed := true, recurses := true, apart := false, narrowed := true }
def HeaderPutsUptoSaid : Prop := headerPutsUptoRow.holds Try.pinned (OpenSpec.upto headerPutsSpec)

/-- 'puncheonlaw15.HeaderTakes', WHERE WHAT IT READS IS OF BULK AT MOST 1048576: true; the input reads as it did. -/
def headerTakesUptoRow : OpenClaim := { program := "ytmmfkmkhflieeaa", sum := "cee3a50bbc79076223fe24326ff21b55b44d026be2971a7764b1e4757d106418", func := "puncheon/puncheonlaw15.HeaderTakes", spec := "headerTakes", unfollowed := true, recurses := true, apart := false, narrowed := true }
def HeaderTakesUptoSaid : Prop := headerTakesUptoRow.holds Try.pinned (OpenSpec.upto headerTakesSpec)

/-- 'puncheonlaw15.HeaderCost', WHERE WHAT IT READS IS OF BULK AT MOST 1048576: true; the input reads as it did. -/
def headerCostUptoRow : OpenClaim := { program := "ytmmfkmkhflieeaa", sum := "cee3a50bbc79076223fe24326ff21b55b44d026be2971a7764b1e4757d106418", func := "puncheon/puncheonlaw15.HeaderCost", spec := "headerCost", unfollowed := true, recurses := true, apart := false, narrowed := true }
def HeaderCostUptoSaid : Prop := headerCostUptoRow.holds Try.pinned (OpenSpec.upto headerCostSpec)

/-- 'puncheonlaw15.HeaderOne', WHERE WHAT IT READS IS OF BULK AT MOST 1048576: true; the input reads as it did. -/
def headerOneUptoRow : OpenClaim := { program := "ytmmfkmkhflieeaa", sum := "cee3a50bbc79076223fe24326ff21b55b44d026be2971a7764b1e4757d106418", func := "puncheon/puncheonlaw15.HeaderOne", spec := "headerOne", unfollowed := true, recurses := true, apart := false, narrowed := true }
def HeaderOneUptoSaid : Prop := headerOneUptoRow.holds Try.pinned (OpenSpec.upto headerOneSpec)

/-- 'puncheonlaw15.HeaderBack', WHERE WHAT IT READS IS OF BULK AT MOST 1048576: true; the input reads as it did. -/
def headerBackUptoRow : OpenClaim := { program := "ytmmfkmkhflieeaa", sum := "cee3a50bbc79076223fe24326ff21b55b44d026be2971a7764b1e4757d106418", func := "puncheon/puncheonlaw15.HeaderBack", spec := "headerBack", unfollowed := true, recurses := true, apart := false, narrowed := true }
def HeaderBackUptoSaid : Prop := headerBackUptoRow.holds Try.pinned (OpenSpec.upto headerBackSpec)

end Rows
end Go.Proofs.Ytmmfkmkhflieeaa
