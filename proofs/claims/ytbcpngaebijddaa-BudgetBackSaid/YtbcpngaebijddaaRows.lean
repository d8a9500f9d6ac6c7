/-
  No cell of these rows narrows 'for every input' (looked for: loops, veiled, ifaces, maps, wideKeys, modest, calm, conditions, laid).
  DERIVED. THE GIVEN ROWS OF THIS SEAT. 5 by the template 'for every input the law returns true; each argument reads behind the call as it read before'; 0 by the template 'total and deterministic' (their statements: YtbcpngaebijddaaTotals.lean).
  GIVEN WITH THE SEED: the statements are not yours to turn. If you find one false, say at which input.
  Laid BY PROGRAM, IN A SANDBOX (cutbox-rows.mjs): the forced cells as the released guide's own fill.sh prints them over the translation 6dafedcf18db95e7… (all of the seat's roots in one cut). By AI agents, Wed Nov 11 2026. No macro, syntax, notation, axiom, sorry.
-/
import Derived.Test.YtbcpngaebijddaaChecked
import GoSem.Claim
import GoSem.ClaimJoined
import GoSem.ClaimMapViews
import Derived.JoinedTies
import Derived.KernelRfl
namespace Go.Proofs.Ytbcpngaebijddaa
/- THE CELL 'sum', in the pinned program and in every row, IS THE sha256 OF THE DUMP (.gsa) THAT YtbcpngaebijddaaProg.lean LOADS. Nothing in Lean hashes anything: it is a label: what it is worth is what the hold of that sum in a sandbox is worth. -/
noncomputable def Try.pinned : Pinned := { name := "ytbcpngaebijddaa", sum := "6dafedcf18db95e7dbcf58fb973f312664c7d8e99a9301d8c5c0ed2e9ff14262", checked := Try.checked }
namespace Rows
def none {H : Type} : Left H := { results := [], args := [] }

/-- 'puncheonlaw13.BudgetPuts': WHATEVER THE INPUT: true; the input reads as it did. -/
def budgetPutsSpec : ChangeSpec := { name := "budgetPuts", fn := fun _ => fun
  | [d] => { results := [.lit (.bool true)], args := [d] }
  | _ => none }
def budgetPutsRow : OpenClaim := { program := "ytbcpngaebijddaa", sum := "6dafedcf18db95e7dbcf58fb973f312664c7d8e99a9301d8c5c0ed2e9ff14262", func := "puncheon/puncheonlaw13.BudgetPuts", spec := "budgetPuts", apart := false }
def BudgetPutsSaid : Prop := budgetPutsRow.holds Try.pinned (OpenSpec.ofChange budgetPutsSpec)

/-- ITS FALSE NEIGHBOUR: 'it returns false'. Refute it at one input. -/
def budgetPutsWrong : ChangeSpec := { name := "budgetPuts", fn := fun _ => fun
  | [d] => { results := [.lit (.bool false)], args := [d] }
  | _ => none }
def BudgetPutsWrongFalsely : Prop := budgetPutsRow.holds Try.pinned (OpenSpec.ofChange budgetPutsWrong)

/-- 'puncheonlaw13.BudgetTakes': WHATEVER THE INPUT: true; the input reads as it did. -/
def budgetTakesSpec : ChangeSpec := { name := "budgetTakes", fn := fun _ => fun
  | [d1, d2] => { results := [.lit (.bool true)], args := [d1, d2] }
  | _ => none }
def budgetTakesRow : OpenClaim := { program := "ytbcpngaebijddaa", sum := "6dafedcf18db95e7dbcf58fb973f312664c7d8e99a9301d8c5c0ed2e9ff14262", func := "puncheon/puncheonlaw13.BudgetTakes", spec := "budgetTakes", apart := false }
def BudgetTakesSaid : Prop := budgetTakesRow.holds Try.pinned (OpenSpec.ofChange budgetTakesSpec)

/-- ITS FALSE NEIGHBOUR: 'it returns false'. Refute it at one input. -/
def budgetTakesWrong : ChangeSpec := { name := "budgetTakes", fn := fun _ => fun
  | [d1, d2] => { results := [.lit (.bool false)], args := [d1, d2] }
  | _ => none }
def BudgetTakesWrongFalsely : Prop := budgetTakesRow.holds Try.pinned (OpenSpec.ofChange budgetTakesWrong)

/-- 'puncheonlaw13.BudgetRoom': WHATEVER THE INPUT: true; the input reads as it did. -/
def budgetRoomSpec : ChangeSpec := { name := "budgetRoom", fn := fun _ => fun
  | [d1, d2] => { results := [.lit (.bool true)], args := [d1, d2] }
  | _ => none }
def budgetRoomRow : OpenClaim := { program := "ytbcpngaebijddaa", sum := "6dafedcf18db95e7dbcf58fb973f312664c7d8e99a9301d8c5c0ed2e9ff14262", func := "puncheon/puncheonlaw13.BudgetRoom", spec := "budgetRoom", apart := false }
def BudgetRoomSaid : Prop := budgetRoomRow.holds Try.pinned (OpenSpec.ofChange budgetRoomSpec)

/-- ITS FALSE NEIGHBOUR: 'it returns false'. Refute it at one input. -/
def budgetRoomWrong : ChangeSpec := { name := "budgetRoom", fn := fun _ => fun
  | [d1, d2] => { results := [.lit (.bool false)], args := [d1, d2] }
  | _ => none }
def BudgetRoomWrongFalsely : Prop := budgetRoomRow.holds Try.pinned (OpenSpec.ofChange budgetRoomWrong)

/-- 'puncheonlaw13.BudgetOne': WHATEVER THE INPUT: true; the input reads as it did. -/
def budgetOneSpec : ChangeSpec := { name := "budgetOne", fn := fun _ => fun
  | [d1, d2] => { results := [.lit (.bool true)], args := [d1, d2] }
  | _ => none }
def budgetOneRow : OpenClaim := { program := "ytbcpngaebijddaa", sum := "6dafedcf18db95e7dbcf58fb973f312664c7d8e99a9301d8c5c0ed2e9ff14262", func := "puncheon/puncheonlaw13.BudgetOne", spec := "budgetOne", apart := false }
def BudgetOneSaid : Prop := budgetOneRow.holds Try.pinned (OpenSpec.ofChange budgetOneSpec)

/-- ITS FALSE NEIGHBOUR: 'it returns false'. Refute it at one input. -/
def budgetOneWrong : ChangeSpec := { name := "budgetOne", fn := fun _ => fun
  | [d1, d2] => { results := [.lit (.bool false)], args := [d1, d2] }
  | _ => none }
def BudgetOneWrongFalsely : Prop := budgetOneRow.holds Try.pinned (OpenSpec.ofChange budgetOneWrong)

/-- 'puncheonlaw13.BudgetBack': WHATEVER THE INPUT: true; the input reads as it did. -/
def budgetBackSpec : ChangeSpec := { name := "budgetBack", fn := fun _ => fun
  | [d] => { results := [.lit (.bool true)], args := [d] }
  | _ => none }
def budgetBackRow : OpenClaim := { program := "ytbcpngaebijddaa", sum := "6dafedcf18db95e7dbcf58fb973f312664c7d8e99a9301d8c5c0ed2e9ff14262", func := "puncheon/puncheonlaw13.BudgetBack", spec := "budgetBack", apart := false }
def BudgetBackSaid : Prop := budgetBackRow.holds Try.pinned (OpenSpec.ofChange budgetBackSpec)

/-- ITS FALSE NEIGHBOUR: 'it returns false'. Refute it at one input. -/
def budgetBackWrong : ChangeSpec := { name := "budgetBack", fn := fun _ => fun
  | [d] => { results := [.lit (.bool false)], args := [d] }
  | _ => none }
def BudgetBackWrongFalsely : Prop := budgetBackRow.holds Try.pinned (OpenSpec.ofChange budgetBackWrong)

/- THE SECOND FORM. 'bulk': how many values and letters a reading holds, each counted each time it is reached (what is shared counts as often as it is met; a slice's spare places count too). A statement '..UptoSaid' is the law's where the arguments, and the package variables that the reading takes, are together of bulk at most 1048576: NARROWER than '..Said'. Prove '..Said' where nothing that the law and all that it calls make is longer than what came in: it says more and counts as full. Else prove '..UptoSaid'. A law counts once. -/
mutual
def uptoBulk {H : Type} : DataW H → Nat
  | .lit (.string bytes) => bytes.length + 1
  | .lit _ => 1
  | .nil => 1
  | .ptr d => uptoBulk d + 1
  | .slice elems spare => uptoBulkAll elems + uptoBulkAll spare + 1
  | .agg parts => uptoBulkAll parts + 1
  | .iface _ d => uptoBulk d + 1
  | .map entries => uptoBulkEntries entries + 1
  | .held _ => 1
def uptoBulkAll {H : Type} : List (DataW H) → Nat
  | [] => 0
  | d :: r => uptoBulk d + uptoBulkAll r
def uptoBulkEntries {H : Type} : List (Lit × DataW H) → Nat
  | [] => 0
  | x :: r => uptoBulkEntry x + uptoBulkEntries r
def uptoBulkEntry {H : Type} : Lit × DataW H → Nat
  | (.string bytes, d) => bytes.length + uptoBulk d + 1
  | (_, d) => uptoBulk d + 1
 end
def uptoSmall : (H : Type) → List (DataW H) → Bool := fun _ ds => decide (uptoBulkAll ds ≤ 1048576)
def OpenSpec.upto (s : _root_.Go.ChangeSpec) : _root_.Go.OpenSpec := { _root_.Go.OpenSpec.ofChange s with cond := some uptoSmall }

/-- 'puncheonlaw13.BudgetPuts', WHERE WHAT IT READS IS OF BULK AT MOST 1048576: true; the input reads as it did. -/
def budgetPutsUptoRow : OpenClaim := { program := "ytbcpngaebijddaa", sum := "6dafedcf18db95e7dbcf58fb973f312664c7d8e99a9301d8c5c0ed2e9ff14262", func := "puncheon/puncheonlaw13.BudgetPuts", spec := "budgetPuts", apart := false, narrowed := true }
def BudgetPutsUptoSaid : Prop := budgetPutsUptoRow.holds Try.pinned (OpenSpec.upto budgetPutsSpec)

/-- 'puncheonlaw13.BudgetTakes', WHERE WHAT IT READS IS OF BULK AT MOST 1048576: true; the input reads as it did. -/
def budgetTakesUptoRow : OpenClaim := { program := "ytbcpngaebijddaa", sum := "6dafedcf18db95e7dbcf58fb973f312664c7d8e99a9301d8c5c0ed2e9ff14262", func := "puncheon/puncheonlaw13.BudgetTakes", spec := "budgetTakes", apart := false, narrowed := true }
def BudgetTakesUptoSaid : Prop := budgetTakesUptoRow.holds Try.pinned (OpenSpec.upto budgetTakesSpec)

/-- 'puncheonlaw13.BudgetRoom', WHERE WHAT IT READS IS OF BULK AT MOST 1048576: true; the input reads as it did. -/
def budgetRoomUptoRow : OpenClaim := { program := "ytbcpngaebijddaa", sum := "6dafedcf18db95e7dbcf58fb973f312664c7d8e99a9301d8c5c0ed2e9ff14262", func := "puncheon/puncheonlaw13.BudgetRoom", spec := "budgetRoom", apart := false, narrowed := true }
def BudgetRoomUptoSaid : Prop := budgetRoomUptoRow.holds Try.pinned (OpenSpec.upto budgetRoomSpec)

/-- 'puncheonlaw13.BudgetOne', WHERE WHAT IT READS IS OF BULK AT MOST 1048576: true; the input reads as it did. -/
def budgetOneUptoRow : OpenClaim := { program := "ytbcpngaebijddaa", sum := "6dafedcf18db95e7dbcf58fb973f312664c7d8e99a9301d8c5c0ed2e9ff14262", func := "puncheon/puncheonlaw13.BudgetOne", spec := "budgetOne", apart := false, narrowed := true }
def BudgetOneUptoSaid : Prop := budgetOneUptoRow.holds Try.pinned (OpenSpec.upto budgetOneSpec)

/-- 'puncheonlaw13.BudgetBack', WHERE WHAT IT READS IS OF BULK AT MOST 1048576: true; the input reads as it did. -/
def budgetBackUptoRow : OpenClaim := { program := "ytbcpngaebijddaa", sum := "6dafedcf18db95e7dbcf58fb973f312664c7d8e99a9301d8c5c0ed2e9ff14262", func := "puncheon/puncheonlaw13.BudgetBack", spec := "budgetBack", apart := false, narrowed := true }
def BudgetBackUptoSaid : Prop := budgetBackUptoRow.holds Try.pinned (OpenSpec.upto budgetBackSpec)

end Rows
end Go.Proofs.Ytbcpngaebijddaa
