/-
  No cell of these rows narrows 'for every input' (looked for: loops, veiled, ifaces, maps, wideKeys, modest, calm, conditions, laid).
  DERIVED. THE GIVEN ROWS OF THIS SEAT. 6 by the template 'for every input the law returns true; each argument reads behind the call as it read before'; 0 by the template 'total and deterministic' (their statements: YtlcpcnachdbboaaTotals.lean).
  GIVEN WITH THE SEED: the statements are not yours to turn. If you find one false, say at which input.
  Laid BY PROGRAM, IN A SANDBOX (cutbox-rows.mjs): the forced cells as the released guide's own fill.sh prints them over the translation 0b124cec40addac0… (all of the seat's roots in one cut). By AI agents, Wed Nov 11 2026. No macro, syntax, notation, axiom, sorry.
-/
import Derived.Test.YtlcpcnachdbboaaChecked
import GoSem.Claim
import GoSem.ClaimJoined
import GoSem.ClaimMapViews
import Derived.JoinedTies
import Derived.KernelRfl
namespace Go.Proofs.Ytlcpcnachdbboaa
/- THE CELL 'sum', in the pinned program and in every row, IS THE sha256 OF THE DUMP (.gsa) THAT YtlcpcnachdbboaaProg.lean LOADS. Nothing in Lean hashes anything: it is a label: what it is worth is what the hold of that sum in a sandbox is worth. -/
noncomputable def Try.pinned : Pinned := { name := "ytlcpcnachdbboaa", sum := "0b124cec40addac07ecbe118abafd86b27af8e9c54356d2d24bf46596ec844d1", checked := Try.checked }
namespace Rows
def none {H : Type} : Left H := { results := [], args := [] }

/-- 'puncheonlaw08.NormTells': WHATEVER THE INPUT: true; the input reads as it did. -/
def normTellsSpec : ChangeSpec := { name := "normTells", fn := fun _ => fun
  | [d1, d2] => { results := [.lit (.bool true)], args := [d1, d2] }
  | _ => none }
def normTellsRow : OpenClaim := { program := "ytlcpcnachdbboaa", sum := "0b124cec40addac07ecbe118abafd86b27af8e9c54356d2d24bf46596ec844d1", func := "puncheon/puncheonlaw08.NormTells", spec := "normTells", unfollowed := true, recurses := true, apart := false }
def NormTellsSaid : Prop := normTellsRow.holds Try.pinned (OpenSpec.ofChange normTellsSpec)

/-- ITS FALSE NEIGHBOUR: 'it returns false'. Refute it at one input. -/
def normTellsWrong : ChangeSpec := { name := "normTells", fn := fun _ => fun
  | [d1, d2] => { results := [.lit (.bool false)], args := [d1, d2] }
  | _ => none }
def NormTellsWrongFalsely : Prop := normTellsRow.holds Try.pinned (OpenSpec.ofChange normTellsWrong)

/-- 'puncheonlaw08.NormLogs': WHATEVER THE INPUT: true; the input reads as it did. -/
def normLogsSpec : ChangeSpec := { name := "normLogs", fn := fun _ => fun
  | [d1, d2] => { results := [.lit (.bool true)], args := [d1, d2] }
  | _ => none }
def normLogsRow : OpenClaim := { program := "ytlcpcnachdbboaa", sum := "0b124cec40addac07ecbe118abafd86b27af8e9c54356d2d24bf46596ec844d1", func := "puncheon/puncheonlaw08.NormLogs", spec := "normLogs", unfollowed := true, recurses := true, apart := false }
def NormLogsSaid : Prop := normLogsRow.holds Try.pinned (OpenSpec.ofChange normLogsSpec)

/-- ITS FALSE NEIGHBOUR: 'it returns false'. Refute it at one input. -/
def normLogsWrong : ChangeSpec := { name := "normLogs", fn := fun _ => fun
  | [d1, d2] => { results := [.lit (.bool false)], args := [d1, d2] }
  | _ => none }
def NormLogsWrongFalsely : Prop := normLogsRow.holds Try.pinned (OpenSpec.ofChange normLogsWrong)

/-- 'puncheonlaw08.NormRight': WHATEVER THE INPUT: true; the input reads as it did. -/
def normRightSpec : ChangeSpec := { name := "normRight", fn := fun _ => fun
  | [d1, d2] => { results := [.lit (.bool true)], args := [d1, d2] }
  | _ => none }
def normRightRow : OpenClaim := { program := "ytlcpcnachdbboaa", sum := "0b124cec40addac07ecbe118abafd86b27af8e9c54356d2d24bf46596ec844d1", func := "puncheon/puncheonlaw08.NormRight", spec := "normRight", unfollowed := true, recurses := true, apart := false }
def NormRightSaid : Prop := normRightRow.holds Try.pinned (OpenSpec.ofChange normRightSpec)

/-- ITS FALSE NEIGHBOUR: 'it returns false'. Refute it at one input. -/
def normRightWrong : ChangeSpec := { name := "normRight", fn := fun _ => fun
  | [d1, d2] => { results := [.lit (.bool false)], args := [d1, d2] }
  | _ => none }
def NormRightWrongFalsely : Prop := normRightRow.holds Try.pinned (OpenSpec.ofChange normRightWrong)

/-- 'puncheonlaw08.NormOrder': WHATEVER THE INPUT: true; the input reads as it did. -/
def normOrderSpec : ChangeSpec := { name := "normOrder", fn := fun _ => fun
  | [d1, d2, d3, d4] => { results := [.lit (.bool true)], args := [d1, d2, d3, d4] }
  | _ => none }
def normOrderRow : OpenClaim := { program := "ytlcpcnachdbboaa", sum := "0b124cec40addac07ecbe118abafd86b27af8e9c54356d2d24bf46596ec844d1", func := "puncheon/puncheonlaw08.NormOrder", spec := "normOrder", unfollowed := true, recurses := true, apart := false }
def NormOrderSaid : Prop := normOrderRow.holds Try.pinned (OpenSpec.ofChange normOrderSpec)

/-- ITS FALSE NEIGHBOUR: 'it returns false'. Refute it at one input. -/
def normOrderWrong : ChangeSpec := { name := "normOrder", fn := fun _ => fun
  | [d1, d2, d3, d4] => { results := [.lit (.bool false)], args := [d1, d2, d3, d4] }
  | _ => none }
def NormOrderWrongFalsely : Prop := normOrderRow.holds Try.pinned (OpenSpec.ofChange normOrderWrong)

/-- 'puncheonlaw08.NormNear': WHATEVER THE INPUT: true; the input reads as it did. -/
def normNearSpec : ChangeSpec := { name := "normNear", fn := fun _ => fun
  | [d1, d2, d3] => { results := [.lit (.bool true)], args := [d1, d2, d3] }
  | _ => none }
def normNearRow : OpenClaim := { program := "ytlcpcnachdbboaa", sum := "0b124cec40addac07ecbe118abafd86b27af8e9c54356d2d24bf46596ec844d1", func := "puncheon/puncheonlaw08.NormNear", spec := "normNear", unfollowed := true, recurses := true, apart := false }
def NormNearSaid : Prop := normNearRow.holds Try.pinned (OpenSpec.ofChange normNearSpec)

/-- ITS FALSE NEIGHBOUR: 'it returns false'. Refute it at one input. -/
def normNearWrong : ChangeSpec := { name := "normNear", fn := fun _ => fun
  | [d1, d2, d3] => { results := [.lit (.bool false)], args := [d1, d2, d3] }
  | _ => none }
def NormNearWrongFalsely : Prop := normNearRow.holds Try.pinned (OpenSpec.ofChange normNearWrong)

/-- 'puncheonlaw08.NormTimes': WHATEVER THE INPUT: true; the input reads as it did. -/
def normTimesSpec : ChangeSpec := { name := "normTimes", fn := fun _ => fun
  | [d1, d2, d3] => { results := [.lit (.bool true)], args := [d1, d2, d3] }
  | _ => none }
def normTimesRow : OpenClaim := { program := "ytlcpcnachdbboaa", sum := "0b124cec40addac07ecbe118abafd86b27af8e9c54356d2d24bf46596ec844d1", func := "puncheon/puncheonlaw08.NormTimes", spec := "normTimes", unfollowed := true, recurses := true, apart := false }
def NormTimesSaid : Prop := normTimesRow.holds Try.pinned (OpenSpec.ofChange normTimesSpec)

/-- ITS FALSE NEIGHBOUR: 'it returns false'. Refute it at one input. -/
def normTimesWrong : ChangeSpec := { name := "normTimes", fn := fun _ => fun
  | [d1, d2, d3] => { results := [.lit (.bool false)], args := [d1, d2, d3] }
  | _ => none }
def NormTimesWrongFalsely : Prop := normTimesRow.holds Try.pinned (OpenSpec.ofChange normTimesWrong)

/- THE SECOND FORM. 'bulk': how many values and letters a reading holds, each counted each time it is reached (what is shared counts as often as it is met; a slice's spare places count too). A statement '..UptoSaid' is the law's where the arguments, and the package variables that the reading takes, are together of bulk at most 1048576: NARROWER than '..Said'. Prove '..Said' where nothing that the law and all that it calls make is longer than what came in: it says more and counts as full. Else prove '..UptoSaid'. A law counts once. -/
mutual
def uptoBulk {H : Type} : DataW H → Nat
  | .lit (.string bytes) => bytes.length + 1
  | .lit _ => 1
  | .nil => 1
  | .ptr d => uptoBulk d + 1
  | .slice elems spare => uptoBulkAll elems + uptoBulkAll spare + 1
  | .agg parts => uptoBulkAll parts + 1
  | .iface _ d => uptoBulk d + 1
  | .map entries => uptoBulkEntries entries + 1
  | .held _ => 1
def uptoBulkAll {H : Type} : List (DataW H) → Nat
  | [] => 0
  | d :: r => uptoBulk d + uptoBulkAll r
def uptoBulkEntries {H : Type} : List (Lit × DataW H) → Nat
  | [] => 0
  | x :: r => uptoBulkEntry x + uptoBulkEntries r
def uptoBulkEntry {H : Type} : Lit × DataW H → Nat
  | (.string bytes, d) => bytes.length + uptoBulk d + 1
  | (_, d) => uptoBulk d + 1
 end
def uptoSmall : (H : Type) → List (DataW H) → Bool := fun _ ds => decide (uptoBulkAll ds ≤ 1048576)
def OpenSpec.upto (s : _root_.Go.ChangeSpec) : _root_.Go.OpenSpec := { _root_.Go.OpenSpec.ofChange s with cond := some uptoSmall }

/-- 'puncheonlaw08.NormTells', WHERE WHAT IT READS IS OF BULK AT MOST 1048576: true; the input reads as it did. -/
def normTellsUptoRow : OpenClaim := { program := "ytlcpcnachdbboaa", sum := "0b124cec40addac07ecbe118abafd86b27af8e9c54356d2d24bf46596ec844d1", func := "puncheon/puncheonlaw08.NormTells", spec := "normTells", unfollowed := true, recurses := true, apart := false, narrowed := true }
def NormTellsUptoSaid : Prop := normTellsUptoRow.holds Try.pinned (OpenSpec.upto normTellsSpec)

/-- 'puncheonlaw08.NormLogs', WHERE WHAT IT READS IS OF BULK AT MOST 1048576: true; the input reads as it did. -/
def normLogsUptoRow : OpenClaim := { program := "ytlcpcnachdbboaa", sum := "0b124cec40addac07ecbe118abafd86b27af8e9c54356d2d24bf46596ec844d1", func := "puncheon/puncheonlaw08.NormLogs", spec := "normLogs", unfollowed := true, recurses := true, apart := false, narrowed := true }
def NormLogsUptoSaid : Prop := normLogsUptoRow.holds Try.pinned (OpenSpec.upto normLogsSpec)

/-- 'puncheonlaw08.NormRight', WHERE WHAT IT READS IS OF BULK AT MOST 1048576: true; the input reads as it did. -/
def normRightUptoRow : OpenClaim := { program := "ytlcpcnachdbboaa", sum := "0b124cec40addac07ecbe118abafd86b27af8e9c54356d2d24bf46596ec844d1", func := "puncheon/puncheonlaw08.NormRight", spec := "normRight", unfollowed := true, recurses := true, apart := false, narrowed := true }
def NormRightUptoSaid : Prop := normRightUptoRow.holds Try.pinned (OpenSpec.upto normRightSpec)

/-- 'puncheonlaw08.NormOrder', WHERE WHAT IT READS IS OF BULK AT MOST 1048576: true; the input reads as it did. -/
def normOrderUptoRow : OpenClaim := { program := "ytlcpcnachdbboaa", sum := "0b124cec40addac07ecbe118abafd86b27af8e9c54356d2d24bf46596ec844d1", func := "puncheon/puncheonlaw08.NormOrder", spec := "normOrder", unfollowed := true, recurses := true, apart := false, narrowed := true }
def NormOrderUptoSaid : Prop := normOrderUptoRow.holds Try.pinned (OpenSpec.upto normOrderSpec)

/-- 'puncheonlaw08.NormNear', WHERE WHAT IT READS IS OF BULK AT MOST 1048576: true; the input reads as it did. -/
def normNearUptoRow : OpenClaim := { program := "ytlcpcnachdbboaa", sum := "0b124cec40addac07ecbe118abafd86b27af8e9c54356d2d24bf46596ec844d1", func := "puncheon/puncheonlaw08.NormNear", spec := "normNear", unfollowed := true, recurses := true, apart := false, narrowed := true }
def NormNearUptoSaid : Prop := normNearUptoRow.holds Try.pinned (OpenSpec.upto normNearSpec)

/-- 'puncheonlaw08.NormTimes', WHERE WHAT IT READS IS OF BULK AT MOST 1048576: true; the input reads as it did. -/
def normTimesUptoRow : OpenClaim := { program := "ytlcpcnachdbboaa", sum := "0b124cec40addac07ecbe118abafd86b27af8e9c54356d2d24bf46596ec844d1", func := "puncheon/puncheonlaw08.NormTimes", spec := "normTimes", unfollowed := true, recurses := true, apart := false, narrowed := true }
def NormTimesUptoSaid : Prop := normTimesUptoRow.holds Try.pinned (OpenSpec.upto normTimesSpec)

end Rows
end Go.Proofs.Ytlcpcnachdbboaa
