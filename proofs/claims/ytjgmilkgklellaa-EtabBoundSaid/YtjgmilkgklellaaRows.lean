/-
  No cell of these rows narrows 'for every input' (looked for: loops, veiled, ifaces, maps, wideKeys, modest, calm, conditions, laid).
  DERIVED. THE GIVEN ROWS OF THIS SEAT. 5 by the template 'for every input the law returns true; each argument reads behind the call as it read before'; 0 by the template 'total and deterministic' (their statements: YtjgmilkgklellaaTotals.lean).
  GIVEN WITH THE SEED: the statements are not yours to turn. If you find one false, say at which input.
  Laid BY PROGRAM, IN A SANDBOX (cutbox-rows.mjs): the forced cells as the released guide's own fill.sh prints them over the translation cf7d88a2723d6a3e… (all of the seat's roots in one cut). By AI agents, Wed Nov 11 2026. No macro, syntax, notation, axiom, sorry.
-/
import Derived.Test.YtjgmilkgklellaaChecked
import GoSem.Claim
import GoSem.ClaimJoined
import GoSem.ClaimMapViews
import Derived.JoinedTies
import Derived.KernelRfl
namespace Go.Proofs.Ytjgmilkgklellaa
/- THE CELL 'sum', in the pinned program and in every row, IS THE sha256 OF THE DUMP (.gsa) THAT YtjgmilkgklellaaProg.lean LOADS. Nothing in Lean hashes anything: it is a label: what it is worth is what the hold of that sum in a sandbox is worth. -/
noncomputable def Try.pinned : Pinned := { name := "ytjgmilkgklellaa", sum := "cf7d88a2723d6a3e2bfd51a2e9f4cfe7578e10b92c85246172bc7ff16a33363c", checked := Try.checked }
namespace Rows
def none {H : Type} : Left H := { results := [], args := [] }

/-- 'puncheonlaw12.EtabTells': WHATEVER THE INPUT: true; the input reads as it did. -/
def etabTellsSpec : ChangeSpec := { name := "etabTells", fn := fun _ => fun
  | [d1, d2] => { results := [.lit (.bool true)], args := [d1, d2] }
  | _ => none }
def etabTellsRow : OpenClaim := { program := "ytjgmilkgklellaa", sum := "cf7d88a2723d6a3e2bfd51a2e9f4cfe7578e10b92c85246172bc7ff16a33363c", func := "puncheon/puncheonlaw12.EtabTells", spec := "etabTells", unfollowed := true, recurses := true, apart := false }
def EtabTellsSaid : Prop := etabTellsRow.holds Try.pinned (OpenSpec.ofChange etabTellsSpec)

/-- ITS FALSE NEIGHBOUR: 'it returns false'. Refute it at one input. -/
def etabTellsWrong : ChangeSpec := { name := "etabTells", fn := fun _ => fun
  | [d1, d2] => { results := [.lit (.bool false)], args := [d1, d2] }
  | _ => none }
def EtabTellsWrongFalsely : Prop := etabTellsRow.holds Try.pinned (OpenSpec.ofChange etabTellsWrong)

/-- 'puncheonlaw12.EtabSteps': WHATEVER THE INPUT: true; the input reads as it did. -/
def etabStepsSpec : ChangeSpec := { name := "etabSteps", fn := fun _ => fun
  | [d1, d2, d3, d4] => { results := [.lit (.bool true)], args := [d1, d2, d3, d4] }
  | _ => none }
def etabStepsRow : OpenClaim := { program := "ytjgmilkgklellaa", sum := "cf7d88a2723d6a3e2bfd51a2e9f4cfe7578e10b92c85246172bc7ff16a33363c", func := "puncheon/puncheonlaw12.EtabSteps", spec := "etabSteps", unfollowed := true, recurses := true, apart := false }
def EtabStepsSaid : Prop := etabStepsRow.holds Try.pinned (OpenSpec.ofChange etabStepsSpec)

/-- ITS FALSE NEIGHBOUR: 'it returns false'. Refute it at one input. -/
def etabStepsWrong : ChangeSpec := { name := "etabSteps", fn := fun _ => fun
  | [d1, d2, d3, d4] => { results := [.lit (.bool false)], args := [d1, d2, d3, d4] }
  | _ => none }
def EtabStepsWrongFalsely : Prop := etabStepsRow.holds Try.pinned (OpenSpec.ofChange etabStepsWrong)

/-- 'puncheonlaw12.EtabBound': WHATEVER THE INPUT: true; the input reads as it did. -/
def etabBoundSpec : ChangeSpec := { name := "etabBound", fn := fun _ => fun
  | [d1, d2, d3, d4] => { results := [.lit (.bool true)], args := [d1, d2, d3, d4] }
  | _ => none }
def etabBoundRow : OpenClaim := { program := "ytjgmilkgklellaa", sum := "cf7d88a2723d6a3e2bfd51a2e9f4cfe7578e10b92c85246172bc7ff16a33363c", func := "puncheon/puncheonlaw12.EtabBound", spec := "etabBound", unfollowed := true, recurses := true, apart := false }
def EtabBoundSaid : Prop := etabBoundRow.holds Try.pinned (OpenSpec.ofChange etabBoundSpec)

/-- ITS FALSE NEIGHBOUR: 'it returns false'. Refute it at one input. -/
def etabBoundWrong : ChangeSpec := { name := "etabBound", fn := fun _ => fun
  | [d1, d2, d3, d4] => { results := [.lit (.bool false)], args := [d1, d2, d3, d4] }
  | _ => none }
def EtabBoundWrongFalsely : Prop := etabBoundRow.holds Try.pinned (OpenSpec.ofChange etabBoundWrong)

/-- 'puncheonlaw12.EtabBack': WHATEVER THE INPUT: true; the input reads as it did. -/
def etabBackSpec : ChangeSpec := { name := "etabBack", fn := fun _ => fun
  | [d1, d2, d3, d4] => { results := [.lit (.bool true)], args := [d1, d2, d3, d4] }
  | _ => none }
def etabBackRow : OpenClaim := { program := "ytjgmilkgklellaa", sum := "cf7d88a2723d6a3e2bfd51a2e9f4cfe7578e10b92c85246172bc7ff16a33363c", func := "puncheon/puncheonlaw12.EtabBack", spec := "etabBack", unfollowed := true, recurses := true, apart := false }
def EtabBackSaid : Prop := etabBackRow.holds Try.pinned (OpenSpec.ofChange etabBackSpec)

/-- ITS FALSE NEIGHBOUR: 'it returns false'. Refute it at one input. -/
def etabBackWrong : ChangeSpec := { name := "etabBack", fn := fun _ => fun
  | [d1, d2, d3, d4] => { results := [.lit (.bool false)], args := [d1, d2, d3, d4] }
  | _ => none }
def EtabBackWrongFalsely : Prop := etabBackRow.holds Try.pinned (OpenSpec.ofChange etabBackWrong)

/-- 'puncheonlaw12.EtabForth': WHATEVER THE INPUT: true; the input reads as it did. -/
def etabForthSpec : ChangeSpec := { name := "etabForth", fn := fun _ => fun
  | [d1, d2, d3, d4] => { results := [.lit (.bool true)], args := [d1, d2, d3, d4] }
  | _ => none }
def etabForthRow : OpenClaim := { program := "ytjgmilkgklellaa", sum := "cf7d88a2723d6a3e2bfd51a2e9f4cfe7578e10b92c85246172bc7ff16a33363c", func := "puncheon/puncheonlaw12.EtabForth", spec := "etabForth", unfollowed := true, recurses := true, apart := false }
def EtabForthSaid : Prop := etabForthRow.holds Try.pinned (OpenSpec.ofChange etabForthSpec)

/-- ITS FALSE NEIGHBOUR: 'it returns false'. Refute it at one input. -/
def etabForthWrong : ChangeSpec := { name := "etabForth", fn := fun _ => fun
  | [d1, d2, d3, d4] => { results := [.lit (.bool false)], args := [d1, d2, d3, d4] }
  | _ => none }
def EtabForthWrongFalsely : Prop := etabForthRow.holds Try.pinned (OpenSpec.ofChange etabForthWrong)

/- THE SECOND FORM. 'bulk': how many values and letters a reading holds, each counted each time it is reached (what is shared counts as often as it is met; a slice's spare places count too). A statement '..UptoSaid' is the law's where the arguments, and the package variables that the reading takes, are together of bulk at most 1048576: NARROWER than '..Said'. Prove '..Said' where nothing that the law and all that it calls make is longer than what came in: it says more and counts as full. Else prove '..UptoSaid'. A law counts once. -/
mutual
def uptoBulk {H : Type} : DataW H → Nat
  | .lit (.string bytes) => bytes.length + 1
  | .lit _ => 1
  | .nil => 1
  | .ptr d => uptoBulk d + 1
  | .slice elems spare => uptoBulkAll elems + uptoBulkAll spare + 1
  | .agg parts => uptoBulkAll parts + 1
  | .iface _ d => uptoBulk d + 1
  | .map entries => uptoBulkEntries entries + 1
  | .held _ => 1
def uptoBulkAll {H : Type} : List (DataW H) → Nat
  | [] => 0
  | d :: r => uptoBulk d + uptoBulkAll r
def uptoBulkEntries {H : Type} : List (Lit × DataW H) → Nat
  | [] => 0
  | x :: r => uptoBulkEntry x + uptoBulkEntries r
def uptoBulkEntry {H : Type} : Lit × DataW H → Nat
  | (.string bytes, d) => bytes.length + uptoBulk d + 1
  | (_, d) => uptoBulk d + 1
 end
def uptoSmall : (H : Type) → List (DataW H) → Bool := fun _ ds => decide (uptoBulkAll ds ≤ 1048576)
def OpenSpec.upto (s : _root_.Go.ChangeSpec) : _root_.Go.OpenSpec := { _root_.Go.OpenSpec.ofChange s with cond := some uptoSmall }

/-- 'puncheonlaw12.EtabTells', WHERE WHAT IT READS IS OF BULK AT MOST 1048576: true; the input reads as it did. -/
def etabTellsUptoRow : OpenClaim := { program := "ytjgmilkgklellaa", sum := "cf7d88a2723d6a3e2bfd51a2e9f4cfe7578e10b92c85246172bc7ff16a33363c", func := "puncheon/puncheonlaw12.EtabTells", spec := "etabTells", unfollowed := true, recurses := true, apart := false, narrowed := true }
def EtabTellsUptoSaid : Prop := etabTellsUptoRow.holds Try.pinned (OpenSpec.upto etabTellsSpec)

/-- 'puncheonlaw12.EtabSteps', WHERE WHAT IT READS IS OF BULK AT MOST 1048576: true; the input reads as it did. -/
def etabStepsUptoRow : OpenClaim := { program := "ytjgmilkgklellaa", sum := "cf7d88a2723d6a3e2bfd51a2e9f4cfe7578e10b92c85246172bc7ff16a33363c", func := "puncheon/puncheonlaw12.EtabSteps", spec := "etabSteps", unfollowed := true, recurses := true, apart := false, narrowed := true }
def EtabStepsUptoSaid : Prop := etabStepsUptoRow.holds Try.pinned (OpenSpec.upto etabStepsSpec)

/-- 'puncheonlaw12.EtabBound', WHERE WHAT IT READS IS OF BULK AT MOST 1048576: true; the input reads as it did. -/
def etabBoundUptoRow : OpenClaim := { program := "ytjgmilkgklellaa", sum := "cf7d88a2723d6a3e2bfd51a2e9f4cfe7578e10b92c85246172bc7ff16a33363c", func := "puncheon/puncheonlaw12.EtabBound", spec := "etabBound", unfollowed := true, recurses := true, apart := false, narrowed := true }
def EtabBoundUptoSaid : Prop := etabBoundUptoRow.holds Try.pinned (OpenSpec.upto etabBoundSpec)

/-- 'puncheonlaw12.EtabBack', WHERE WHAT IT READS IS OF BULK AT MOST 1048576: true; the input reads as it did. -/
def etabBackUptoRow : OpenClaim := { program := "ytjgmilkgklellaa", sum := "cf7d88a2723d6a3e2bfd51a2e9f4cfe7578e10b92c85246172bc7ff16a33363c", func := "puncheon/puncheonlaw12.EtabBack", spec := "etabBack", unfollowed := true, recurses := true, apart := false, narrowed := true }
def EtabBackUptoSaid : Prop := etabBackUptoRow.holds Try.pinned (OpenSpec.upto etabBackSpec)

/-- 'puncheonlaw12.EtabForth', WHERE WHAT IT READS IS OF BULK AT MOST 1048576: true; the input reads as it did. -/
def etabForthUptoRow : OpenClaim := { program := "ytjgmilkgklellaa", sum := "cf7d88a2723d6a3e2bfd51a2e9f4cfe7578e10b92c85246172bc7ff16a33363c", func := "puncheon/puncheonlaw12.EtabForth", spec := "etabForth", unfollowed := true, recurses := true, apart := false, narrowed := true }
def EtabForthUptoSaid : Prop := etabForthUptoRow.holds Try.pinned (OpenSpec.upto etabForthSpec)

end Rows
end Go.Proofs.Ytjgmilkgklellaa
