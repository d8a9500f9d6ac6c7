/-
  No cell of these rows narrows 'for every input' (looked for: loops, veiled, ifaces, maps, wideKeys, modest, calm, conditions, laid).
  DERIVED. THE GIVEN ROWS OF THIS SEAT. 5 by the template 'for every input the law returns true; each argument reads behind the call as it read before'; 0 by the template 'total and deterministic' (their statements: YtcffmmdgjifaaaaTotals.lean).
  GIVEN WITH THE SEED: the statements are not yours to turn. If you find one false, say at which input.
  Laid BY PROGRAM, IN A SANDBOX (cutbox-rows.mjs): the forced cells as the released guide's own fill.sh prints them over the translation 7dab3e3e5767e0e9… (all of the seat's roots in one cut). By AI agents, Wed Nov 11 2026. No macro, syntax, notation, axiom, sorry.
-/
import Derived.Test.YtcffmmdgjifaaaaChecked
import GoSem.Claim
import GoSem.ClaimJoined
import GoSem.ClaimMapViews
import Derived.JoinedTies
import Derived.KernelRfl
namespace Go.Proofs.Ytcffmmdgjifaaaa
/- THE CELL 'sum', in the pinned program and in every row, IS THE sha256 OF THE DUMP (.gsa) THAT YtcffmmdgjifaaaaProg.lean LOADS. Nothing in Lean hashes anything: it is a label: what it is worth is what the hold of that sum in a sandbox is worth. -/
noncomputable def Try.pinned : Pinned := { name := "ytcffmmdgjifaaaa", sum := "7dab3e3e5767e0e9e77a9afd6b88a1836b22f29bb767384edb63d9bd1f75f59e", checked := Try.checked }
namespace Rows
def none {H : Type} : Left H := { results := [], args := [] }

/-- 'puncheonlaw16.ModelTells': WHATEVER THE INPUT: true; the input reads as it did. -/
def modelTellsSpec : ChangeSpec := { name := "modelTells", fn := fun _ => fun
  | [d1, d2, d3] => { results := [.lit (.bool true)], args := [d1, d2, d3] }
  | _ => none }
def modelTellsRow : OpenClaim := { program := "ytcffmmdgjifaaaa", sum := "7dab3e3e5767e0e9e77a9afd6b88a1836b22f29bb767384edb63d9bd1f75f59e", func := "puncheon/puncheonlaw16.ModelTells", spec := "modelTells", unfollowed := true, recurses := true, apart := false }
def ModelTellsSaid : Prop := modelTellsRow.holds Try.pinned (OpenSpec.ofChange modelTellsSpec)

/-- ITS FALSE NEIGHBOUR: 'it returns false'. Refute it at one input. -/
def modelTellsWrong : ChangeSpec := { name := "modelTells", fn := fun _ => fun
  | [d1, d2, d3] => { results := [.lit (.bool false)], args := [d1, d2, d3] }
  | _ => none }
def ModelTellsWrongFalsely : Prop := modelTellsRow.holds Try.pinned (OpenSpec.ofChange modelTellsWrong)

/-- 'puncheonlaw16.ModelMakes': WHATEVER THE INPUT: true; the input reads as it did. -/
def modelMakesSpec : ChangeSpec := { name := "modelMakes", fn := fun _ => fun
  | [d] => { results := [.lit (.bool true)], args := [d] }
  | _ => none }
def modelMakesRow : OpenClaim := { program := "ytcffmmdgjifaaaa", sum := "7dab3e3e5767e0e9e77a9afd6b88a1836b22f29bb767384edb63d9bd1f75f59e", func := "puncheon/puncheonlaw16.ModelMakes", spec := "modelMakes", unfollowed := true, recurses := true, apart := false }
def ModelMakesSaid : Prop := modelMakesRow.holds Try.pinned (OpenSpec.ofChange modelMakesSpec)

/-- ITS FALSE NEIGHBOUR: 'it returns false'. Refute it at one input. -/
def modelMakesWrong : ChangeSpec := { name := "modelMakes", fn := fun _ => fun
  | [d] => { results := [.lit (.bool false)], args := [d] }
  | _ => none }
def ModelMakesWrongFalsely : Prop := modelMakesRow.holds Try.pinned (OpenSpec.ofChange modelMakesWrong)

/-- 'puncheonlaw16.ModelFits': WHATEVER THE INPUT: true; the input reads as it did. -/
def modelFitsSpec : ChangeSpec := { name := "modelFits", fn := fun _ => fun
  | [d1, d2, d3, d4] => { results := [.lit (.bool true)], args := [d1, d2, d3, d4] }
  | _ => none }
def modelFitsRow : OpenClaim := { program := "ytcffmmdgjifaaaa", sum := "7dab3e3e5767e0e9e77a9afd6b88a1836b22f29bb767384edb63d9bd1f75f59e", func := "puncheon/puncheonlaw16.ModelFits", spec := "modelFits", unfollowed := true, recurses := true, apart := false }
def ModelFitsSaid : Prop := modelFitsRow.holds Try.pinned (OpenSpec.ofChange modelFitsSpec)

/-- ITS FALSE NEIGHBOUR: 'it returns false'. Refute it at one input. -/
def modelFitsWrong : ChangeSpec := { name := "modelFits", fn := fun _ => fun
  | [d1, d2, d3, d4] => { results := [.lit (.bool false)], args := [d1, d2, d3, d4] }
  | _ => none }
def ModelFitsWrongFalsely : Prop := modelFitsRow.holds Try.pinned (OpenSpec.ofChange modelFitsWrong)

/-- 'puncheonlaw16.ModelLists': WHATEVER THE INPUT: true; the input reads as it did. -/
def modelListsSpec : ChangeSpec := { name := "modelLists", fn := fun _ => fun
  | [d1, d2, d3] => { results := [.lit (.bool true)], args := [d1, d2, d3] }
  | _ => none }
def modelListsRow : OpenClaim := { program := "ytcffmmdgjifaaaa", sum := "7dab3e3e5767e0e9e77a9afd6b88a1836b22f29bb767384edb63d9bd1f75f59e", func := "puncheon/puncheonlaw16.ModelLists", spec := "modelLists", unfollowed := true, recurses := true, apart := false }
def ModelListsSaid : Prop := modelListsRow.holds Try.pinned (OpenSpec.ofChange modelListsSpec)

/-- ITS FALSE NEIGHBOUR: 'it returns false'. Refute it at one input. -/
def modelListsWrong : ChangeSpec := { name := "modelLists", fn := fun _ => fun
  | [d1, d2, d3] => { results := [.lit (.bool false)], args := [d1, d2, d3] }
  | _ => none }
def ModelListsWrongFalsely : Prop := modelListsRow.holds Try.pinned (OpenSpec.ofChange modelListsWrong)

/-- 'puncheonlaw16.ModelOrder': WHATEVER THE INPUT: true; the input reads as it did. -/
def modelOrderSpec : ChangeSpec := { name := "modelOrder", fn := fun _ => fun
  | [d1, d2] => { results := [.lit (.bool true)], args := [d1, d2] }
  | _ => none }
def modelOrderRow : OpenClaim := { program := "ytcffmmdgjifaaaa", sum := "7dab3e3e5767e0e9e77a9afd6b88a1836b22f29bb767384edb63d9bd1f75f59e", func := "puncheon/puncheonlaw16.ModelOrder", spec := "modelOrder", unfollowed := true, recurses := true, apart := false }
def ModelOrderSaid : Prop := modelOrderRow.holds Try.pinned (OpenSpec.ofChange modelOrderSpec)

/-- ITS FALSE NEIGHBOUR: 'it returns false'. Refute it at one input. -/
def modelOrderWrong : ChangeSpec := { name := "modelOrder", fn := fun _ => fun
  | [d1, d2] => { results := [.lit (.bool false)], args := [d1, d2] }
  | _ => none }
def ModelOrderWrongFalsely : Prop := modelOrderRow.holds Try.pinned (OpenSpec.ofChange modelOrderWrong)

/- THE SECOND FORM. 'bulk': how many values and letters a reading holds, each counted each time it is reached (what is shared counts as often as it is met; a slice's spare places count too). A statement '..UptoSaid' is the law's where the arguments, and the package variables that the reading takes, are together of bulk at most 1048576: NARROWER than '..Said'. Prove '..Said' where nothing that the law and all that it calls make is longer than what came in: it says more and counts as full. Else prove '..UptoSaid'. A law counts once. -/
mutual
def uptoBulk {H : Type} : DataW H → Nat
  | .lit (.string bytes) => bytes.length + 1
  | .lit _ => 1
  | .nil => 1
  | .ptr d => uptoBulk d + 1
  | .slice elems spare => uptoBulkAll elems + uptoBulkAll spare + 1
  | .agg parts => uptoBulkAll parts + 1
  | .iface _ d => uptoBulk d + 1
  | .map entries => uptoBulkEntries entries + 1
  | .held _ => 1
def uptoBulkAll {H : Type} : List (DataW H) → Nat
  | [] => 0
  | d :: r => uptoBulk d + uptoBulkAll r
def uptoBulkEntries {H : Type} : List (Lit × DataW H) → Nat
  | [] => 0
  | x :: r => uptoBulkEntry x + uptoBulkEntries r
def uptoBulkEntry {H : Type} : Lit × DataW H → Nat
  | (.string bytes, d) => bytes.length + uptoBulk d + 1
  | (_, d) => uptoBulk d + 1
 end
def uptoSmall : (H : Type) → List (DataW H) → Bool := fun _ ds => decide (uptoBulkAll ds ≤ 1048576)
def OpenSpec.upto (s : _root_.Go.ChangeSpec) : _root_.Go.OpenSpec := { _root_.Go.OpenSpec.ofChange s with cond := some uptoSmall }

/-- 'puncheonlaw16.ModelTells', WHERE WHAT IT READS IS OF BULK AT MOST 1048576: true; the input reads as it did. -/
def modelTellsUptoRow : OpenClaim := { program := "ytcffmmdgjifaaaa", sum := "7dab3e3e5767e0e9e77a9afd6b88a1836b22f29bb767384edb63d9bd1f75f59e", func := "puncheon/puncheonlaw16.ModelTells", spec := "modelTells", unfollowed := true, recurses := true, apart := false, narrowed := true }
def ModelTellsUptoSaid : Prop := modelTellsUptoRow.holds Try.pinned (OpenSpec.upto modelTellsSpec)

/-- 'puncheonlaw16.ModelMakes', WHERE WHAT IT READS IS OF BULK AT MOST 1048576: true; the input reads as it did. -/
def modelMakesUptoRow : OpenClaim := { program := "ytcffmmdgjifaaaa", sum := "7dab3e3e5767e0e9e77a9afd6b88a1836b22f29bb767384edb63d9bd1f75f59e", func := "puncheon/puncheonlaw16.ModelMakes", spec := "modelMakes", unfollowed := true, recurses := true, apart := false, narrowed := true }
def ModelMakesUptoSaid : Prop := modelMakesUptoRow.holds Try.pinned (OpenSpec.upto modelMakesSpec)

/-- 'puncheonlaw16.ModelFits', WHERE WHAT IT READS IS OF BULK AT MOST 1048576: true; the input reads as it did. -/
def modelFitsUptoRow : OpenClaim := { program := "ytcffmmdgjifaaaa", sum := "7dab3e3e5767e0e9e77a9afd6b88a1836b22f29bb767384edb63d9bd1f75f59e", func := "puncheon/puncheonlaw16.ModelFits", spec := "modelFits", unfollowed := true, recurses := true, apart := false, narrowed := true }
def ModelFitsUptoSaid : Prop := modelFitsUptoRow.holds Try.pinned (OpenSpec.upto modelFitsSpec)

/-- 'puncheonlaw16.ModelLists', WHERE WHAT IT READS IS OF BULK AT MOST 1048576: true; the input reads as it did. -/
def modelListsUptoRow : OpenClaim := { program := "ytcffmmdgjifaaaa", sum := "7dab3e3e5767e0e9e77a9afd6b88a1836b22f29bb767384edb63d9bd1f75f59e", func := "puncheon/puncheonlaw16.ModelLists", spec := "modelLists", unfollowed := true, recurses := true, apart := false, narrowed := true }
def ModelListsUptoSaid : Prop := modelListsUptoRow.holds Try.pinned (OpenSpec.upto modelListsSpec)

/-- 'puncheonlaw16.ModelOrder', WHERE WHAT IT READS IS OF BULK AT MOST 1048576: true; the input reads as it did. -/
def modelOrderUptoRow : OpenClaim := { program := "ytcffmmdgjifaaaa", sum := "7dab3e3e5767e0e9e77a9afd6b88a1836b22f29bb767384edb63d9bd1f75f59e", func := "puncheon/puncheonlaw16.ModelOrder", spec := "modelOrder", unfollowed := true, recurses := true, apart := false, narrowed := true }
def ModelOrderUptoSaid : Prop := modelOrderUptoRow.holds Try.pinned (OpenSpec.upto modelOrderSpec)

end Rows
end Go.Proofs.Ytcffmmdgjifaaaa
