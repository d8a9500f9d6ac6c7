/-
  No cell of these rows narrows 'for every input' (looked for: loops, veiled, ifaces, maps, wideKeys, modest, calm, conditions, laid).
  DERIVED. THE GIVEN ROWS OF THIS SEAT. 5 by the template 'for every input the law returns true; each argument reads behind the call as it read before'; 0 by the template 'total and deterministic' (their statements: YthkpjjkjdklpmaaTotals.lean).
  GIVEN WITH THE SEED: the statements are not yours to turn. If you find one false, say at which input.
  Laid BY PROGRAM, IN A SANDBOX (cutbox-rows.mjs): the forced cells as the released guide's own fill.sh prints them over the translation f1c48fa2d7f862b0… (all of the seat's roots in one cut). By AI agents, Wed Nov 11 2026. No macro, syntax, notation, axiom, sorry.
-/
import Derived.Test.YthkpjjkjdklpmaaChecked
import GoSem.Claim
import GoSem.ClaimJoined
import GoSem.ClaimMapViews
import Derived.JoinedTies
import Derived.KernelRfl
namespace Go.Proofs.Ythkpjjkjdklpmaa
/- THE CELL 'sum', in the pinned program and in every row, IS THE sha256 OF THE DUMP (.gsa) THAT YthkpjjkjdklpmaaProg.lean LOADS. Nothing in Lean hashes anything: it is a label: what it is worth is what the hold of that sum in a sandbox is worth. -/
noncomputable def Try.pinned : Pinned := { name := "ythkpjjkjdklpmaa", sum := "f1c48fa2d7f862b01f4233814a80f9f59b3eb64e086ab316f40704990eb2cacf", checked := Try.checked }
namespace Rows
def none {H : Type} : Left H := { results := [], args := [] }

/-- 'puncheonlaw06.CtxTells': WHATEVER THE INPUT: true; the input reads as it did. -/
def ctxTellsSpec : ChangeSpec := { name := "ctxTells", fn := fun _ => fun
  | [d1, d2, d3] => { results := [.lit (.bool true)], args := [d1, d2, d3] }
  | _ => none }
def ctxTellsRow : OpenClaim := { program := "ythkpjjkjdklpmaa", sum := "f1c48fa2d7f862b01f4233814a80f9f59b3eb64e086ab316f40704990eb2cacf", func := "puncheon/puncheonlaw06.CtxTells", spec := "ctxTells", unfollowed := true, recurses := true, apart := false }
def CtxTellsSaid : Prop := ctxTellsRow.holds Try.pinned (OpenSpec.ofChange ctxTellsSpec)

/-- ITS FALSE NEIGHBOUR: 'it returns false'. Refute it at one input. -/
def ctxTellsWrong : ChangeSpec := { name := "ctxTells", fn := fun _ => fun
  | [d1, d2, d3] => { results := [.lit (.bool false)], args := [d1, d2, d3] }
  | _ => none }
def CtxTellsWrongFalsely : Prop := ctxTellsRow.holds Try.pinned (OpenSpec.ofChange ctxTellsWrong)

/-- 'puncheonlaw06.CtxJoins': WHATEVER THE INPUT: true; the input reads as it did. -/
def ctxJoinsSpec : ChangeSpec := { name := "ctxJoins", fn := fun _ => fun
  | [d1, d2, d3] => { results := [.lit (.bool true)], args := [d1, d2, d3] }
  | _ => none }
def ctxJoinsRow : OpenClaim := { program := "ythkpjjkjdklpmaa", sum := "f1c48fa2d7f862b01f4233814a80f9f59b3eb64e086ab316f40704990eb2cacf", func := "puncheon/puncheonlaw06.CtxJoins", spec := "ctxJoins", unfollowed := true, recurses := true, apart := false }
def CtxJoinsSaid : Prop := ctxJoinsRow.holds Try.pinned (OpenSpec.ofChange ctxJoinsSpec)

/-- ITS FALSE NEIGHBOUR: 'it returns false'. Refute it at one input. -/
def ctxJoinsWrong : ChangeSpec := { name := "ctxJoins", fn := fun _ => fun
  | [d1, d2, d3] => { results := [.lit (.bool false)], args := [d1, d2, d3] }
  | _ => none }
def CtxJoinsWrongFalsely : Prop := ctxJoinsRow.holds Try.pinned (OpenSpec.ofChange ctxJoinsWrong)

/-- 'puncheonlaw06.CtxWidest': WHATEVER THE INPUT: true; the input reads as it did. -/
def ctxWidestSpec : ChangeSpec := { name := "ctxWidest", fn := fun _ => fun
  | [d1, d2] => { results := [.lit (.bool true)], args := [d1, d2] }
  | _ => none }
def ctxWidestRow : OpenClaim := { program := "ythkpjjkjdklpmaa", sum := "f1c48fa2d7f862b01f4233814a80f9f59b3eb64e086ab316f40704990eb2cacf", func := "puncheon/puncheonlaw06.CtxWidest", spec := "ctxWidest", unfollowed := true, recurses := true, apart := false }
def CtxWidestSaid : Prop := ctxWidestRow.holds Try.pinned (OpenSpec.ofChange ctxWidestSpec)

/-- ITS FALSE NEIGHBOUR: 'it returns false'. Refute it at one input. -/
def ctxWidestWrong : ChangeSpec := { name := "ctxWidest", fn := fun _ => fun
  | [d1, d2] => { results := [.lit (.bool false)], args := [d1, d2] }
  | _ => none }
def CtxWidestWrongFalsely : Prop := ctxWidestRow.holds Try.pinned (OpenSpec.ofChange ctxWidestWrong)

/-- 'puncheonlaw06.CtxMore': WHATEVER THE INPUT: true; the input reads as it did. -/
def ctxMoreSpec : ChangeSpec := { name := "ctxMore", fn := fun _ => fun
  | [d1, d2, d3] => { results := [.lit (.bool true)], args := [d1, d2, d3] }
  | _ => none }
def ctxMoreRow : OpenClaim := { program := "ythkpjjkjdklpmaa", sum := "f1c48fa2d7f862b01f4233814a80f9f59b3eb64e086ab316f40704990eb2cacf", func := "puncheon/puncheonlaw06.CtxMore", spec := "ctxMore", unfollowed := true, recurses := true, apart := false }
def CtxMoreSaid : Prop := ctxMoreRow.holds Try.pinned (OpenSpec.ofChange ctxMoreSpec)

/-- ITS FALSE NEIGHBOUR: 'it returns false'. Refute it at one input. -/
def ctxMoreWrong : ChangeSpec := { name := "ctxMore", fn := fun _ => fun
  | [d1, d2, d3] => { results := [.lit (.bool false)], args := [d1, d2, d3] }
  | _ => none }
def CtxMoreWrongFalsely : Prop := ctxMoreRow.holds Try.pinned (OpenSpec.ofChange ctxMoreWrong)

/-- 'puncheonlaw06.CtxWhole': WHATEVER THE INPUT: true; the input reads as it did. -/
def ctxWholeSpec : ChangeSpec := { name := "ctxWhole", fn := fun _ => fun
  | [d] => { results := [.lit (.bool true)], args := [d] }
  | _ => none }
def ctxWholeRow : OpenClaim := { program := "ythkpjjkjdklpmaa", sum := "f1c48fa2d7f862b01f4233814a80f9f59b3eb64e086ab316f40704990eb2cacf", func := "puncheon/puncheonlaw06.CtxWhole", spec := "ctxWhole", unfollowed := true, recurses := true, apart := false }
def CtxWholeSaid : Prop := ctxWholeRow.holds Try.pinned (OpenSpec.ofChange ctxWholeSpec)

/-- ITS FALSE NEIGHBOUR: 'it returns false'. Refute it at one input. -/
def ctxWholeWrong : ChangeSpec := { name := "ctxWhole", fn := fun _ => fun
  | [d] => { results := [.lit (.bool false)], args := [d] }
  | _ => none }
def CtxWholeWrongFalsely : Prop := ctxWholeRow.holds Try.pinned (OpenSpec.ofChange ctxWholeWrong)

/- THE SECOND FORM. 'bulk': how many values and letters a reading holds, each counted each time it is reached (what is shared counts as often as it is met; a slice's spare places count too). A statement '..UptoSaid' is the law's where the arguments, and the package variables that the reading takes, are together of bulk at most 1048576: NARROWER than '..Said'. Prove '..Said' where nothing that the law and all that it calls make is longer than what came in: it says more and counts as full. Else prove '..UptoSaid'. A law counts once. -/
mutual
def uptoBulk {H : Type} : DataW H → Nat
  | .lit (.string bytes) => bytes.length + 1
  | .lit _ => 1
  | .nil => 1
  | .ptr d => uptoBulk d + 1
  | .slice elems spare => uptoBulkAll elems + uptoBulkAll spare + 1
  | .agg parts => uptoBulkAll parts + 1
  | .iface _ d => uptoBulk d + 1
  | .map entries => uptoBulkEntries entries + 1
  | .held _ => 1
def uptoBulkAll {H : Type} : List (DataW H) → Nat
  | [] => 0
  | d :: r => uptoBulk d + uptoBulkAll r
def uptoBulkEntries {H : Type} : List (Lit × DataW H) → Nat
  | [] => 0
  | x :: r => uptoBulkEntry x + uptoBulkEntries r
def uptoBulkEntry {H : Type} : Lit × DataW H → Nat
  | (.string bytes, d) => bytes.length + uptoBulk d + 1
  | (_, d) => uptoBulk d + 1
 end
def uptoSmall : (H : Type) → List (DataW H) → Bool := fun _ ds => decide (uptoBulkAll ds ≤ 1048576)
def OpenSpec.upto (s : _root_.Go.ChangeSpec) : _root_.Go.OpenSpec := { _root_.Go.OpenSpec.ofChange s with cond := some uptoSmall }

/-- 'puncheonlaw06.CtxTells', WHERE WHAT IT READS IS OF BULK AT MOST 1048576: true; the input reads as it did. -/
def ctxTellsUptoRow : OpenClaim := { program := "ythkpjjkjdklpmaa", sum := "f1c48fa2d7f862b01f4233814a80f9f59b3eb64e086ab316f40704990eb2cacf", func := "puncheon/puncheonlaw06.CtxTells", spec := "ctxTells", unfollowed := true, recurses := true, apart := false, narrowed := true }
def CtxTellsUptoSaid : Prop := ctxTellsUptoRow.holds Try.pinned (OpenSpec.upto ctxTellsSpec)

/-- 'puncheonlaw06.CtxJoins', WHERE WHAT IT READS IS OF BULK AT MOST 1048576: true; the input reads as it did. -/
def ctxJoinsUptoRow : OpenClaim := { program := "ythkpjjkjdklpmaa", sum := "f1c48fa2d7f862b01f4233814a80f9f59b3eb64e086ab316f40704990eb2cacf", func := "puncheon/puncheonlaw06.CtxJoins", spec := "ctxJoins", unfollowed := true, recurses := true, apart := false, narrowed := true }
def CtxJoinsUptoSaid : Prop := ctxJoinsUptoRow.holds Try.pinned (OpenSpec.upto ctxJoinsSpec)

/-- 'puncheonlaw06.CtxWidest', WHERE WHAT IT READS IS OF BULK AT MOST 1048576: true; the input reads as it did. -/
def ctxWidestUptoRow : OpenClaim := { program := "ythkpjjkjdklpmaa", sum := "f1c48fa2d7f862b01f4233814a80f9f59b3eb64e086ab316f40704990eb2cacf", func := "puncheon/puncheonlaw06.CtxWidest", spec := "ctxWidest", unfollowed := true, recurses := true, apart := false, narrowed := true }
def CtxWidestUptoSaid : Prop := ctxWidestUptoRow.holds Try.pinned (OpenSpec.upto ctxWidestSpec)

/-- 'puncheonlaw06.CtxMore', WHERE WHAT IT READS IS OF BULK AT MOST 1048576: true; the input reads as it did. -/
def ctxMoreUptoRow : OpenClaim := { program := "ythkpjjkjdklpmaa", sum := "f1c48fa2d7f862b01f4233814a80f9f59b3eb64e086ab316f40704990eb2cacf", func := "puncheon/puncheonlaw06.CtxMore", spec := "ctxMore", unfollowed := true, recurses := true, apart := false, narrowed := true }
def CtxMoreUptoSaid : Prop := ctxMoreUptoRow.holds Try.pinned (OpenSpec.upto ctxMoreSpec)

/-- 'puncheonlaw06.CtxWhole', WHERE WHAT IT READS IS OF BULK AT MOST 1048576: true; the input reads as it did. -/
def ctxWholeUptoRow : OpenClaim := { program := "ythkpjjkjdklpmaa", sum := "f1c48fa2d7f862b01f4233814a80f9f59b3eb64e086ab316f40704990eb2cacf", func := "puncheon/puncheonlaw06.CtxWhole", spec := "ctxWhole", unfollowed := true, recurses := true, apart := false, narrowed := true }
def CtxWholeUptoSaid : Prop := ctxWholeUptoRow.holds Try.pinned (OpenSpec.upto ctxWholeSpec)

end Rows
end Go.Proofs.Ythkpjjkjdklpmaa
