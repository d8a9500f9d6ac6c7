/-
  No cell of these rows narrows 'for every input' (looked for: loops, veiled, ifaces, maps, wideKeys, modest, calm, conditions, laid).
  DERIVED. THE GIVEN ROWS OF THIS SEAT. 4 by the template 'for every input the law returns true; each argument reads behind the call as it read before'; 0 by the template 'total and deterministic' (their statements: YtjbpmlpmfbeobaaTotals.lean).
  GIVEN WITH THE SEED: the statements are not yours to turn. If you find one false, say at which input.
  Laid BY PROGRAM, IN A SANDBOX (cutbox-rows.mjs): the forced cells as the released guide's own fill.sh prints them over the translation 15447317b0bce0fb… (all of the seat's roots in one cut). By AI agents, Wed Nov 11 2026. No macro, syntax, notation, axiom, sorry.
-/
import Derived.Test.YtjbpmlpmfbeobaaChecked
import GoSem.Claim
import GoSem.ClaimJoined
import GoSem.ClaimMapViews
import Derived.JoinedTies
import Derived.KernelRfl
namespace Go.Proofs.Ytjbpmlpmfbeobaa
/- THE CELL 'sum', in the pinned program and in every row, IS THE sha256 OF THE DUMP (.gsa) THAT YtjbpmlpmfbeobaaProg.lean LOADS. Nothing in Lean hashes anything: it is a label: what it is worth is what the hold of that sum in a sandbox is worth. -/
noncomputable def Try.pinned : Pinned := { name := "ytjbpmlpmfbeobaa", sum := "15447317b0bce0fbf1485b22accef3aa62f0e4be2407ce7f64fc4230fb650826", checked := Try.checked }
namespace Rows
def none {H : Type} : Left H := { results := [], args := [] }

/-- 'puncheonlaw11.DtabTells': WHATEVER THE INPUT: true; the input reads as it did. -/
def dtabTellsSpec : ChangeSpec := { name := "dtabTells", fn := fun _ => fun
  | [d] => { results := [.lit (.bool true)], args := [d] }
  | _ => none }
def dtabTellsRow : OpenClaim := { program := "ytjbpmlpmfbeobaa", sum := "15447317b0bce0fbf1485b22accef3aa62f0e4be2407ce7f64fc4230fb650826", func := "puncheon/puncheonlaw11.DtabTells", spec := "dtabTells", unfollowed := true, recurses := true, apart := false }
def DtabTellsSaid : Prop := dtabTellsRow.holds Try.pinned (OpenSpec.ofChange dtabTellsSpec)

/-- ITS FALSE NEIGHBOUR: 'it returns false'. Refute it at one input. -/
def dtabTellsWrong : ChangeSpec := { name := "dtabTells", fn := fun _ => fun
  | [d] => { results := [.lit (.bool false)], args := [d] }
  | _ => none }
def DtabTellsWrongFalsely : Prop := dtabTellsRow.holds Try.pinned (OpenSpec.ofChange dtabTellsWrong)

/-- 'puncheonlaw11.DtabWhole': WHATEVER THE INPUT: true; the input reads as it did. -/
def dtabWholeSpec : ChangeSpec := { name := "dtabWhole", fn := fun _ => fun
  | [d1, d2, d3, d4] => { results := [.lit (.bool true)], args := [d1, d2, d3, d4] }
  | _ => none }
def dtabWholeRow : OpenClaim := { program := "ytjbpmlpmfbeobaa", sum := "15447317b0bce0fbf1485b22accef3aa62f0e4be2407ce7f64fc4230fb650826", func := "puncheon/puncheonlaw11.DtabWhole", spec := "dtabWhole", unfollowed := true, recurses := true, apart := false }
def DtabWholeSaid : Prop := dtabWholeRow.holds Try.pinned (OpenSpec.ofChange dtabWholeSpec)

/-- ITS FALSE NEIGHBOUR: 'it returns false'. Refute it at one input. -/
def dtabWholeWrong : ChangeSpec := { name := "dtabWhole", fn := fun _ => fun
  | [d1, d2, d3, d4] => { results := [.lit (.bool false)], args := [d1, d2, d3, d4] }
  | _ => none }
def DtabWholeWrongFalsely : Prop := dtabWholeRow.holds Try.pinned (OpenSpec.ofChange dtabWholeWrong)

/-- 'puncheonlaw11.DtabReaches': WHATEVER THE INPUT: true; the input reads as it did. -/
def dtabReachesSpec : ChangeSpec := { name := "dtabReaches", fn := fun _ => fun
  | [d1, d2, d3, d4] => { results := [.lit (.bool true)], args := [d1, d2, d3, d4] }
  | _ => none }
def dtabReachesRow : OpenClaim := { program := "ytjbpmlpmfbeobaa", sum := "15447317b0bce0fbf1485b22accef3aa62f0e4be2407ce7f64fc4230fb650826", func := "puncheon/puncheonlaw11.DtabReaches", spec := "dtabReaches", unfollowed := true, recurses := true, apart := false }
def DtabReachesSaid : Prop := dtabReachesRow.holds Try.pinned (OpenSpec.ofChange dtabReachesSpec)

/-- ITS FALSE NEIGHBOUR: 'it returns false'. Refute it at one input. -/
def dtabReachesWrong : ChangeSpec := { name := "dtabReaches", fn := fun _ => fun
  | [d1, d2, d3, d4] => { results := [.lit (.bool false)], args := [d1, d2, d3, d4] }
  | _ => none }
def DtabReachesWrongFalsely : Prop := dtabReachesRow.holds Try.pinned (OpenSpec.ofChange dtabReachesWrong)

/-- 'puncheonlaw11.DtabBits': WHATEVER THE INPUT: true; the input reads as it did. -/
def dtabBitsSpec : ChangeSpec := { name := "dtabBits", fn := fun _ => fun
  | [d1, d2, d3, d4] => { results := [.lit (.bool true)], args := [d1, d2, d3, d4] }
  | _ => none }
def dtabBitsRow : OpenClaim := { program := "ytjbpmlpmfbeobaa", sum := "15447317b0bce0fbf1485b22accef3aa62f0e4be2407ce7f64fc4230fb650826", func := "puncheon/puncheonlaw11.DtabBits", spec := "dtabBits", unfollowed := true, recurses := true, apart := false }
def DtabBitsSaid : Prop := dtabBitsRow.holds Try.pinned (OpenSpec.ofChange dtabBitsSpec)

/-- ITS FALSE NEIGHBOUR: 'it returns false'. Refute it at one input. -/
def dtabBitsWrong : ChangeSpec := { name := "dtabBits", fn := fun _ => fun
  | [d1, d2, d3, d4] => { results := [.lit (.bool false)], args := [d1, d2, d3, d4] }
  | _ => none }
def DtabBitsWrongFalsely : Prop := dtabBitsRow.holds Try.pinned (OpenSpec.ofChange dtabBitsWrong)

/- THE SECOND FORM. 'bulk': how many values and letters a reading holds, each counted each time it is reached (what is shared counts as often as it is met; a slice's spare places count too). A statement '..UptoSaid' is the law's where the arguments, and the package variables that the reading takes, are together of bulk at most 1048576: NARROWER than '..Said'. Prove '..Said' where nothing that the law and all that it calls make is longer than what came in: it says more and counts as full. Else prove '..UptoSaid'. A law counts once. -/
mutual
def uptoBulk {H : Type} : DataW H → Nat
  | .lit (.string bytes) => bytes.length + 1
  | .lit _ => 1
  | .nil => 1
  | .ptr d => uptoBulk d + 1
  | .slice elems spare => uptoBulkAll elems + uptoBulkAll spare + 1
  | .agg parts => uptoBulkAll parts + 1
  | .iface _ d => uptoBulk d + 1
  | .map entries => uptoBulkEntries entries + 1
  | .held _ => 1
def uptoBulkAll {H : Type} : List (DataW H) → Nat
  | [] => 0
  | d :: r => uptoBulk d + uptoBulkAll r
def uptoBulkEntries {H : Type} : List (Lit × DataW H) → Nat
  | [] => 0
  | x :: r => uptoBulkEntry x + uptoBulkEntries r
def uptoBulkEntry {H : Type} : Lit × DataW H → Nat
  | (.string bytes, d) => bytes.length + uptoBulk d + 1
  | (_, d) => uptoBulk d + 1
 end
def uptoSmall : (H : Type) → List (DataW H) → Bool := fun _ ds => decide (uptoBulkAll ds ≤ 1048576)
def OpenSpec.upto (s : _root_.Go.ChangeSpec) : _root_.Go.OpenSpec := { _root_.Go.OpenSpec.ofChange s with cond := some uptoSmall }

/-- 'puncheonlaw11.DtabTells', WHERE WHAT IT READS IS OF BULK AT MOST 1048576: true; the input reads as it did. -/
def dtabTellsUptoRow : OpenClaim := { program := "ytjbpmlpmfbeobaa", sum := "15447317b0bce0fbf1485b22accef3aa62f0e4be2407ce7f64fc4230fb650826", func := "puncheon/puncheonlaw11.DtabTells", spec := "dtabTells", unfollowed := true, recurses := true, apart := false, narrowed := true }
def DtabTellsUptoSaid : Prop := dtabTellsUptoRow.holds Try.pinned (OpenSpec.upto dtabTellsSpec)

/-- 'puncheonlaw11.DtabWhole', WHERE WHAT IT READS IS OF BULK AT MOST 1048576: true; the input reads as it did. -/
def dtabWholeUptoRow : OpenClaim := { program := "ytjbpmlpmfbeobaa", sum := "15447317b0bce0fbf1485b22accef3aa62f0e4be2407ce7f64fc4230fb650826", func := "puncheon/puncheonlaw11.DtabWhole", spec := "dtabWhole", unfollowed := true, recurses := true, apart := false, narrowed := true }
def DtabWholeUptoSaid : Prop := dtabWholeUptoRow.holds Try.pinned (OpenSpec.upto dtabWholeSpec)

/-- 'puncheonlaw11.DtabReaches', WHERE WHAT IT READS IS OF BULK AT MOST 1048576: true; the input reads as it did. -/
def dtabReachesUptoRow : OpenClaim := { program := "ytjbpmlpmfbeobaa", sum := "15447317b0bce0fbf1485b22accef3aa62f0e4be2407ce7f64fc4230fb650826", func := "puncheon/puncheonlaw11.DtabReaches", spec := "dtabReaches", unfollowed := true, recurses := true, apart := false, narrowed := true }
def DtabReachesUptoSaid : Prop := dtabReachesUptoRow.holds Try.pinned (OpenSpec.upto dtabReachesSpec)

/-- 'puncheonlaw11.DtabBits', WHERE WHAT IT READS IS OF BULK AT MOST 1048576: true; the input reads as it did. -/
def dtabBitsUptoRow : OpenClaim := { program := "ytjbpmlpmfbeobaa", sum := "15447317b0bce0fbf1485b22accef3aa62f0e4be2407ce7f64fc4230fb650826", func := "puncheon/puncheonlaw11.DtabBits", spec := "dtabBits", unfollowed := true, recurses := true, apart := false, narrowed := true }
def DtabBitsUptoSaid : Prop := dtabBitsUptoRow.holds Try.pinned (OpenSpec.upto dtabBitsSpec)

end Rows
end Go.Proofs.Ytjbpmlpmfbeobaa
