/-
  No cell of these rows narrows 'for every input' (looked for: loops, veiled, ifaces, maps, wideKeys, modest, calm, conditions, laid).
  DERIVED. THE GIVEN ROWS OF THIS SEAT. 4 by the template 'for every input the law returns true; each argument reads behind the call as it read before'; 0 by the template 'total and deterministic' (their statements: YtfdijffecgdjbaaTotals.lean).
  GIVEN WITH THE SEED: the statements are not yours to turn. If you find one false, say at which input.
  Laid BY PROGRAM, IN A SANDBOX (cutbox-rows.mjs): the forced cells as the released guide's own fill.sh prints them over the translation 9f7567261d1a819c… (all of the seat's roots in one cut). By AI agents, Wed Nov 11 2026. No macro, syntax, notation, axiom, sorry.
-/
import Derived.Test.YtfdijffecgdjbaaChecked
import GoSem.Claim
import GoSem.ClaimJoined
import GoSem.ClaimMapViews
import Derived.JoinedTies
import Derived.KernelRfl
namespace Go.Proofs.Ytfdijffecgdjbaa
/- THE CELL 'sum', in the pinned program and in every row, IS THE sha256 OF THE DUMP (.gsa) THAT YtfdijffecgdjbaaProg.lean LOADS. Nothing in Lean hashes anything: it is a label: what it is worth is what the hold of that sum in a sandbox is worth. -/
noncomputable def Try.pinned : Pinned := { name := "ytfdijffecgdjbaa", sum := "9f7567261d1a819ca402830245676e311a6cbbc75ff9e8d5af6ede428a995f8c", checked := Try.checked }
namespace Rows
def none {H : Type} : Left H := { results := [], args := [] }

/-- 'puncheonlaw03.BitfPlays': WHATEVER THE INPUT: true; the input reads as it did. -/
def bitfPlaysSpec : ChangeSpec := { name := "bitfPlays", fn := fun _ => fun
  | [d1, d2] => { results := [.lit (.bool true)], args := [d1, d2] }
  | _ => none }
def bitfPlaysRow : OpenClaim := { program := "ytfdijffecgdjbaa", sum := "9f7567261d1a819ca402830245676e311a6cbbc75ff9e8d5af6ede428a995f8c", func := "puncheon/puncheonlaw03.BitfPlays", spec := "bitfPlays", apart := false }
def BitfPlaysSaid : Prop := bitfPlaysRow.holds Try.pinned (OpenSpec.ofChange bitfPlaysSpec)

/-- ITS FALSE NEIGHBOUR: 'it returns false'. Refute it at one input. -/
def bitfPlaysWrong : ChangeSpec := { name := "bitfPlays", fn := fun _ => fun
  | [d1, d2] => { results := [.lit (.bool false)], args := [d1, d2] }
  | _ => none }
def BitfPlaysWrongFalsely : Prop := bitfPlaysRow.holds Try.pinned (OpenSpec.ofChange bitfPlaysWrong)

/-- 'puncheonlaw03.BitfSplits': WHATEVER THE INPUT: true; the input reads as it did. -/
def bitfSplitsSpec : ChangeSpec := { name := "bitfSplits", fn := fun _ => fun
  | [d1, d2, d3, d4] => { results := [.lit (.bool true)], args := [d1, d2, d3, d4] }
  | _ => none }
def bitfSplitsRow : OpenClaim := { program := "ytfdijffecgdjbaa", sum := "9f7567261d1a819ca402830245676e311a6cbbc75ff9e8d5af6ede428a995f8c", func := "puncheon/puncheonlaw03.BitfSplits", spec := "bitfSplits", apart := false }
def BitfSplitsSaid : Prop := bitfSplitsRow.holds Try.pinned (OpenSpec.ofChange bitfSplitsSpec)

/-- ITS FALSE NEIGHBOUR: 'it returns false'. Refute it at one input. -/
def bitfSplitsWrong : ChangeSpec := { name := "bitfSplits", fn := fun _ => fun
  | [d1, d2, d3, d4] => { results := [.lit (.bool false)], args := [d1, d2, d3, d4] }
  | _ => none }
def BitfSplitsWrongFalsely : Prop := bitfSplitsRow.holds Try.pinned (OpenSpec.ofChange bitfSplitsWrong)

/-- 'puncheonlaw03.BitfPads': WHATEVER THE INPUT: true; the input reads as it did. -/
def bitfPadsSpec : ChangeSpec := { name := "bitfPads", fn := fun _ => fun
  | [d1, d2] => { results := [.lit (.bool true)], args := [d1, d2] }
  | _ => none }
def bitfPadsRow : OpenClaim := { program := "ytfdijffecgdjbaa", sum := "9f7567261d1a819ca402830245676e311a6cbbc75ff9e8d5af6ede428a995f8c", func := "puncheon/puncheonlaw03.BitfPads", spec := "bitfPads", apart := false }
def BitfPadsSaid : Prop := bitfPadsRow.holds Try.pinned (OpenSpec.ofChange bitfPadsSpec)

/-- ITS FALSE NEIGHBOUR: 'it returns false'. Refute it at one input. -/
def bitfPadsWrong : ChangeSpec := { name := "bitfPads", fn := fun _ => fun
  | [d1, d2] => { results := [.lit (.bool false)], args := [d1, d2] }
  | _ => none }
def BitfPadsWrongFalsely : Prop := bitfPadsRow.holds Try.pinned (OpenSpec.ofChange bitfPadsWrong)

/-- 'puncheonlaw03.BitfBack': WHATEVER THE INPUT: true; the input reads as it did. -/
def bitfBackSpec : ChangeSpec := { name := "bitfBack", fn := fun _ => fun
  | [d1, d2] => { results := [.lit (.bool true)], args := [d1, d2] }
  | _ => none }
def bitfBackRow : OpenClaim := { program := "ytfdijffecgdjbaa", sum := "9f7567261d1a819ca402830245676e311a6cbbc75ff9e8d5af6ede428a995f8c", func := "puncheon/puncheonlaw03.BitfBack", spec := "bitfBack", apart := false }
def BitfBackSaid : Prop := bitfBackRow.holds Try.pinned (OpenSpec.ofChange bitfBackSpec)

/-- ITS FALSE NEIGHBOUR: 'it returns false'. Refute it at one input. -/
def bitfBackWrong : ChangeSpec := { name := "bitfBack", fn := fun _ => fun
  | [d1, d2] => { results := [.lit (.bool false)], args := [d1, d2] }
  | _ => none }
def BitfBackWrongFalsely : Prop := bitfBackRow.holds Try.pinned (OpenSpec.ofChange bitfBackWrong)

/- THE SECOND FORM. 'bulk': how many values and letters a reading holds, each counted each time it is reached (what is shared counts as often as it is met; a slice's spare places count too). A statement '..UptoSaid' is the law's where the arguments, and the package variables that the reading takes, are together of bulk at most 1048576: NARROWER than '..Said'. Prove '..Said' where nothing that the law and all that it calls make is longer than what came in: it says more and counts as full. Else prove '..UptoSaid'. A law counts once. -/
mutual
def uptoBulk {H : Type} : DataW H → Nat
  | .lit (.string bytes) => bytes.length + 1
  | .lit _ => 1
  | .nil => 1
  | .ptr d => uptoBulk d + 1
  | .slice elems spare => uptoBulkAll elems + uptoBulkAll spare + 1
  | .agg parts => uptoBulkAll parts + 1
  | .iface _ d => uptoBulk d + 1
  | .map entries => uptoBulkEntries entries + 1
  | .held _ => 1
def uptoBulkAll {H : Type} : List (DataW H) → Nat
  | [] => 0
  | d :: r => uptoBulk d + uptoBulkAll r
def uptoBulkEntries {H : Type} : List (Lit × DataW H) → Nat
  | [] => 0
  | x :: r => uptoBulkEntry x + uptoBulkEntries r
def uptoBulkEntry {H : Type} : Lit × DataW H → Nat
  | (.string bytes, d) => bytes.length + uptoBulk d + 1
  | (_, d) => uptoBulk d + 1
 end
def uptoSmall : (H : Type) → List (DataW H) → Bool := fun _ ds => decide (uptoBulkAll ds ≤ 1048576)
def OpenSpec.upto (s : _root_.Go.ChangeSpec) : _root_.Go.OpenSpec := { _root_.Go.OpenSpec.ofChange s with cond := some uptoSmall }

/-- 'puncheonlaw03.BitfPlays', WHERE WHAT IT READS IS OF BULK AT MOST 1048576: true; the input reads as it did. -/
def bitfPlaysUptoRow : OpenClaim := { program := "ytfdijffecgdjbaa", sum := "9f7567261d1a819ca402830245676e311a6cbbc75ff9e8d5af6ede428a995f8c", func := "puncheon/puncheonlaw03.BitfPlays", spec := "bitfPlays", apart := false, narrowed := true }
def BitfPlaysUptoSaid : Prop := bitfPlaysUptoRow.holds Try.pinned (OpenSpec.upto bitfPlaysSpec)

/-- 'puncheonlaw03.BitfSplits', WHERE WHAT IT READS IS OF BULK AT MOST 1048576: true; the input reads as it did. -/
def bitfSplitsUptoRow : OpenClaim := { program := "ytfdijffecgdjbaa", sum := "9f7567261d1a819ca402830245676e311a6cbbc75ff9e8d5af6ede428a995f8c", func := "puncheon/puncheonlaw03.BitfSplits", spec := "bitfSplits", apart := false, narrowed := true }
def BitfSplitsUptoSaid : Prop := bitfSplitsUptoRow.holds Try.pinned (OpenSpec.upto bitfSplitsSpec)

/-- 'puncheonlaw03.BitfPads', WHERE WHAT IT READS IS OF BULK AT MOST 1048576: true; the input reads as it did. -/
def bitfPadsUptoRow : OpenClaim := { program := "ytfdijffecgdjbaa", sum := "9f7567261d1a819ca402830245676e311a6cbbc75ff9e8d5af6ede428a995f8c", func := "puncheon/puncheonlaw03.BitfPads", spec := "bitfPads", apart := false, narrowed := true }
def BitfPadsUptoSaid : Prop := bitfPadsUptoRow.holds Try.pinned (OpenSpec.upto bitfPadsSpec)

/-- 'puncheonlaw03.BitfBack', WHERE WHAT IT READS IS OF BULK AT MOST 1048576: true; the input reads as it did. -/
def bitfBackUptoRow : OpenClaim := { program := "ytfdijffecgdjbaa", sum := "9f7567261d1a819ca402830245676e311a6cbbc75ff9e8d5af6ede428a995f8c", func := "puncheon/puncheonlaw03.BitfBack", spec := "bitfBack", apart := false, narrowed := true }
def BitfBackUptoSaid : Prop := bitfBackUptoRow.holds Try.pinned (OpenSpec.upto bitfBackSpec)

end Rows
end Go.Proofs.Ytfdijffecgdjbaa
