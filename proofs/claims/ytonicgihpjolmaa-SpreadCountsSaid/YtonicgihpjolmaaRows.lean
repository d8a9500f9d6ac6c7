/-
  No cell of these rows narrows 'for every input' (looked for: loops, veiled, ifaces, maps, wideKeys, modest, calm, conditions, laid).
  DERIVED. THE GIVEN ROWS OF THIS SEAT. 5 by the template 'for every input the law returns true; each argument reads behind the call as it read before'; 0 by the template 'total and deterministic' (their statements: YtonicgihpjolmaaTotals.lean).
  GIVEN WITH THE SEED: the statements are not yours to turn. If you find one false, say at which input.
  Laid BY PROGRAM, IN A SANDBOX (cutbox-rows.mjs): the forced cells as the released guide's own fill.sh prints them over the translation d1b0ef5a852e8bc5… (all of the seat's roots in one cut). By AI agents, Wed Nov 11 2026. No macro, syntax, notation, axiom, sorry.
-/
import Derived.Test.YtonicgihpjolmaaChecked
import GoSem.Claim
import GoSem.ClaimJoined
import GoSem.ClaimMapViews
import Derived.JoinedTies
import Derived.KernelRfl
namespace Go.Proofs.Ytonicgihpjolmaa
/- THE CELL 'sum', in the pinned program and in every row, IS THE sha256 OF THE DUMP (.gsa) THAT YtonicgihpjolmaaProg.lean LOADS. Nothing in Lean hashes anything: it is a label: what it is worth is what the hold of that sum in a sandbox is worth. -/
noncomputable def Try.pinned : Pinned := { name := "ytonicgihpjolmaa", sum := "d1b0ef5a852e8bc5e34f1bf4cb882ee26b005f32af4c390b5cbe7a2c8ebcccf7", checked := Try.checked }
namespace Rows
def none {H : Type} : Left H := { results := [], args := [] }

/-- 'puncheonlaw10.SpreadTells': WHATEVER THE INPUT: true; the input reads as it did. -/
def spreadTellsSpec : ChangeSpec := { name := "spreadTells", fn := fun _ => fun
  | [d] => { results := [.lit (.bool true)], args := [d] }
  | _ => none }
def spreadTellsRow : OpenClaim := { program := "ytonicgihpjolmaa", sum := "d1b0ef5a852e8bc5e34f1bf4cb882ee26b005f32af4c390b5cbe7a2c8ebcccf7", func := "puncheon/puncheonlaw10.SpreadTells", spec := "spreadTells", unfollowed := true, recurses := true, apart := false }
def SpreadTellsSaid : Prop := spreadTellsRow.holds Try.pinned (OpenSpec.ofChange spreadTellsSpec)

/-- ITS FALSE NEIGHBOUR: 'it returns false'. Refute it at one input. -/
def spreadTellsWrong : ChangeSpec := { name := "spreadTells", fn := fun _ => fun
  | [d] => { results := [.lit (.bool false)], args := [d] }
  | _ => none }
def SpreadTellsWrongFalsely : Prop := spreadTellsRow.holds Try.pinned (OpenSpec.ofChange spreadTellsWrong)

/-- 'puncheonlaw10.SpreadPlaces': WHATEVER THE INPUT: true; the input reads as it did. -/
def spreadPlacesSpec : ChangeSpec := { name := "spreadPlaces", fn := fun _ => fun
  | [d1, d2, d3, d4] => { results := [.lit (.bool true)], args := [d1, d2, d3, d4] }
  | _ => none }
def spreadPlacesRow : OpenClaim := { program := "ytonicgihpjolmaa", sum := "d1b0ef5a852e8bc5e34f1bf4cb882ee26b005f32af4c390b5cbe7a2c8ebcccf7", func := "puncheon/puncheonlaw10.SpreadPlaces", spec := "spreadPlaces", unfollowed := true, recurses := true, apart := false }
def SpreadPlacesSaid : Prop := spreadPlacesRow.holds Try.pinned (OpenSpec.ofChange spreadPlacesSpec)

/-- ITS FALSE NEIGHBOUR: 'it returns false'. Refute it at one input. -/
def spreadPlacesWrong : ChangeSpec := { name := "spreadPlaces", fn := fun _ => fun
  | [d1, d2, d3, d4] => { results := [.lit (.bool false)], args := [d1, d2, d3, d4] }
  | _ => none }
def SpreadPlacesWrongFalsely : Prop := spreadPlacesRow.holds Try.pinned (OpenSpec.ofChange spreadPlacesWrong)

/-- 'puncheonlaw10.SpreadCounts': WHATEVER THE INPUT: true; the input reads as it did. -/
def spreadCountsSpec : ChangeSpec := { name := "spreadCounts", fn := fun _ => fun
  | [d1, d2, d3] => { results := [.lit (.bool true)], args := [d1, d2, d3] }
  | _ => none }
def spreadCountsRow : OpenClaim := { program := "ytonicgihpjolmaa", sum := "d1b0ef5a852e8bc5e34f1bf4cb882ee26b005f32af4c390b5cbe7a2c8ebcccf7", func := "puncheon/puncheonlaw10.SpreadCounts", spec := "spreadCounts", unfollowed := true, recurses := true, apart := false }
def SpreadCountsSaid : Prop := spreadCountsRow.holds Try.pinned (OpenSpec.ofChange spreadCountsSpec)

/-- ITS FALSE NEIGHBOUR: 'it returns false'. Refute it at one input. -/
def spreadCountsWrong : ChangeSpec := { name := "spreadCounts", fn := fun _ => fun
  | [d1, d2, d3] => { results := [.lit (.bool false)], args := [d1, d2, d3] }
  | _ => none }
def SpreadCountsWrongFalsely : Prop := spreadCountsRow.holds Try.pinned (OpenSpec.ofChange spreadCountsWrong)

/-- 'puncheonlaw10.SpreadNear': WHATEVER THE INPUT: true; the input reads as it did. -/
def spreadNearSpec : ChangeSpec := { name := "spreadNear", fn := fun _ => fun
  | [d1, d2, d3, d4] => { results := [.lit (.bool true)], args := [d1, d2, d3, d4] }
  | _ => none }
def spreadNearRow : OpenClaim := { program := "ytonicgihpjolmaa", sum := "d1b0ef5a852e8bc5e34f1bf4cb882ee26b005f32af4c390b5cbe7a2c8ebcccf7", func := "puncheon/puncheonlaw10.SpreadNear", spec := "spreadNear", unfollowed := true, recurses := true, apart := false }
def SpreadNearSaid : Prop := spreadNearRow.holds Try.pinned (OpenSpec.ofChange spreadNearSpec)

/-- ITS FALSE NEIGHBOUR: 'it returns false'. Refute it at one input. -/
def spreadNearWrong : ChangeSpec := { name := "spreadNear", fn := fun _ => fun
  | [d1, d2, d3, d4] => { results := [.lit (.bool false)], args := [d1, d2, d3, d4] }
  | _ => none }
def SpreadNearWrongFalsely : Prop := spreadNearRow.holds Try.pinned (OpenSpec.ofChange spreadNearWrong)

/-- 'puncheonlaw10.SpreadFirst': WHATEVER THE INPUT: true; the input reads as it did. -/
def spreadFirstSpec : ChangeSpec := { name := "spreadFirst", fn := fun _ => fun
  | [d1, d2] => { results := [.lit (.bool true)], args := [d1, d2] }
  | _ => none }
def spreadFirstRow : OpenClaim := { program := "ytonicgihpjolmaa", sum := "d1b0ef5a852e8bc5e34f1bf4cb882ee26b005f32af4c390b5cbe7a2c8ebcccf7", func := "puncheon/puncheonlaw10.SpreadFirst", spec := "spreadFirst", unfollowed := true, recurses := true, apart := false }
def SpreadFirstSaid : Prop := spreadFirstRow.holds Try.pinned (OpenSpec.ofChange spreadFirstSpec)

/-- ITS FALSE NEIGHBOUR: 'it returns false'. Refute it at one input. -/
def spreadFirstWrong : ChangeSpec := { name := "spreadFirst", fn := fun _ => fun
  | [d1, d2] => { results := [.lit (.bool false)], args := [d1, d2] }
  | _ => none }
def SpreadFirstWrongFalsely : Prop := spreadFirstRow.holds Try.pinned (OpenSpec.ofChange spreadFirstWrong)

/- THE SECOND FORM. 'bulk': how many values and letters a reading holds, each counted each time it is reached (what is shared counts as often as it is met; a slice's spare places count too). A statement '..UptoSaid' is the law's where the arguments, and the package variables that the reading takes, are together of bulk at most 1048576: NARROWER than '..Said'. Prove '..Said' where nothing that the law and all that it calls make is longer than what came in: it says more and counts as full. Else prove '..UptoSaid'. A law counts once. -/
mutual
def uptoBulk {H : Type} : DataW H → Nat
  | .lit (.string bytes) => bytes.length + 1
  | .lit _ => 1
  | .nil => 1
  | .ptr d => uptoBulk d + 1
  | .slice elems spare => uptoBulkAll elems + uptoBulkAll spare + 1
  | .agg parts => uptoBulkAll parts + 1
  | .iface _ d => uptoBulk d + 1
  | .map entries => uptoBulkEntries entries + 1
  | .held _ => 1
def uptoBulkAll {H : Type} : List (DataW H) → Nat
  | [] => 0
  | d :: r => uptoBulk d + uptoBulkAll r
def uptoBulkEntries {H : Type} : List (Lit × DataW H) → Nat
  | [] => 0
  | x :: r => uptoBulkEntry x + uptoBulkEntries r
def uptoBulkEntry {H : Type} : Lit × DataW H → Nat
  | (.string bytes, d) => bytes.length + uptoBulk d + 1
  | (_, d) => uptoBulk d + 1
 end
def uptoSmall : (H : Type) → List (DataW H) → Bool := fun _ ds => decide (uptoBulkAll ds ≤ 1048576)
def OpenSpec.upto (s : _root_.Go.ChangeSpec) : _root_.Go.OpenSpec := { _root_.Go.OpenSpec.ofChange s with cond := some uptoSmall }

/-- 'puncheonlaw10.SpreadTells', WHERE WHAT IT READS IS OF BULK AT MOST 1048576: true; the input reads as it did. -/
def spreadTellsUptoRow : OpenClaim := { program := "ytonicgihpjolmaa", sum := "d1b0ef5a852e8bc5e34f1bf4cb882ee26b005f32af4c390b5cbe7a2c8ebcccf7", func := "puncheon/puncheonlaw10.SpreadTells", spec := "spreadTells", unfollowed := true, recurses := true, apart := false, narrowed := true }
def SpreadTellsUptoSaid : Prop := spreadTellsUptoRow.holds Try.pinned (OpenSpec.upto spreadTellsSpec)

/-- 'puncheonlaw10.SpreadPlaces', WHERE WHAT IT READS IS OF BULK AT MOST 1048576: true; the input reads as it did. -/
def spreadPlacesUptoRow : OpenClaim := { program := "ytonicgihpjolmaa", sum := "d1b0ef5a852e8bc5e34f1bf4cb882ee26b005f32af4c390b5cbe7a2c8ebcccf7", func := "puncheon/puncheonlaw10.SpreadPlaces", spec := "spreadPlaces", unfollowed := true, recurses := true, apart := false, narrowed := true }
def SpreadPlacesUptoSaid : Prop := spreadPlacesUptoRow.holds Try.pinned (OpenSpec.upto spreadPlacesSpec)

/-- 'puncheonlaw10.SpreadCounts', WHERE WHAT IT READS IS OF BULK AT MOST 1048576: true; the input reads as it did. -/
def spreadCountsUptoRow : OpenClaim := { program := "ytonicgihpjolmaa", sum := "d1b0ef5a852e8bc5e34f1bf4cb882ee26b005f32af4c390b5cbe7a2c8ebcccf7", func := "puncheon/puncheonlaw10.SpreadCounts", spec := "spreadCounts", unfollowed := true, recurses := true, apart := false, narrowed := true }
def SpreadCountsUptoSaid : Prop := spreadCountsUptoRow.holds Try.pinned (OpenSpec.upto spreadCountsSpec)

/-- 'puncheonlaw10.SpreadNear', WHERE WHAT IT READS IS OF BULK AT MOST 1048576: true; the input reads as it did. -/
def spreadNearUptoRow : OpenClaim := { program := "ytonicgihpjolmaa", sum := "d1b0ef5a852e8bc5e34f1bf4cb882ee26b005f32af4c390b5cbe7a2c8ebcccf7", func := "puncheon/puncheonlaw10.SpreadNear", spec := "spreadNear", unfollowed := true, recurses := true, apart := false, narrowed := true }
def SpreadNearUptoSaid : Prop := spreadNearUptoRow.holds Try.pinned (OpenSpec.upto spreadNearSpec)

/-- 'puncheonlaw10.SpreadFirst', WHERE WHAT IT READS IS OF BULK AT MOST 1048576: true; the input reads as it did. -/
def spreadFirstUptoRow : OpenClaim := { program := "ytonicgihpjolmaa", sum := "d1b0ef5a852e8bc5e34f1bf4cb882ee26b005f32af4c390b5cbe7a2c8ebcccf7", func := "puncheon/puncheonlaw10.SpreadFirst", spec := "spreadFirst", unfollowed := true, recurses := true, apart := false, narrowed := true }
def SpreadFirstUptoSaid : Prop := spreadFirstUptoRow.holds Try.pinned (OpenSpec.upto spreadFirstSpec)

end Rows
end Go.Proofs.Ytonicgihpjolmaa
