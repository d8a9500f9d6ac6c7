/- The machine's side of this seat's laws: what each function computes, and that its call computes it; written by a program (pr.py over the kit's print.py). -/
import Derived.Test.YtbcpngaebijddaaProg
import Derived.Below
import Derived.Deep.Draws
import Derived.Deep.AppendLies
import Derived.Maps.AppendAt
import Derived.OwnWalk
import Derived.Laws.BytesArg
import Derived.Laws.MakeOwn
import Derived.Laws.OwnMore
import Derived.Deep.OwnRows
import Derived.Tactics
import Derived.Lib.ConvBytes
import Derived.Laws.Slices
import Derived.WalkKit
import Derived.KernelRfl
import Derived.RowKit3
import Derived.Deep.LoopGhost
import Derived.Deep.QuietTactic
import Derived.BigQuiet
import Derived.WideLaws
import Derived.Deep.DeepCutAuto
import Derived.Deep.CutBlock
import Derived.Deep.RegionHeld3
import Derived.Laws.Rows
import Derived.Lib.AppendStr
import Derived.ArgAppend
import Derived.Laws.IdiomCopy
import Derived.OrdersHeld
import Derived.Laws.BitsLemmas
import Derived.RowKit
import Derived.Test.YtbcpngaebijddaaWWords
import Derived.Test.YtbcpngaebijddaaWLast
import Derived.Test.YtbcpngaebijddaaWTab
import Derived.Test.YtbcpngaebijddaaWFour
import Derived.Test.YtbcpngaebijddaaWQPut
import Derived.Test.YtbcpngaebijddaaWApart
import Derived.Test.YtbcpngaebijddaaWArr
import Derived.Test.YtbcpngaebijddaaWZeros
import Derived.Test.YtbcpngaebijddaaWFoot
import Derived.Test.YtbcpngaebijddaaWKept
import Derived.Test.YtbcpngaebijddaaWShare
import Derived.Test.YtbcpngaebijddaaWN
import Derived.Test.YtbcpngaebijddaaWFootNe
import Derived.Test.YtbcpngaebijddaaWAt
import Derived.Test.YtbcpngaebijddaaWEqStruct
import Derived.Test.YtbcpngaebijddaaWRepsOne
import Derived.Test.YtbcpngaebijddaaWInv
import Derived.Test.YtbcpngaebijddaaWInvWords
import Derived.Test.YtbcpngaebijddaaWGuard
import Derived.Test.YtbcpngaebijddaaWNEv
import Derived.Test.YtbcpngaebijddaaWMore
namespace Go.Proofs.Ytbcpngaebijddaa.PPr
open Go.RowKit Go.Proofs.YtbcpngaebijddaaW.PrintWords Go.Proofs.YtbcpngaebijddaaW.PrintLast Go.Proofs.YtbcpngaebijddaaW.PrintMore
attribute [local go_sem] max2_int min2_int max_two min_two max_three min_three max_four min_four   -- for this text's walks alone
set_option linter.unusedVariables false
set_option linter.unusedSimpArgs false



def errW : Option Int → Value
  | none => .nilIface
  | some c => .iface 0 (.int .i64 c)
theorem errW_none : errW none = .nilIface := rfl
theorem errW_some (c : Int) : errW (some c) = .iface 0 (.int .i64 c) := rfl

theorem info4 : (Try.prog.info? 4).map (fun i => (i.zero, i.size, i.bytes)) = some (some (.bool false), 1, 1) := by kernel_rfl
theorem info5 : (Try.prog.info? 5).map (fun i => (i.zero, i.size, i.bytes)) = some (some (.int .u8 0), 1, 1) := by kernel_rfl
-- the values' own types

end Go.Proofs.Ytbcpngaebijddaa.PPr
