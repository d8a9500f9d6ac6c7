/- The machine's side of this seat's laws: what each function computes, and that its call computes it; written by a program (pr.py over the kit's print.py). -/
import Derived.Test.YtcffmmdgjifaaaaPPrx0
import Derived.Test.YtcffmmdgjifaaaaTk
namespace Go.Proofs.Ytcffmmdgjifaaaa.PPr
open Go.RowKit Go.Proofs.YtcffmmdgjifaaaaW.PrintWords Go.Proofs.YtcffmmdgjifaaaaW.PrintLast Go.Proofs.YtcffmmdgjifaaaaW.PrintMore
attribute [local go_sem] max2_int min2_int max_two min_two max_three min_three max_four min_four   -- for this text's walks alone
set_option linter.unusedVariables false
set_option linter.unusedSimpArgs false

-- STUB norm_give
-- STUBIMPORT Tk
def norm_give.f (l0 : List Int) (l1 : List S71) (a2 : Int) : Option (List Int) := giveF l0 l1 a2
theorem norm_give.calls (P0_ : Nat → Prop) (u9000_ : Value) (l0 : List Int) (P1_ : Nat → Prop) (u9001_ : Value) (l1 : List S71) (a2 : Int) (r : List Int) (w0 w : World) (hB : Below w0.heap.size w0 w) (ho0 : Kd.R (Kd.int .i64) 3 w w0.heap.size P0_ u9000_ l0) (ho1 : Kd.R k71 71 w w0.heap.size P1_ u9001_ l1) (h : norm_give.f l0 l1 a2 = some r) :
    Calls Try.prog 63 #[u9000_, u9001_, .int .i64 a2] w fun e w' => e = .returned (.tuple #[]) ∧ Kd.R (Kd.int .i64) 3 w' w0.heap.size (fun k_ => ((P0_ k_ ∨ P1_ k_) ∨ w.heap.size ≤ k_)) u9000_ r ∧ Below w0.heap.size w0 w' ∧ Kept w w' (fun k_ => P0_ k_ ∨ P1_ k_) :=
  give_any P0_ u9000_ l0 P1_ u9001_ l1 a2 r w0 w hB ho0 ho1 h

end Go.Proofs.Ytcffmmdgjifaaaa.PPr
