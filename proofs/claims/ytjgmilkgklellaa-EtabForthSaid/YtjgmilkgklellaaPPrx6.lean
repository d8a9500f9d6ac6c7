/- The machine's side of this seat's laws: what each function computes, and that its call computes it; written by a program (pr.py over the kit's print.py). -/
import Derived.Test.YtjgmilkgklellaaPPrx0
import Derived.Test.YtjgmilkgklellaaOr
namespace Go.Proofs.Ytjgmilkgklellaa.PPr
open Go.RowKit Go.Proofs.YtjgmilkgklellaaW.PrintWords Go.Proofs.YtjgmilkgklellaaW.PrintLast Go.Proofs.YtjgmilkgklellaaW.PrintMore
attribute [local go_sem] max2_int min2_int max_two min_two max_three min_three max_four min_four   -- for this text's walks alone
set_option linter.unusedVariables false
set_option linter.unusedSimpArgs false

-- STUB spread_order
-- STUBIMPORT Or
def spread_order.f (l0 : List Int) : Option (List S68) := orderF l0
theorem spread_order.calls (A0 : Option Addr) (c0 : Nat) (l0 : List Int) (r : List S68) (w : World) (hr0 : Kd.C (Kd.int .i64) w A0 l0.length l0) (hc0 : l0.length ≤ c0) (h : spread_order.f l0 = some r) :
    Calls Try.prog 31 #[.slice A0 l0.length c0] w fun e w' => ∃ v0_ : Value, e = .returned (v0_) ∧ Kd.R k68 68 w' w.heap.size (fun _ => True) v0_ r ∧ Below w.heap.size w w' :=
  order_calls A0 c0 l0 r w hr0 h

end Go.Proofs.Ytjgmilkgklellaa.PPr
