/- The machine's side of this seat's laws: what each function computes, and that its call computes it; written by a program (pr.py over the kit's print.py). -/
import Derived.Test.YtcffmmdgjifaaaaPPrx0
import Derived.Test.YtcffmmdgjifaaaaMd
namespace Go.Proofs.Ytcffmmdgjifaaaa.PPr
open Go.RowKit Go.Proofs.YtcffmmdgjifaaaaW.PrintWords Go.Proofs.YtcffmmdgjifaaaaW.PrintLast Go.Proofs.YtcffmmdgjifaaaaW.PrintMore
attribute [local go_sem] max2_int min2_int max_two min_two max_three min_three max_four min_four   -- for this text's walks alone
set_option linter.unusedVariables false
set_option linter.unusedSimpArgs false

-- STUB model_Right
-- STUBIMPORT Mo
def model_Right.f (k : Nat) (a0_0 : Int) (a0_1 : Bool) (l0_2 : List (List Int)) : Option (Bool) := rightF k a0_0 a0_1 l0_2
theorem model_Right.mono : ∀ a0 a1 a2 k, LeO (model_Right.f k a0 a1 a2) (model_Right.f (k + 1) a0 a1 a2) := fun a0 a1 a2 k => rightF_mono a0 a1 a2 k
theorem model_Right.calls (k : Nat) (a0_0 : Int) (a0_1 : Bool) (A0_2 : Option Addr) (c0_2 : Nat) (l0_2 : List (List Int)) (r : Bool) (w : World) (hr0_2 : Kd.C (Kd.slice 3 (Kd.int .i64)) w A0_2 l0_2.length l0_2) (hc0_2 : l0_2.length ≤ c0_2) (h : model_Right.f k a0_0 a0_1 l0_2 = some r) :
    Calls Try.prog 10 #[.agg #[.int .i64 a0_0, .bool a0_1, .slice A0_2 l0_2.length c0_2]] w fun e w' => e = .returned (.bool r) ∧ Below w.heap.size w w' := right_any k a0_0 a0_1 A0_2 c0_2 l0_2 r w hr0_2 hc0_2 h

end Go.Proofs.Ytcffmmdgjifaaaa.PPr
