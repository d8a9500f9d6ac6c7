/- The machine's side of this seat's laws: what each function computes, and that its call computes it; written by a program (pr.py over the kit's print.py). -/
import Derived.Test.YtcffmmdgjifaaaaPPrx0
import Derived.Test.YtcffmmdgjifaaaaLw
namespace Go.Proofs.Ytcffmmdgjifaaaa.PPr
open Go.RowKit Go.Proofs.YtcffmmdgjifaaaaW.PrintWords Go.Proofs.YtcffmmdgjifaaaaW.PrintLast Go.Proofs.YtcffmmdgjifaaaaW.PrintMore
attribute [local go_sem] max2_int min2_int max_two min_two max_three min_three max_four min_four   -- for this text's walks alone
set_option linter.unusedVariables false
set_option linter.unusedSimpArgs false

-- STUB logs_Pick
-- STUBIMPORT Lgc
def logs_Pick.f (a0 : Int) (a1 : Int) (a2 : Int) : Option (Int) := if (-9223372036854775808 ≤ a0 ∧ a0 ≤ 9223372036854775807) ∧ (-9223372036854775808 ≤ a1 ∧ a1 ≤ 9223372036854775807) then some (pic a0 a1 a2) else none
theorem logs_Pick.calls (a0 : Int) (a1 : Int) (a2 : Int) (r : Int) (w : World) (h : logs_Pick.f a0 a1 a2 = some r) :
    Calls Try.prog 32 #[.int .i64 a0, .int .i64 a1, .int .i64 a2] w fun e w' => e = .returned (.int .i64 r) ∧ Below w.heap.size w w' := by
  unfold logs_Pick.f at h
  by_cases hb : (-9223372036854775808 ≤ a0 ∧ a0 ≤ 9223372036854775807) ∧ (-9223372036854775808 ≤ a1 ∧ a1 ≤ 9223372036854775807)
  · rw [if_pos hb] at h
    cases h
    exact (pick_any a0 a1 a2 w hb.1.1 hb.1.2 hb.2.1 hb.2.2)
  · rw [if_neg hb] at h; cases h

end Go.Proofs.Ytcffmmdgjifaaaa.PPr
