/- The machine's side of this seat's laws: what each function computes, and that its call computes it; written by a program (pr.py over the kit's print.py). -/
import Derived.Test.YtmmfkmkhflieeaaPPrx0
import Derived.Test.YtmmfkmkhflieeaaLw
namespace Go.Proofs.Ytmmfkmkhflieeaa.PPr
open Go.RowKit Go.Proofs.YtmmfkmkhflieeaaW.PrintWords Go.Proofs.YtmmfkmkhflieeaaW.PrintLast Go.Proofs.YtmmfkmkhflieeaaW.PrintMore
attribute [local go_sem] max2_int min2_int max_two min_two max_three min_three max_four min_four   -- for this text's walks alone
set_option linter.unusedVariables false
set_option linter.unusedSimpArgs false

-- STUB logs_Width
-- STUBIMPORT Lw
def logs_Width.f (a0 : Int) : Option (Int) := if -9223372036854775808 ≤ a0 ∧ a0 ≤ 9223372036854775807 then some (wid a0) else none
theorem logs_Width.calls (a0 : Int) (r : Int) (w : World) (h : logs_Width.f a0 = some r) :
    Calls Try.prog 65 #[.int .i64 a0] w fun e w' => e = .returned (.int .i64 r) ∧ Below w.heap.size w w' := by
  unfold logs_Width.f at h
  by_cases hb : -9223372036854775808 ≤ a0 ∧ a0 ≤ 9223372036854775807
  · rw [if_pos hb] at h
    cases h
    refine (width_any a0 w hb.1 hb.2).mono ?_
    rintro e w' ⟨rfl, rfl⟩
    exact ⟨rfl, Below.refl _ _⟩
  · rw [if_neg hb] at h; cases h

end Go.Proofs.Ytmmfkmkhflieeaa.PPr
