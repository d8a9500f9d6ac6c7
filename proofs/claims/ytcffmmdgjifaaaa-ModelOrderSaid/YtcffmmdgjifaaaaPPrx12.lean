/- The machine's side of this seat's laws: what each function computes, and that its call computes it; written by a program (pr.py over the kit's print.py). -/
import Derived.Test.YtcffmmdgjifaaaaPPrx0
import Derived.Test.YtcffmmdgjifaaaaMd
namespace Go.Proofs.Ytcffmmdgjifaaaa.PPr
open Go.RowKit Go.Proofs.YtcffmmdgjifaaaaW.PrintWords Go.Proofs.YtcffmmdgjifaaaaW.PrintLast Go.Proofs.YtcffmmdgjifaaaaW.PrintMore
attribute [local go_sem] max2_int min2_int max_two min_two max_three min_three max_four min_four   -- for this text's walks alone
set_option linter.unusedVariables false
set_option linter.unusedSimpArgs false

-- STUB slices_Clone_int_int
-- STUBIMPORT Mo
def slices_Clone_int_int.f (l0 : List Int) : Option (List Int) := if l0.length ≤ 17592186044416 then some l0 else none
theorem slices_Clone_int_int.calls (A0 : Option Addr) (c0 : Nat) (l0 : List Int) (r : List Int) (w : World) (hr0 : Kd.C (Kd.int .i64) w A0 l0.length l0) (hc0 : l0.length ≤ c0) (h : slices_Clone_int_int.f l0 = some r) :
    Calls Try.prog 28 #[.slice A0 l0.length c0] w fun e w' => ∃ v0_ : Value, e = .returned (v0_) ∧ Kd.R (Kd.int .i64) 3 w' w.heap.size (fun _ => True) v0_ r ∧ Below w.heap.size w w' := by
  unfold slices_Clone_int_int.f at h
  by_cases hb : l0.length ≤ 17592186044416
  · rw [if_pos hb] at h
    cases h
    exact clone_any A0 c0 l0 w hr0 hc0 hb
  · rw [if_neg hb] at h; cases h

end Go.Proofs.Ytcffmmdgjifaaaa.PPr
