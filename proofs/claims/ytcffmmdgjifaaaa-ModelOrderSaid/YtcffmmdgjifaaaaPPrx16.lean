/- The machine's side of this seat's laws: what each function computes, and that its call computes it; written by a program (pr.py over the kit's print.py). -/
import Derived.Test.YtcffmmdgjifaaaaPPrx0
import Derived.Test.YtcffmmdgjifaaaaMd
namespace Go.Proofs.Ytcffmmdgjifaaaa.PPr
open Go.RowKit Go.Proofs.YtcffmmdgjifaaaaW.PrintWords Go.Proofs.YtcffmmdgjifaaaaW.PrintLast Go.Proofs.YtcffmmdgjifaaaaW.PrintMore
attribute [local go_sem] max2_int min2_int max_two min_two max_three min_three max_four min_four   -- for this text's walks alone
set_option linter.unusedVariables false
set_option linter.unusedSimpArgs false

-- STUB model_First
-- STUBIMPORT Md
def model_First.f (k : Nat) (l0 : List Int) : Option (Int × Bool × (List (List Int)) × Int) := firstF k l0
theorem model_First.mono : ∀ a0 k, LeO (model_First.f k a0) (model_First.f (k + 1) a0) := fun a0 k => firstF_mono a0 k
theorem model_First.calls (k : Nat) (A0 : Option Addr) (c0 : Nat) (l0 : List Int) (r1 : Int) (r2 : Bool) (r3 : List (List Int)) (r4 : Int) (w : World) (hr0 : Kd.C (Kd.int .u8) w A0 l0.length l0) (hc0 : l0.length ≤ c0) (h : model_First.f k l0 = some (r1, r2, r3, r4)) :
    Calls Try.prog 18 #[.slice A0 l0.length c0] w fun e w' => ∃ v2_ : Value, e = .returned (.tuple #[.agg #[.int .i64 r1, .bool r2, v2_], .int .i64 r4]) ∧ Kd.N (Kd.slice 3 (Kd.int .i64)) 29 w' w.heap.size (fun k_ => (w.heap.size ≤ k_)) v2_ r3 ∧ Below w.heap.size w w' :=
  (first_any k A0 c0 l0 r1 r2 r3 r4 w hr0 hc0 h).mono fun e w' ⟨v, h1, h2, h3⟩ => ⟨v, h1, Kd.R_N h2, h3⟩

end Go.Proofs.Ytcffmmdgjifaaaa.PPr
