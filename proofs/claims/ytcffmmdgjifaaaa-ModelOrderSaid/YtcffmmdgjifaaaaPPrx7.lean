/- The machine's side of this seat's laws: what each function computes, and that its call computes it; written by a program (pr.py over the kit's print.py). -/
import Derived.Test.YtcffmmdgjifaaaaPPrx0
import Derived.Test.YtcffmmdgjifaaaaCw
namespace Go.Proofs.Ytcffmmdgjifaaaa.PPr
open Go.RowKit Go.Proofs.YtcffmmdgjifaaaaW.PrintWords Go.Proofs.YtcffmmdgjifaaaaW.PrintLast Go.Proofs.YtcffmmdgjifaaaaW.PrintMore
attribute [local go_sem] max2_int min2_int max_two min_two max_three min_three max_four min_four   -- for this text's walks alone
set_option linter.unusedVariables false
set_option linter.unusedSimpArgs false

-- STUB ctx_For
-- STUBIMPORT Cw
def ctx_For.f (l0 : List Int) (a1 : Int) : Option (List Int) := if okBytes l0 = true then some (cnt (pickTo l0 a1 l0.length)) else none
theorem ctx_For.calls (A0 : Option Addr) (c0 : Nat) (l0 : List Int) (a1 : Int) (r : List Int) (w : World) (hr0 : Kd.C (Kd.int .u8) w A0 l0.length l0) (hc0 : l0.length ≤ c0) (h : ctx_For.f l0 a1 = some r) :
    Calls Try.prog 22 #[.slice A0 l0.length c0, .int .i64 a1] w fun e w' => ∃ v0_ : Value, e = .returned (v0_) ∧ Kd.R (Kd.int .i64) 3 w' w.heap.size (fun _ => True) v0_ r ∧ Below w.heap.size w w' := by
  unfold ctx_For.f at h
  by_cases hok : okBytes l0 = true
  · rw [if_pos hok] at h
    obtain rfl := Option.some.inj h
    obtain ⟨hm, hb⟩ := (okBytes_iff l0).1 hok
    refine (for_any A0 l0 c0 a1 w (Kd.reads_of_C (d := (0 : Int)) hr0) hc0 hm hb).mono ?_
    rintro e w' ⟨v, rfl, ho, hbel⟩
    exact ⟨v, rfl, Kd.R_of_own (by rw [cnt_len]; exact ho) (fun _ _ => trivial), hbel⟩
  · rw [if_neg hok] at h; cases h

end Go.Proofs.Ytcffmmdgjifaaaa.PPr
