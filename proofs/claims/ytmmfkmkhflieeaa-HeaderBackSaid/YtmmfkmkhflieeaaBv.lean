/- Contracts of budget's reference. -/
import Derived.Test.YtmmfkmkhflieeaaBu
import Derived.Test.YtmmfkmkhflieeaaLgc
namespace Go.Proofs.Ytmmfkmkhflieeaa
open Go.RowKit Go.Proofs.YtmmfkmkhflieeaaW.PrintWords Go.Proofs.YtmmfkmkhflieeaaW.PrintLast Go.Proofs.YtmmfkmkhflieeaaW.PrintMore PPr
attribute [local go_sem] max2_int min2_int max_two min_two max_three min_three max_four min_four
set_option linter.unusedSimpArgs false
set_option linter.unusedVariables false
set_option maxHeartbeats 800000 in
theorem qbutake_any {A : Option Addr} {c : Nat} (g : Nat) (l : List Int) (t : Nat) (left : Int) (w : World) (h : IsQ A c w g (bitsOf l) t) (ht : t ≤ 8 * l.length) (hl0 : -9223372036854775808 ≤ left) (hl1 : left ≤ 9223372036854775807) :
    Calls Try.prog 39 #[.pointer (some ⟨g, 0, none⟩), .int .i64 left] w fun e w' => e = .returned (.tuple #[.int .i64 (butk (8 * l.length) t (numAt l t (widN left)) left).1, .int .i64 (butk (8 * l.length) t (numAt l t (widN left)) left).2.1]) ∧ IsQ A c w' g (bitsOf l) (butk (8 * l.length) t (numAt l t (widN left)) left).2.2 ∧ w.grownBy w' (some g) := by
  have HI := Lib.hid h
  have hbl := bitsOf_len l
  clear h
  by_cases h1 : 1 ≤ left ∧ left ≤ 4096
  · obtain ⟨b1, b2, b3, _, _⟩ := widN_bd h1.1 h1.2
    have HWD := Lib.hid (fun w => (rwidth_any left w (by omega) (by omega)))
    rw [b1] at HWD
    by_cases h2 : t + widN left ≤ 8 * l.length
    · have HTK := Lib.hid (qtake_ok (A := A) (c := c) g (bitsOf l) t (widN left))
      have hnb := numAt_bd l t (widN left)
      have hpw := pw_mono b3
      rw [show pw 13 = 8192 from by decide] at hpw
      have enum : numOf (((bitsOf l).drop t).take (widN left)) = numAt l t (widN left) := rfl
      rw [enum] at HTK
      have H2 := Lib.hid (show t + widN left ≤ (bitsOf l).length by rw [hbl]; exact h2)
      by_cases h3 : numAt l t (widN left) ≤ left
      · have e : butk (8 * l.length) t (numAt l t (widN left)) left = (numAt l t (widN left), 0, t + widN left) := by unfold butk; rw [if_pos h1, if_pos h2, if_pos h3]
        rw [e]
        clear e h2 b1 enum hbl
        generalize widN left = n at *
        generalize numAt l t n = x at *
        have hx : IntKind.i64.wrap x = x := IntWalk.i64_in _ (by omega)
        go_enter Try.func39, Try.ntmps39
        go_wp2_with (first
          | (go_at_call 53; (with_reducible refine (HWD.out _).mono ?_); rintro e w1 ⟨rfl, rfl⟩)
          | (go_at_call 58; (with_reducible refine (HTK.out _ HI.out H2.out (by omega)).mono ?_); rintro e w1 ⟨rfl, hI, hG⟩; have HI2 := Lib.hid hI; have HG := Lib.hid hG; clear hI hG))
        go_ret2
        exact ⟨rfl, HI2.out, HG.out⟩
      · have e : butk (8 * l.length) t (numAt l t (widN left)) left = (0, 13, t + widN left) := by unfold butk; rw [if_pos h1, if_pos h2, if_neg h3]
        rw [e]
        clear e h2 b1 enum hbl
        generalize widN left = n at *
        generalize numAt l t n = x at *
        have hx : IntKind.i64.wrap x = x := IntWalk.i64_in _ (by omega)
        go_enter Try.func39, Try.ntmps39
        go_wp2_with (first
          | (go_at_call 53; (with_reducible refine (HWD.out _).mono ?_); rintro e w1 ⟨rfl, rfl⟩)
          | (go_at_call 58; (with_reducible refine (HTK.out _ HI.out H2.out (by omega)).mono ?_); rintro e w1 ⟨rfl, hI, hG⟩; have HI2 := Lib.hid hI; have HG := Lib.hid hG; clear hI hG))
        go_ret2
        exact ⟨rfl, HI2.out, HG.out⟩
    · have e : butk (8 * l.length) t (numAt l t (widN left)) left = (0, 3, t) := by unfold butk; rw [if_pos h1, if_neg h2]
      rw [e]
      have HTK := Lib.hid (qtake_no (A := A) (c := c) g (bitsOf l) t (widN left : Int))
      have H2 := Lib.hid (show (widN left : Int) < 0 ∨ (0 ≤ (widN left : Int) ∧ (24 < (widN left : Int) ∨ ((widN left : Int) ≤ 24 ∧ ((bitsOf l).length : Int) - t < (widN left : Int)))) by rw [hbl]; omega)
      have HT := Lib.hid (show t ≤ (bitsOf l).length by rw [hbl]; exact ht)
      clear e h2 b1 hbl
      generalize widN left = n at *
      go_enter Try.func39, Try.ntmps39
      go_wp2_with (first
        | (go_at_call 53; (with_reducible refine (HWD.out _).mono ?_); rintro e w1 ⟨rfl, rfl⟩)
        | (go_at_call 58; (with_reducible refine (HTK.out _ HI.out HT.out H2.out).mono ?_); rintro e w1 ⟨rfl, hI, hG⟩; have HI2 := Lib.hid hI; have HG := Lib.hid hG; clear hI hG))
      go_ret2
      exact ⟨rfl, HI2.out, HG.out⟩
  · have e : butk (8 * l.length) t (numAt l t (widN left)) left = (0, 1, t) := by unfold butk; rw [if_neg h1]
    rw [e]
    clear e
    by_cases c1 : left < 1
    all_goals
      go_enter Try.func39, Try.ntmps39
      go_wp2
      go_ret2
      exact ⟨rfl, HI.out, World.grownBy.refl w _⟩
theorem qrO_butake (g : Nat) (l : List Int) (t : Nat) (left : Int) (w : World) (F : Nat → Prop) (h : (qrO g (bitsOf l) t).P w F) (ht : t ≤ 8 * l.length) (hl0 : -9223372036854775808 ≤ left) (hl1 : left ≤ 9223372036854775807) :
    Calls Try.prog 39 #[.pointer (some ⟨g, 0, none⟩), .int .i64 left] w fun e w' => e = .returned (.tuple #[.int .i64 (butk (8 * l.length) t (numAt l t (widN left)) left).1, .int .i64 (butk (8 * l.length) t (numAt l t (widN left)) left).2.1]) ∧ Turn (qrO g (bitsOf l) t) (qrO g (bitsOf l) (butk (8 * l.length) t (numAt l t (widN left)) left).2.2) F w w' := by
  obtain ⟨A, c, hI, rfl⟩ := h
  exact (qbutake_any g l t left w hI ht hl0 hl1).mono fun e w' ⟨h1, h2, h3⟩ => ⟨h1, qrO_turn h2 h3⟩
end Go.Proofs.Ytmmfkmkhflieeaa
