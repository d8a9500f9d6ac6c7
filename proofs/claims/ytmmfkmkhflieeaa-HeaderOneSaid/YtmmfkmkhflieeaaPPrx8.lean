/- The machine's side of this seat's laws: what each function computes, and that its call computes it; written by a program (pr.py over the kit's print.py). -/
import Derived.Test.YtmmfkmkhflieeaaPPrx0
namespace Go.Proofs.Ytmmfkmkhflieeaa.PPr
open Go.RowKit Go.Proofs.YtmmfkmkhflieeaaW.PrintWords Go.Proofs.YtmmfkmkhflieeaaW.PrintLast Go.Proofs.YtmmfkmkhflieeaaW.PrintMore
attribute [local go_sem] max2_int min2_int max_two min_two max_three min_three max_four min_four   -- for this text's walks alone
set_option linter.unusedVariables false
set_option linter.unusedSimpArgs false

/-! ### puncheonref08_richest: function 62 -/
def puncheonref08_richest.l0 : Nat → List Int → List Int → Int → Int → Option (Int)
  | 0, _, _, _, _ => none
  | k + 1, x0, x1, x5, x6 => if x6 < 256 then (if 0 ≤ x6 then (if x6 < (x0.length : Int) then (if 0 ≤ x5 then (if x5 < (x0.length : Int) then (if (rd x0 x6) > (rd x0 x5) then (puncheonref08_richest.l0 k x0 x1 x6 (wrap64 (x6 + 1))) else (if (rd x0 x6) = (rd x0 x5) then (if x6 < (x1.length : Int) then (if x5 < (x1.length : Int) then (if (rd x1 x6) ≤ (rd x1 x5) then (puncheonref08_richest.l0 k x0 x1 x6 (wrap64 (x6 + 1))) else (puncheonref08_richest.l0 k x0 x1 x5 (wrap64 (x6 + 1)))) else (none)) else (none)) else (puncheonref08_richest.l0 k x0 x1 x5 (wrap64 (x6 + 1))))) else (none)) else (none)) else (none)) else (none)) else (some x5)
def puncheonref08_richest.f (k : Nat) (l0 : List Int) (l1 : List Int) : Option (Int) := puncheonref08_richest.l0 k l0 l1 0 1
theorem puncheonref08_richest.mono_l : ∀ k, (∀ y0 y1 y2 y3, LeO (puncheonref08_richest.l0 k y0 y1 y2 y3) (puncheonref08_richest.l0 (k + 1) y0 y1 y2 y3))
  | 0 => fun _ _ _ _ r h => by simp [puncheonref08_richest.l0] at h
  | k + 1 => by
    have ih0 := puncheonref08_richest.mono_l k
    · intro y0 y1 y2 y3
      unfold puncheonref08_richest.l0
      repeat' first
      | (with_reducible exact ih0 _ _ _ _)
      | (with_reducible exact LeO.refl _)
      | (with_reducible exact LeO.none _)
      | (with_reducible refine LeO.ite ?_ ?_)
      | (with_reducible refine LeO.bind ?_ (fun _ => ?_))
      | exact ih0 _ _ _ _
      | exact LeO.none _
      | refine LeO.ite ?_ ?_
      | refine LeO.bind ?_ (fun _ => ?_)
theorem puncheonref08_richest.mono : ∀ a0 a1 k, LeO (puncheonref08_richest.f k a0 a1) (puncheonref08_richest.f (k + 1) a0 a1) := by
  intro a0 a1 k
  have ih0 := puncheonref08_richest.mono_l k
  unfold puncheonref08_richest.f
  repeat' first
      | (with_reducible exact ih0 _ _ _ _)
      | (with_reducible exact LeO.refl _)
      | (with_reducible exact LeO.none _)
      | (with_reducible refine LeO.ite ?_ ?_)
      | (with_reducible refine LeO.bind ?_ (fun _ => ?_))
      | exact ih0 _ _ _ _
      | exact LeO.none _
      | refine LeO.ite ?_ ?_
      | refine LeO.bind ?_ (fun _ => ?_)
set_option maxHeartbeats 8000000 in
set_option maxRecDepth 100000 in
theorem puncheonref08_richest.calls (k : Nat) (A0 : Option Addr) (c0 : Nat) (l0 : List Int) (A1 : Option Addr) (c1 : Nat) (l1 : List Int) (r : Int) (w : World) (hr0 : Kd.C (Kd.int .i64) w A0 l0.length l0) (hc0 : l0.length ≤ c0) (hr1 : Kd.C (Kd.int .i64) w A1 l1.length l1) (hc1 : l1.length ≤ c1) (h : puncheonref08_richest.f k l0 l1 = some r) :
    Calls Try.prog 62 #[.slice A0 l0.length c0, .slice A1 l1.length c1] w fun e w' => e = .returned (.int .i64 r) ∧ Drawn0 w w' := by
  have HR0 := Aside0.mk hr0
  have HC0 := Aside0.mk hc0
  clear hr0 hc0
  have HR1 := Aside0.mk hr1
  have HC1 := Aside0.mk hc1
  clear hr1 hc1
  have H : (puncheonref08_richest.l0 k l0 l1 0 1) = some r := h
  clear h
  have H' := Aside0.mk H
  clear H
  go_enter Try.func62, Try.ntmps62
  go_wp2
  repeat (go_quiet (fail); try go_wp2)
  go_loopg [5, 6] k (fun kq v5 v6 w' => ∃ (x5_1 : Int) (x6_1 : Int), v5 = .int .i64 x5_1 ∧ v6 = .int .i64 x6_1 ∧ Aside0 (puncheonref08_richest.l0 kq l0 l1 x5_1 x6_1 = some r) ∧ Aside0 (kq ≤ k) ∧ Drawn0 w w')
  case atStart => exact ⟨(0), (1), (by first | rfl | (simp; done) | (simp [*]; done)), (by first | rfl | (simp; done) | (simp [*]; done)), H', ⟨Nat.le_refl _⟩, by repeat (first | exact Drawn0.refl _ | apply Drawn0.step)⟩
  case round =>
    clear H'
    try clear c1
    try clear p2
    obtain ⟨x5_1, x6_1, rfl, rfl, HA, HK1, ⟨m1, rfl⟩⟩ := hrel
    cases gk with
    | zero => exact absurd HA.out (by simp [puncheonref08_richest.l0])
    | succ k1 =>
      have H := HA.out
      clear HA
      simp only [puncheonref08_richest.l0] at H
      by_cases c3 : x6_1 < 256
      · rw [if_pos c3] at H
        have c3b0 : decide (x6_1 < 256) = true := decide_eq_true c3
        clear c3
        by_cases c4 : 0 ≤ x6_1
        · rw [if_pos c4] at H
          have c4b0 : decide (0 ≤ x6_1) = true := decide_eq_true c4
          clear c4
          by_cases c5 : x6_1 < (l0.length : Int)
          · rw [if_pos c5] at H
            have c5b0 : decide (x6_1 < (l0.length : Int)) = true := decide_eq_true c5
            clear c5
            by_cases c6 : 0 ≤ x5_1
            · rw [if_pos c6] at H
              have c6b0 : decide (0 ≤ x5_1) = true := decide_eq_true c6
              clear c6
              by_cases c7 : x5_1 < (l0.length : Int)
              · rw [if_pos c7] at H
                have c7b0 : decide (x5_1 < (l0.length : Int)) = true := decide_eq_true c7
                clear c7
                by_cases c8 : (rd l0 x6_1) > (rd l0 x5_1)
                · rw [if_pos c8] at H
                  have c8b0 : decide ((rd l0 x5_1) < (rd l0 x6_1)) = true := decide_eq_true c8
                  clear c8
                  have H' := Aside0.mk H
                  clear H
                  have p216 : 0 ≤ (x6_1 : Int) := of_decide_eq_true (by first | (with_reducible assumption) | assumption)
                  have q216 : x6_1 < (l0.length : Int) := of_decide_eq_true (by first | (with_reducible assumption) | assumption)
                  obtain ⟨ad216, e216, hx216_0⟩ := Kd.at_int HR0.out x6_1 p216 q216
                  cases e216
                  replace p216 := eq_true p216
                  replace q216 := eq_true q216
                  have p217 : 0 ≤ (x5_1 : Int) := of_decide_eq_true (by first | (with_reducible assumption) | assumption)
                  have q217 : x5_1 < (l0.length : Int) := of_decide_eq_true (by first | (with_reducible assumption) | assumption)
                  obtain ⟨ad217, e217, hx217_0⟩ := Kd.at_int HR0.out x5_1 p217 q217
                  obtain rfl : ad216 = ad217 := (by injection e217)
                  replace p217 := eq_true p217
                  replace q217 := eq_true q217
                  go_wp2
                  repeat (go_quiet (fail); try go_wp2)
                  go_roundg k1
                  case measure => have := HK1.out; omega
                  case rel => exact ⟨(x6_1), (wrap64 (x6_1 + 1)), (by first | rfl | (simp; done) | (simp [*]; done)), (by first | rfl | (simp; done) | (simp [*]; done)), H', ⟨by have := HK1.out; omega⟩, by repeat (first | exact Drawn0.refl _ | apply Drawn0.step)⟩
                · rw [if_neg c8] at H
                  have c8b0 : decide ((rd l0 x5_1) < (rd l0 x6_1)) = false := decide_eq_false c8
                  clear c8
                  by_cases c9 : (rd l0 x6_1) = (rd l0 x5_1)
                  · rw [if_pos c9] at H
                    have c9b0 : ((rd l0 x6_1) == (rd l0 x5_1)) = true := beq_iff_eq.mpr c9
                    have c9b1 : ((rd l0 x6_1) != (rd l0 x5_1)) = false := bne_eq_false_iff_eq.mpr c9
                    clear c9
                    by_cases c10 : x6_1 < (l1.length : Int)
                    · rw [if_pos c10] at H
                      have c10b0 : decide (x6_1 < (l1.length : Int)) = true := decide_eq_true c10
                      clear c10
                      by_cases c11 : x5_1 < (l1.length : Int)
                      · rw [if_pos c11] at H
                        have c11b0 : decide (x5_1 < (l1.length : Int)) = true := decide_eq_true c11
                        clear c11
                        by_cases c12 : (rd l1 x6_1) ≤ (rd l1 x5_1)
                        · rw [if_pos c12] at H
                          have c12b0 : decide ((rd l1 x6_1) ≤ (rd l1 x5_1)) = true := decide_eq_true c12
                          clear c12
                          have H' := Aside0.mk H
                          clear H
                          have p216 : 0 ≤ (x6_1 : Int) := of_decide_eq_true (by first | (with_reducible assumption) | assumption)
                          have q216 : x6_1 < (l0.length : Int) := of_decide_eq_true (by first | (with_reducible assumption) | assumption)
                          obtain ⟨ad216, e216, hx216_0⟩ := Kd.at_int HR0.out x6_1 p216 q216
                          cases e216
                          replace p216 := eq_true p216
                          replace q216 := eq_true q216
                          have p217 : 0 ≤ (x5_1 : Int) := of_decide_eq_true (by first | (with_reducible assumption) | assumption)
                          have q217 : x5_1 < (l0.length : Int) := of_decide_eq_true (by first | (with_reducible assumption) | assumption)
                          obtain ⟨ad217, e217, hx217_0⟩ := Kd.at_int HR0.out x5_1 p217 q217
                          obtain rfl : ad216 = ad217 := (by injection e217)
                          replace p217 := eq_true p217
                          replace q217 := eq_true q217
                          have p218 : 0 ≤ (x6_1 : Int) := of_decide_eq_true (by first | (with_reducible assumption) | assumption)
                          have q218 : x6_1 < (l0.length : Int) := of_decide_eq_true (by first | (with_reducible assumption) | assumption)
                          obtain ⟨ad218, e218, hx218_0⟩ := Kd.at_int HR0.out x6_1 p218 q218
                          obtain rfl : ad216 = ad218 := (by injection e218)
                          replace p218 := eq_true p218
                          replace q218 := eq_true q218
                          have p219 : 0 ≤ (x5_1 : Int) := of_decide_eq_true (by first | (with_reducible assumption) | assumption)
                          have q219 : x5_1 < (l0.length : Int) := of_decide_eq_true (by first | (with_reducible assumption) | assumption)
                          obtain ⟨ad219, e219, hx219_0⟩ := Kd.at_int HR0.out x5_1 p219 q219
                          obtain rfl : ad216 = ad219 := (by injection e219)
                          replace p219 := eq_true p219
                          replace q219 := eq_true q219
                          have p220 : 0 ≤ (x6_1 : Int) := of_decide_eq_true (by first | (with_reducible assumption) | assumption)
                          have q220 : x6_1 < (l1.length : Int) := of_decide_eq_true (by first | (with_reducible assumption) | assumption)
                          obtain ⟨ad220, e220, hx220_0⟩ := Kd.at_int HR1.out x6_1 p220 q220
                          cases e220
                          replace p220 := eq_true p220
                          replace q220 := eq_true q220
                          have p221 : 0 ≤ (x5_1 : Int) := of_decide_eq_true (by first | (with_reducible assumption) | assumption)
                          have q221 : x5_1 < (l1.length : Int) := of_decide_eq_true (by first | (with_reducible assumption) | assumption)
                          obtain ⟨ad221, e221, hx221_0⟩ := Kd.at_int HR1.out x5_1 p221 q221
                          obtain rfl : ad220 = ad221 := (by injection e221)
                          replace p221 := eq_true p221
                          replace q221 := eq_true q221
                          go_wp2
                          repeat (go_quiet (fail); try go_wp2)
                          go_roundg k1
                          case measure => have := HK1.out; omega
                          case rel => exact ⟨(x6_1), (wrap64 (x6_1 + 1)), (by first | rfl | (simp; done) | (simp [*]; done)), (by first | rfl | (simp; done) | (simp [*]; done)), H', ⟨by have := HK1.out; omega⟩, by repeat (first | exact Drawn0.refl _ | apply Drawn0.step)⟩
                        · rw [if_neg c12] at H
                          have c12b0 : decide ((rd l1 x6_1) ≤ (rd l1 x5_1)) = false := decide_eq_false c12
                          clear c12
                          have H' := Aside0.mk H
                          clear H
                          have p216 : 0 ≤ (x6_1 : Int) := of_decide_eq_true (by first | (with_reducible assumption) | assumption)
                          have q216 : x6_1 < (l0.length : Int) := of_decide_eq_true (by first | (with_reducible assumption) | assumption)
                          obtain ⟨ad216, e216, hx216_0⟩ := Kd.at_int HR0.out x6_1 p216 q216
                          cases e216
                          replace p216 := eq_true p216
                          replace q216 := eq_true q216
                          have p217 : 0 ≤ (x5_1 : Int) := of_decide_eq_true (by first | (with_reducible assumption) | assumption)
                          have q217 : x5_1 < (l0.length : Int) := of_decide_eq_true (by first | (with_reducible assumption) | assumption)
                          obtain ⟨ad217, e217, hx217_0⟩ := Kd.at_int HR0.out x5_1 p217 q217
                          obtain rfl : ad216 = ad217 := (by injection e217)
                          replace p217 := eq_true p217
                          replace q217 := eq_true q217
                          have p218 : 0 ≤ (x6_1 : Int) := of_decide_eq_true (by first | (with_reducible assumption) | assumption)
                          have q218 : x6_1 < (l0.length : Int) := of_decide_eq_true (by first | (with_reducible assumption) | assumption)
                          obtain ⟨ad218, e218, hx218_0⟩ := Kd.at_int HR0.out x6_1 p218 q218
                          obtain rfl : ad216 = ad218 := (by injection e218)
                          replace p218 := eq_true p218
                          replace q218 := eq_true q218
                          have p219 : 0 ≤ (x5_1 : Int) := of_decide_eq_true (by first | (with_reducible assumption) | assumption)
                          have q219 : x5_1 < (l0.length : Int) := of_decide_eq_true (by first | (with_reducible assumption) | assumption)
                          obtain ⟨ad219, e219, hx219_0⟩ := Kd.at_int HR0.out x5_1 p219 q219
                          obtain rfl : ad216 = ad219 := (by injection e219)
                          replace p219 := eq_true p219
                          replace q219 := eq_true q219
                          have p220 : 0 ≤ (x6_1 : Int) := of_decide_eq_true (by first | (with_reducible assumption) | assumption)
                          have q220 : x6_1 < (l1.length : Int) := of_decide_eq_true (by first | (with_reducible assumption) | assumption)
                          obtain ⟨ad220, e220, hx220_0⟩ := Kd.at_int HR1.out x6_1 p220 q220
                          cases e220
                          replace p220 := eq_true p220
                          replace q220 := eq_true q220
                          have p221 : 0 ≤ (x5_1 : Int) := of_decide_eq_true (by first | (with_reducible assumption) | assumption)
                          have q221 : x5_1 < (l1.length : Int) := of_decide_eq_true (by first | (with_reducible assumption) | assumption)
                          obtain ⟨ad221, e221, hx221_0⟩ := Kd.at_int HR1.out x5_1 p221 q221
                          obtain rfl : ad220 = ad221 := (by injection e221)
                          replace p221 := eq_true p221
                          replace q221 := eq_true q221
                          go_wp2
                          repeat (go_quiet (fail); try go_wp2)
                          go_roundg k1
                          case measure => have := HK1.out; omega
                          case rel => exact ⟨(x5_1), (wrap64 (x6_1 + 1)), (by first | rfl | (simp; done) | (simp [*]; done)), (by first | rfl | (simp; done) | (simp [*]; done)), H', ⟨by have := HK1.out; omega⟩, by repeat (first | exact Drawn0.refl _ | apply Drawn0.step)⟩
                      · rw [if_neg c11] at H
                        exact absurd H (by simp)
                    · rw [if_neg c10] at H
                      exact absurd H (by simp)
                  · rw [if_neg c9] at H
                    have c9b0 : ((rd l0 x6_1) == (rd l0 x5_1)) = false := beq_eq_false_iff_ne.mpr c9
                    have c9b1 : ((rd l0 x6_1) != (rd l0 x5_1)) = true := bne_iff_ne.mpr c9
                    have H' := Aside0.mk H
                    clear H
                    have p216 : 0 ≤ (x6_1 : Int) := of_decide_eq_true (by first | (with_reducible assumption) | assumption)
                    have q216 : x6_1 < (l0.length : Int) := of_decide_eq_true (by first | (with_reducible assumption) | assumption)
                    obtain ⟨ad216, e216, hx216_0⟩ := Kd.at_int HR0.out x6_1 p216 q216
                    cases e216
                    replace p216 := eq_true p216
                    replace q216 := eq_true q216
                    have p217 : 0 ≤ (x5_1 : Int) := of_decide_eq_true (by first | (with_reducible assumption) | assumption)
                    have q217 : x5_1 < (l0.length : Int) := of_decide_eq_true (by first | (with_reducible assumption) | assumption)
                    obtain ⟨ad217, e217, hx217_0⟩ := Kd.at_int HR0.out x5_1 p217 q217
                    obtain rfl : ad216 = ad217 := (by injection e217)
                    replace p217 := eq_true p217
                    replace q217 := eq_true q217
                    have p218 : 0 ≤ (x6_1 : Int) := of_decide_eq_true (by first | (with_reducible assumption) | assumption)
                    have q218 : x6_1 < (l0.length : Int) := of_decide_eq_true (by first | (with_reducible assumption) | assumption)
                    obtain ⟨ad218, e218, hx218_0⟩ := Kd.at_int HR0.out x6_1 p218 q218
                    obtain rfl : ad216 = ad218 := (by injection e218)
                    replace p218 := eq_true p218
                    replace q218 := eq_true q218
                    have p219 : 0 ≤ (x5_1 : Int) := of_decide_eq_true (by first | (with_reducible assumption) | assumption)
                    have q219 : x5_1 < (l0.length : Int) := of_decide_eq_true (by first | (with_reducible assumption) | assumption)
                    obtain ⟨ad219, e219, hx219_0⟩ := Kd.at_int HR0.out x5_1 p219 q219
                    obtain rfl : ad216 = ad219 := (by injection e219)
                    replace p219 := eq_true p219
                    replace q219 := eq_true q219
                    go_wp2
                    repeat (go_quiet (fail); try go_wp2)
                    go_roundg k1
                    case measure => have := HK1.out; omega
                    case rel => exact ⟨(x5_1), (wrap64 (x6_1 + 1)), (by first | rfl | (simp; done) | (simp [*]; done)), (by first | rfl | (simp; done) | (simp [*]; done)), H', ⟨by have := HK1.out; omega⟩, by repeat (first | exact Drawn0.refl _ | apply Drawn0.step)⟩
              · rw [if_neg c7] at H
                exact absurd H (by simp)
            · rw [if_neg c6] at H
              exact absurd H (by simp)
          · rw [if_neg c5] at H
            exact absurd H (by simp)
        · rw [if_neg c4] at H
          exact absurd H (by simp)
      · rw [if_neg c3] at H
        have c3b0 : decide (x6_1 < 256) = false := decide_eq_false c3
        clear c3
        obtain rfl := Option.some.inj H
        go_wp2
        repeat (go_quiet (fail); try go_wp2)
        go_ret
        exact ⟨by first | rfl | (simp; done) | (simp [*]; done), by repeat (first | exact Drawn0.refl _ | apply Drawn0.step)⟩

end Go.Proofs.Ytmmfkmkhflieeaa.PPr
