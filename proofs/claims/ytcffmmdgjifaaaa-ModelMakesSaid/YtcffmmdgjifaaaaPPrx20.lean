/- The machine's side of this seat's laws: what each function computes, and that its call computes it; written by a program (pr.py over the kit's print.py). -/
import Derived.Test.YtcffmmdgjifaaaaPPrx0
import Derived.Test.YtcffmmdgjifaaaaPPrx3
import Derived.Test.YtcffmmdgjifaaaaPPrx17
import Derived.Test.YtcffmmdgjifaaaaPPrx18
import Derived.Test.YtcffmmdgjifaaaaPPrx19
namespace Go.Proofs.Ytcffmmdgjifaaaa.PPr
open Go.RowKit Go.Proofs.YtcffmmdgjifaaaaW.PrintWords Go.Proofs.YtcffmmdgjifaaaaW.PrintLast Go.Proofs.YtcffmmdgjifaaaaW.PrintMore
attribute [local go_sem] max2_int min2_int max_two min_two max_three min_three max_four min_four   -- for this text's walks alone
set_option linter.unusedVariables false
set_option linter.unusedSimpArgs false

/-! ### puncheonref08_Counts: function 40 -/
mutual
def puncheonref08_Counts.j0 : Nat → List Int → Int → Int → Bool → Option (List Int × Int)
  | 0, _, _, _, _ => none
  | k + 1, x0, x1, x6, x24 => if x24 = true then (some (([] : List Int), 1)) else ((puncheonref08_power.f k x1).bind fun t212 => ((puncheonref05_Many.f k x0).bind fun t213 => (if t213 > t212 then (some (([] : List Int), 1)) else (if 256 ≤ 35184372088832 then (if 256 ≤ 281474976710656 then (puncheonref08_Counts.l0 k x0 x6 t212 (List.replicate 256 0) (List.replicate 256 0) (List.replicate 256 false) 0) else (none)) else (none)))))
def puncheonref08_Counts.l0 : Nat → List Int → Int → Int → List Int → List Int → List Bool → Int → Option (List Int × Int)
  | 0, _, _, _, _, _, _, _ => none
  | k + 1, x0, x6, x7, x8, x9, x10, x11 => if x11 < 256 then (if 0 ≤ x11 then (if x11 < (x0.length : Int) then (if x6 = 0 then (none) else (if x11 < (x8.length : Int) then ((some (x8.set (x11 : Int).toNat (wrap64 (Int.tdiv (wrap64 ((rd x0 x11) * x7)) x6)) : List Int)).bind fun y224 => (if x11 < (x9.length : Int) then ((some (x9.set (x11 : Int).toNat (Int.tmod (wrap64 ((rd x0 x11) * x7)) x6) : List Int)).bind fun y226 => (if (rd y224 x11) = 0 then (if x11 < (x10.length : Int) then (puncheonref08_Counts.l0 k x0 x6 x7 (y224.set (x11 : Int).toNat (mn (rd x0 x11) 1)) y226 (x10.set (x11 : Int).toNat true) (wrap64 (x11 + 1))) else (none)) else (puncheonref08_Counts.l0 k x0 x6 x7 y224 y226 x10 (wrap64 (x11 + 1))))) else (none))) else (none))) else (none)) else (none)) else (puncheonref08_Counts.l1 k x0 x7 x8 x9 x10)
def puncheonref08_Counts.l1 : Nat → List Int → Int → List Int → List Int → List Bool → Option (List Int × Int)
  | 0, _, _, _, _, _ => none
  | k + 1, x0, x7, x8, x9, x10 => (puncheonref08_sum.f k x8).bind fun t231 => (if t231 < x7 then ((puncheonref08_neediest.f k x9 x10).bind fun t232 => (if 0 ≤ t232 then (if t232 < (x10.length : Int) then (if t232 < (x8.length : Int) then (puncheonref08_Counts.l1 k x0 x7 (x8.set (t232 : Int).toNat (wrap64 ((rd x8 t232) + 1))) x9 (x10.set (t232 : Int).toNat true)) else (none)) else (none)) else (none))) else (puncheonref08_Counts.l2 k x0 x7 x8))
def puncheonref08_Counts.l2 : Nat → List Int → Int → List Int → Option (List Int × Int)
  | 0, _, _, _ => none
  | k + 1, x0, x7, x8 => (puncheonref08_sum.f k x8).bind fun t236 => (if t236 > x7 then ((puncheonref08_richest.f k x8 x0).bind fun t237 => (if 0 ≤ t237 then (if t237 < (x8.length : Int) then (puncheonref08_Counts.l2 k x0 x7 (x8.set (t237 : Int).toNat (wrap64 ((rd x8 t237) - 1)))) else (none)) else (none))) else (some (x8, 0)))
end
def puncheonref08_Counts.f (k : Nat) (l0 : List Int) (a1 : Int) : Option (List Int × Int) := (puncheonref05_Total.f k l0).bind fun t211 => (if t211 = 0 then (puncheonref08_Counts.j0 k l0 a1 t211 true) else (if a1 < 1 then (puncheonref08_Counts.j0 k l0 a1 t211 true) else (puncheonref08_Counts.j0 k l0 a1 t211 (decide (a1 > 12)))))
theorem puncheonref08_Counts.mono_l : ∀ k, (∀ y0 y1 y2 y3, LeO (puncheonref08_Counts.j0 k y0 y1 y2 y3) (puncheonref08_Counts.j0 (k + 1) y0 y1 y2 y3)) ∧ (∀ y0 y1 y2 y3 y4 y5 y6, LeO (puncheonref08_Counts.l0 k y0 y1 y2 y3 y4 y5 y6) (puncheonref08_Counts.l0 (k + 1) y0 y1 y2 y3 y4 y5 y6)) ∧ (∀ y0 y1 y2 y3 y4, LeO (puncheonref08_Counts.l1 k y0 y1 y2 y3 y4) (puncheonref08_Counts.l1 (k + 1) y0 y1 y2 y3 y4)) ∧ (∀ y0 y1 y2, LeO (puncheonref08_Counts.l2 k y0 y1 y2) (puncheonref08_Counts.l2 (k + 1) y0 y1 y2))
  | 0 => ⟨fun _ _ _ _ r h => by simp [puncheonref08_Counts.j0] at h, fun _ _ _ _ _ _ _ r h => by simp [puncheonref08_Counts.l0] at h, fun _ _ _ _ _ r h => by simp [puncheonref08_Counts.l1] at h, fun _ _ _ r h => by simp [puncheonref08_Counts.l2] at h⟩
  | k + 1 => by
    obtain ⟨ih0, ih1, ih2, ih3⟩ := puncheonref08_Counts.mono_l k
    refine ⟨?_, ?_, ?_, ?_⟩
    · intro y0 y1 y2 y3
      unfold puncheonref08_Counts.j0
      repeat' first
      | (with_reducible exact ih0 _ _ _ _)
      | (with_reducible exact ih1 _ _ _ _ _ _ _)
      | (with_reducible exact ih2 _ _ _ _ _)
      | (with_reducible exact ih3 _ _ _)
      | (with_reducible exact puncheonref05_Many.mono _ _)
      | (with_reducible exact puncheonref05_Total.mono _ _)
      | (with_reducible exact puncheonref08_neediest.mono _ _ _)
      | (with_reducible exact puncheonref08_power.mono _ _)
      | (with_reducible exact puncheonref08_richest.mono _ _ _)
      | (with_reducible exact puncheonref08_sum.mono _ _)
      | (with_reducible exact LeO.refl _)
      | (with_reducible exact LeO.none _)
      | (with_reducible refine LeO.ite ?_ ?_)
      | (with_reducible refine LeO.bind ?_ (fun _ => ?_))
      | exact ih0 _ _ _ _
      | exact ih1 _ _ _ _ _ _ _
      | exact ih2 _ _ _ _ _
      | exact ih3 _ _ _
      | exact puncheonref05_Many.mono _ _
      | exact puncheonref05_Total.mono _ _
      | exact puncheonref08_neediest.mono _ _ _
      | exact puncheonref08_power.mono _ _
      | exact puncheonref08_richest.mono _ _ _
      | exact puncheonref08_sum.mono _ _
      | exact LeO.none _
      | refine LeO.ite ?_ ?_
      | refine LeO.bind ?_ (fun _ => ?_)
    · intro y0 y1 y2 y3 y4 y5 y6
      unfold puncheonref08_Counts.l0
      repeat' first
      | (with_reducible exact ih0 _ _ _ _)
      | (with_reducible exact ih1 _ _ _ _ _ _ _)
      | (with_reducible exact ih2 _ _ _ _ _)
      | (with_reducible exact ih3 _ _ _)
      | (with_reducible exact puncheonref05_Many.mono _ _)
      | (with_reducible exact puncheonref05_Total.mono _ _)
      | (with_reducible exact puncheonref08_neediest.mono _ _ _)
      | (with_reducible exact puncheonref08_power.mono _ _)
      | (with_reducible exact puncheonref08_richest.mono _ _ _)
      | (with_reducible exact puncheonref08_sum.mono _ _)
      | (with_reducible exact LeO.refl _)
      | (with_reducible exact LeO.none _)
      | (with_reducible refine LeO.ite ?_ ?_)
      | (with_reducible refine LeO.bind ?_ (fun _ => ?_))
      | exact ih0 _ _ _ _
      | exact ih1 _ _ _ _ _ _ _
      | exact ih2 _ _ _ _ _
      | exact ih3 _ _ _
      | exact puncheonref05_Many.mono _ _
      | exact puncheonref05_Total.mono _ _
      | exact puncheonref08_neediest.mono _ _ _
      | exact puncheonref08_power.mono _ _
      | exact puncheonref08_richest.mono _ _ _
      | exact puncheonref08_sum.mono _ _
      | exact LeO.none _
      | refine LeO.ite ?_ ?_
      | refine LeO.bind ?_ (fun _ => ?_)
    · intro y0 y1 y2 y3 y4
      unfold puncheonref08_Counts.l1
      repeat' first
      | (with_reducible exact ih0 _ _ _ _)
      | (with_reducible exact ih1 _ _ _ _ _ _ _)
      | (with_reducible exact ih2 _ _ _ _ _)
      | (with_reducible exact ih3 _ _ _)
      | (with_reducible exact puncheonref05_Many.mono _ _)
      | (with_reducible exact puncheonref05_Total.mono _ _)
      | (with_reducible exact puncheonref08_neediest.mono _ _ _)
      | (with_reducible exact puncheonref08_power.mono _ _)
      | (with_reducible exact puncheonref08_richest.mono _ _ _)
      | (with_reducible exact puncheonref08_sum.mono _ _)
      | (with_reducible exact LeO.refl _)
      | (with_reducible exact LeO.none _)
      | (with_reducible refine LeO.ite ?_ ?_)
      | (with_reducible refine LeO.bind ?_ (fun _ => ?_))
      | exact ih0 _ _ _ _
      | exact ih1 _ _ _ _ _ _ _
      | exact ih2 _ _ _ _ _
      | exact ih3 _ _ _
      | exact puncheonref05_Many.mono _ _
      | exact puncheonref05_Total.mono _ _
      | exact puncheonref08_neediest.mono _ _ _
      | exact puncheonref08_power.mono _ _
      | exact puncheonref08_richest.mono _ _ _
      | exact puncheonref08_sum.mono _ _
      | exact LeO.none _
      | refine LeO.ite ?_ ?_
      | refine LeO.bind ?_ (fun _ => ?_)
    · intro y0 y1 y2
      unfold puncheonref08_Counts.l2
      repeat' first
      | (with_reducible exact ih0 _ _ _ _)
      | (with_reducible exact ih1 _ _ _ _ _ _ _)
      | (with_reducible exact ih2 _ _ _ _ _)
      | (with_reducible exact ih3 _ _ _)
      | (with_reducible exact puncheonref05_Many.mono _ _)
      | (with_reducible exact puncheonref05_Total.mono _ _)
      | (with_reducible exact puncheonref08_neediest.mono _ _ _)
      | (with_reducible exact puncheonref08_power.mono _ _)
      | (with_reducible exact puncheonref08_richest.mono _ _ _)
      | (with_reducible exact puncheonref08_sum.mono _ _)
      | (with_reducible exact LeO.refl _)
      | (with_reducible exact LeO.none _)
      | (with_reducible refine LeO.ite ?_ ?_)
      | (with_reducible refine LeO.bind ?_ (fun _ => ?_))
      | exact ih0 _ _ _ _
      | exact ih1 _ _ _ _ _ _ _
      | exact ih2 _ _ _ _ _
      | exact ih3 _ _ _
      | exact puncheonref05_Many.mono _ _
      | exact puncheonref05_Total.mono _ _
      | exact puncheonref08_neediest.mono _ _ _
      | exact puncheonref08_power.mono _ _
      | exact puncheonref08_richest.mono _ _ _
      | exact puncheonref08_sum.mono _ _
      | exact LeO.none _
      | refine LeO.ite ?_ ?_
      | refine LeO.bind ?_ (fun _ => ?_)
theorem puncheonref08_Counts.mono : ∀ a0 a1 k, LeO (puncheonref08_Counts.f k a0 a1) (puncheonref08_Counts.f (k + 1) a0 a1) := by
  intro a0 a1 k
  obtain ⟨ih0, ih1, ih2, ih3⟩ := puncheonref08_Counts.mono_l k
  unfold puncheonref08_Counts.f
  repeat' first
      | (with_reducible exact ih0 _ _ _ _)
      | (with_reducible exact ih1 _ _ _ _ _ _ _)
      | (with_reducible exact ih2 _ _ _ _ _)
      | (with_reducible exact ih3 _ _ _)
      | (with_reducible exact puncheonref05_Many.mono _ _)
      | (with_reducible exact puncheonref05_Total.mono _ _)
      | (with_reducible exact puncheonref08_neediest.mono _ _ _)
      | (with_reducible exact puncheonref08_power.mono _ _)
      | (with_reducible exact puncheonref08_richest.mono _ _ _)
      | (with_reducible exact puncheonref08_sum.mono _ _)
      | (with_reducible exact LeO.refl _)
      | (with_reducible exact LeO.none _)
      | (with_reducible refine LeO.ite ?_ ?_)
      | (with_reducible refine LeO.bind ?_ (fun _ => ?_))
      | exact ih0 _ _ _ _
      | exact ih1 _ _ _ _ _ _ _
      | exact ih2 _ _ _ _ _
      | exact ih3 _ _ _
      | exact puncheonref05_Many.mono _ _
      | exact puncheonref05_Total.mono _ _
      | exact puncheonref08_neediest.mono _ _ _
      | exact puncheonref08_power.mono _ _
      | exact puncheonref08_richest.mono _ _ _
      | exact puncheonref08_sum.mono _ _
      | exact LeO.none _
      | refine LeO.ite ?_ ?_
      | refine LeO.bind ?_ (fun _ => ?_)
set_option maxHeartbeats 8000000 in
set_option maxRecDepth 100000 in
theorem puncheonref08_Counts.calls (k : Nat) (A0 : Option Addr) (c0 : Nat) (l0 : List Int) (a1 : Int) (r1 : List Int) (r2 : Int) (w : World) (hr0 : Kd.C (Kd.int .i64) w A0 l0.length l0) (hc0 : l0.length ≤ c0) (h : puncheonref08_Counts.f k l0 a1 = some (r1, r2)) :
    Calls Try.prog 40 #[.slice A0 l0.length c0, .int .i64 a1] w fun e w' => ∃ v0_ : Value, e = .returned (.tuple #[v0_, .int .i64 r2]) ∧ Kd.R (Kd.int .i64) 3 w' w.heap.size (fun _ => True) v0_ r1 ∧ Below w.heap.size w w' := by
  have HR0 := Aside0.mk hr0
  have HC0 := Aside0.mk hc0
  clear hr0 hc0
  have HB := Aside0.mk (Below.refl w.heap.size w)
  have H : ((puncheonref05_Total.f k l0).bind fun t211 => (if t211 = 0 then (puncheonref08_Counts.j0 k l0 a1 t211 true) else (if a1 < 1 then (puncheonref08_Counts.j0 k l0 a1 t211 true) else (puncheonref08_Counts.j0 k l0 a1 t211 (decide (a1 > 12)))))) = some (r1, r2) := h
  clear h
  replace H := Option.bind_eq_some_iff.mp H
  obtain ⟨t211, A30, H⟩ := H
  replace H : (if t211 = 0 then (puncheonref08_Counts.j0 k l0 a1 t211 true) else (if a1 < 1 then (puncheonref08_Counts.j0 k l0 a1 t211 true) else (puncheonref08_Counts.j0 k l0 a1 t211 (decide (a1 > 12))))) = some (r1, r2) := H
  have A3 := Aside0.mk A30
  clear A30
  have HC4 := Aside0.mk H
  clear H
  go_enter Try.func40, Try.ntmps40
  go_upto_region 2 with (first | ((with_reducible refine gate_callee (f := 49) rfl ?_); refine goesL_ (some 14) rfl rfl Try.func49 (by kernel_rfl) rfl #[.slice A0 l0.length c0] rfl (by (try simp only [List.map_toArray, List.map_cons, List.map_nil]); first | done | rfl | (simp only [List.length_drop, List.length_take]; rfl)) ?_; (with_reducible refine (puncheonref05_Total.calls k _ _ l0 t211 _ ?side1 ?side2 A3.out).mono ?_); (case side1 => repeat (first | exact HR0.out | (with_reducible refine Kd.C_alloc ?_ _) | (with_reducible refine Kd.C_drewN ?_ _) | (with_reducible refine Kd.C_drew ?_))); (case side2 => exact HC0.out); rintro e w' ⟨rfl, ⟨nd, rfl⟩⟩; refine ⟨_, rfl, ?_⟩))
  (try simp only [Act.put, List.setIfInBounds_toArray, List.set_cons_zero, List.set_cons_succ])
  go_cut [24] (fun v24 wc => ∃ (kq : Nat) (x24_3 : Bool), v24 = .bool x24_3 ∧ Aside0 (puncheonref08_Counts.j0 kq l0 a1 t211 x24_3 = some (r1, r2)) ∧ Aside0 (kq ≤ k) ∧ Aside0 (Below w.heap.size w wc))
  case first =>
    have H := HC4.out
    clear HC4
    by_cases c5 : t211 = 0
    · rw [if_pos c5] at H
      have c5b0 : (t211 == 0) = true := beq_iff_eq.mpr c5
      have c5b1 : (t211 != 0) = false := bne_eq_false_iff_eq.mpr c5
      clear c5
      (first | rw [c5b0] | (simp only [i64_w, i32_w]; rw [c5b0]) | skip)
      have H' := Aside0.mk H
      clear H
      go_wp2
      go_meet
      case rel => exact ⟨_, (true), (by first | rfl | (simp; done) | (simp [*]; done)), H', ⟨by first | omega | exact Nat.le_refl _⟩, ⟨by repeat (first | (with_reducible first | exact HB.out | apply below_alloc | apply pw_below_drewN | apply below_drew1) | exact HB.out)⟩⟩
    · rw [if_neg c5] at H
      have c5b0 : (t211 == 0) = false := beq_eq_false_iff_ne.mpr c5
      have c5b1 : (t211 != 0) = true := bne_iff_ne.mpr c5
      (first | rw [c5b0] | (simp only [i64_w, i32_w]; rw [c5b0]) | skip)
      by_cases c6 : a1 < 1
      · rw [if_pos c6] at H
        have c6b0 : decide (a1 < 1) = true := decide_eq_true c6
        clear c6
        have H' := Aside0.mk H
        clear H
        go_wp2
        go_meet
        case rel => exact ⟨_, (true), (by first | rfl | (simp; done) | (simp [*]; done)), H', ⟨by first | omega | exact Nat.le_refl _⟩, ⟨by repeat (first | (with_reducible first | exact HB.out | apply below_alloc | apply pw_below_drewN | apply below_drew1) | exact HB.out)⟩⟩
      · rw [if_neg c6] at H
        have c6b0 : decide (a1 < 1) = false := decide_eq_false c6
        clear c6
        have H' := Aside0.mk H
        clear H
        go_wp2
        go_meet
        case rel => exact ⟨_, (decide (a1 > 12)), (by first | rfl | (simp; done) | (simp [*]; done)), H', ⟨by first | omega | exact Nat.le_refl _⟩, ⟨by repeat (first | (with_reducible first | exact HB.out | apply below_alloc | apply pw_below_drewN | apply below_drew1) | exact HB.out)⟩⟩
  case rest =>
    clear HC4
    try clear p2
    try clear c4
    try clear c5
    try clear c5b0
    try clear c5b1
    try clear c6
    try clear c6b0
    obtain ⟨kq, x24_3, rfl, HA, HJ3, HB⟩ := hcut
    cases kq with
    | zero => exact absurd HA.out (by simp [puncheonref08_Counts.j0])
    | succ kj3 =>
      have H := HA.out
      clear HA
      simp only [puncheonref08_Counts.j0] at H
      by_cases c7 : x24_3 = true
      · subst c7
        have H1 : (some (([] : List Int), 1)) = some (r1, r2) := by rw [if_pos rfl] at H; exact H
        clear H
        have H := H1
        clear H1
        simp only [Option.some.injEq, Prod.mk.injEq] at H
        obtain ⟨rfl, rfl⟩ := H
        go_wp2
        go_ret2
        exact ⟨_, by first | rfl | (simp [errW_none, errW_some] <;> rfl) | (simp [*, errW_none, errW_some] <;> rfl), by first | exact Kd.R_nil _ _ _ _ _ | exact Kd.N_nil _ _ _ _ _ | exact Kd.V_nil _ _ _ _ _ | exact Kd.Q_nil _ _ _ _ _ | exact Kd.S_nil _ _ _ _ _, by repeat (first | (with_reducible first | exact HB.out | apply below_alloc | apply pw_below_drewN | apply below_drew1) | exact HB.out)⟩
      · replace c7 := Bool.eq_false_iff.mpr c7
        subst c7
        have H1 : ((puncheonref08_power.f kj3 a1).bind fun t212 => ((puncheonref05_Many.f kj3 l0).bind fun t213 => (if t213 > t212 then (some (([] : List Int), 1)) else (if 256 ≤ 35184372088832 then (if 256 ≤ 281474976710656 then (puncheonref08_Counts.l0 kj3 l0 t211 t212 (List.replicate 256 0) (List.replicate 256 0) (List.replicate 256 false) 0) else (none)) else (none))))) = some (r1, r2) := by rw [if_neg (show ¬ (false = true) by decide)] at H; exact H
        clear H
        have H := H1
        clear H1
        replace H := Option.bind_eq_some_iff.mp H
        obtain ⟨t212, A80, H⟩ := H
        replace H : ((puncheonref05_Many.f kj3 l0).bind fun t213 => (if t213 > t212 then (some (([] : List Int), 1)) else (if 256 ≤ 35184372088832 then (if 256 ≤ 281474976710656 then (puncheonref08_Counts.l0 kj3 l0 t211 t212 (List.replicate 256 0) (List.replicate 256 0) (List.replicate 256 false) 0) else (none)) else (none)))) = some (r1, r2) := H
        have A8 := Aside0.mk A80
        clear A80
        replace H := Option.bind_eq_some_iff.mp H
        obtain ⟨t213, A90, H⟩ := H
        replace H : (if t213 > t212 then (some (([] : List Int), 1)) else (if 256 ≤ 35184372088832 then (if 256 ≤ 281474976710656 then (puncheonref08_Counts.l0 kj3 l0 t211 t212 (List.replicate 256 0) (List.replicate 256 0) (List.replicate 256 false) 0) else (none)) else (none))) = some (r1, r2) := H
        have A9 := Aside0.mk A90
        clear A90
        by_cases c10 : t213 > t212
        · rw [if_pos c10] at H
          have c10b0 : decide (t212 < t213) = true := decide_eq_true c10
          clear c10
          simp only [Option.some.injEq, Prod.mk.injEq] at H
          obtain ⟨rfl, rfl⟩ := H
          go_wp2_with (first | ((with_reducible refine gate_callee (f := 50) rfl ?_); refine goesL_ (some 26) rfl rfl Try.func50 (by kernel_rfl) rfl #[.int .i64 a1] rfl (by (try simp only [List.map_toArray, List.map_cons, List.map_nil]); first | done | rfl | (simp only [List.length_drop, List.length_take]; rfl)) ?_; (with_reducible refine (puncheonref08_power.calls kj3 a1 t212 _ A8.out).mono ?_); rintro e w' ⟨rfl, ⟨nd, rfl⟩⟩; refine ⟨_, rfl, ?_⟩) | ((with_reducible refine gate_callee (f := 39) rfl ?_); refine goesL_ (some 28) rfl rfl Try.func39 (by kernel_rfl) rfl #[.slice A0 l0.length c0] rfl (by (try simp only [List.map_toArray, List.map_cons, List.map_nil]); first | done | rfl | (simp only [List.length_drop, List.length_take]; rfl)) ?_; (with_reducible refine (puncheonref05_Many.calls kj3 _ _ l0 t213 _ ?side1 ?side2 A9.out).mono ?_); (case side1 => repeat (first | exact (Kd.C_below HR0.out (by repeat (first | (with_reducible first | exact HB.out | apply below_alloc | apply pw_below_drewN | apply below_drew1) | exact HB.out))) | (with_reducible refine Kd.C_alloc ?_ _) | (with_reducible refine Kd.C_drewN ?_ _) | (with_reducible refine Kd.C_drew ?_))); (case side2 => exact HC0.out); rintro e w' ⟨rfl, ⟨nd, rfl⟩⟩; refine ⟨_, rfl, ?_⟩))
          go_ret2
          exact ⟨_, by first | rfl | (simp [errW_none, errW_some] <;> rfl) | (simp [*, errW_none, errW_some] <;> rfl), by first | exact Kd.R_nil _ _ _ _ _ | exact Kd.N_nil _ _ _ _ _ | exact Kd.V_nil _ _ _ _ _ | exact Kd.Q_nil _ _ _ _ _ | exact Kd.S_nil _ _ _ _ _, by repeat (first | (with_reducible first | exact HB.out | apply below_alloc | apply pw_below_drewN | apply below_drew1) | exact HB.out)⟩
        · rw [if_neg c10] at H
          have c10b0 : decide (t212 < t213) = false := decide_eq_false c10
          clear c10
          by_cases c11 : 256 ≤ 35184372088832
          · rw [if_pos c11] at H
            have c11b0 := eq_true c11
            have c11b1 : decide (256 ≤ 35184372088832) = true := decide_eq_true c11
            clear c11
            obtain ⟨y214, hy214⟩ : ∃ y_ : List Int, y_ = (List.replicate 256 0) := ⟨_, rfl⟩
            replace H : (if 256 ≤ 281474976710656 then (puncheonref08_Counts.l0 kj3 l0 t211 t212 y214 (List.replicate 256 0) (List.replicate 256 false) 0) else (none)) = some (r1, r2) := by first | (rw [hy214]; with_reducible exact H) | (have H2_ := (Option.bind_some _ _).symm.trans H; rw [hy214]; with_reducible exact H2_) | (have H2_ := (Option.bind_some _ _).symm.trans H; with_reducible exact H2_) | with_reducible exact H | (rw [hy214]; exact H) | exact H
            have Ny214 := Aside0.mk hy214
            clear hy214
            obtain ⟨y217, hy217⟩ : ∃ y_ : List Int, y_ = (List.replicate 256 0) := ⟨_, rfl⟩
            replace H : (if 256 ≤ 281474976710656 then (puncheonref08_Counts.l0 kj3 l0 t211 t212 y214 y217 (List.replicate 256 false) 0) else (none)) = some (r1, r2) := by first | (rw [hy217]; with_reducible exact H) | (have H2_ := (Option.bind_some _ _).symm.trans H; rw [hy217]; with_reducible exact H2_) | (have H2_ := (Option.bind_some _ _).symm.trans H; with_reducible exact H2_) | with_reducible exact H | (rw [hy217]; exact H) | exact H
            have Ny217 := Aside0.mk hy217
            clear hy217
            by_cases c12 : 256 ≤ 281474976710656
            · rw [if_pos c12] at H
              have c12b0 := eq_true c12
              have c12b1 : decide (256 ≤ 281474976710656) = true := decide_eq_true c12
              clear c12
              obtain ⟨y220, hy220⟩ : ∃ y_ : List Bool, y_ = (List.replicate 256 false) := ⟨_, rfl⟩
              replace H : (puncheonref08_Counts.l0 kj3 l0 t211 t212 y214 y217 y220 0) = some (r1, r2) := by first | (rw [hy220]; with_reducible exact H) | (have H2_ := (Option.bind_some _ _).symm.trans H; rw [hy220]; with_reducible exact H2_) | (have H2_ := (Option.bind_some _ _).symm.trans H; with_reducible exact H2_) | with_reducible exact H | (rw [hy220]; exact H) | exact H
              have Ny220 := Aside0.mk hy220
              clear hy220
              have H' := Aside0.mk H
              clear H
              go_wp2_with (first | ((with_reducible refine gate_callee (f := 50) rfl ?_); refine goesL_ (some 26) rfl rfl Try.func50 (by kernel_rfl) rfl #[.int .i64 a1] rfl (by (try simp only [List.map_toArray, List.map_cons, List.map_nil]); first | done | rfl | (simp only [List.length_drop, List.length_take]; rfl)) ?_; (with_reducible refine (puncheonref08_power.calls kj3 a1 t212 _ A8.out).mono ?_); rintro e w' ⟨rfl, ⟨nd, rfl⟩⟩; refine ⟨_, rfl, ?_⟩) | ((with_reducible refine gate_callee (f := 39) rfl ?_); refine goesL_ (some 28) rfl rfl Try.func39 (by kernel_rfl) rfl #[.slice A0 l0.length c0] rfl (by (try simp only [List.map_toArray, List.map_cons, List.map_nil]); first | done | rfl | (simp only [List.length_drop, List.length_take]; rfl)) ?_; (with_reducible refine (puncheonref05_Many.calls kj3 _ _ l0 t213 _ ?side1 ?side2 A9.out).mono ?_); (case side1 => repeat (first | exact (Kd.C_below HR0.out (by repeat (first | (with_reducible first | exact HB.out | apply below_alloc | apply pw_below_drewN | apply below_drew1) | exact HB.out))) | (with_reducible refine Kd.C_alloc ?_ _) | (with_reducible refine Kd.C_drewN ?_ _) | (with_reducible refine Kd.C_drew ?_))); (case side2 => exact HC0.out); rintro e w' ⟨rfl, ⟨nd, rfl⟩⟩; refine ⟨_, rfl, ?_⟩) | ((with_reducible refine gate_dst (N := 31) rfl ?_); refine Kd.R_make (Kd.int .i64) _ 3 rfl (N := 31) rfl 29 _ _ rfl 256 rfl rfl Try.underlying29 (.int .i64 0) 8 info3 rfl (by decide) (by omega) 0 (ok := fun _ => True) (okp := fun _ => True) rfl (fun _ hk => hk) trivial (by omega) (by omega) (Below.refl _ _) (Nat.le_refl _) ?_; intro v215 w13 ho14 hb hg_ hnew_; clear hg_ hnew_; (first | rw [← Ny214.out] at ho14 | (simp only [Int.reduceToNat] at ho14; rw [← Ny214.out] at ho14)); have n0_ := Aside0.mk (Kd.R_lower ho14 (below_size (by repeat (first | (with_reducible first | exact HB.out | apply below_alloc | apply pw_below_drewN | apply below_drew1) | exact HB.out)))); have n1_ := Aside0.mk (below_step (by repeat (first | (with_reducible first | exact HB.out | apply below_alloc | apply pw_below_drewN | apply below_drew1) | exact HB.out)) hb); clear HB; have HO216 := n0_; have HB := n1_; clear n0_ n1_; clear hb ho14) | ((with_reducible refine gate_dst (N := 32) rfl ?_); refine Kd.R_make (Kd.int .i64) _ 3 rfl (N := 32) rfl 29 _ _ rfl 256 rfl rfl Try.underlying29 (.int .i64 0) 8 info3 rfl (by decide) (by omega) 0 (ok := fun _ => True) (okp := fun _ => True) rfl (fun _ hk => hk) trivial (by omega) (by omega) (Below.refl _ _) (Nat.le_refl _) ?_; intro v218 w15 ho16 hb hg_ hnew_; clear hg_ hnew_; (first | rw [← Ny217.out] at ho16 | (simp only [Int.reduceToNat] at ho16; rw [← Ny217.out] at ho16)); have n0_ := Aside0.mk (Kd.R_elder' (by (with_reducible repeat (first | apply Kd.R_alloc | apply Kd.R_drewN | apply Kd.R_drew)); exact HO216.out) (Kd.R_base ho16) hb); have n1_ := Aside0.mk (Kd.R_lower (Kd.R_new' ho16 (Kd.R_lt (by (with_reducible repeat (first | apply Kd.R_alloc | apply Kd.R_drewN | apply Kd.R_drew)); exact HO216.out))) (below_size (by repeat (first | (with_reducible first | exact HB.out | apply below_alloc | apply pw_below_drewN | apply below_drew1) | exact HB.out)))); have n2_ := Aside0.mk (below_step (by repeat (first | (with_reducible first | exact HB.out | apply below_alloc | apply pw_below_drewN | apply below_drew1) | exact HB.out)) hb); clear HO216; clear HB; have HO216 := n0_; have HO219 := n1_; have HB := n2_; clear n0_ n1_ n2_; clear hb ho16) | ((with_reducible refine gate_dst (N := 33) rfl ?_); refine Kd.R_make Kd.bool _ 4 rfl (N := 33) rfl 63 _ _ rfl 256 rfl rfl Try.underlying63 (.bool false) 1 info4 rfl (by decide) (by omega) false (ok := fun _ => True) (okp := fun _ => True) rfl (fun _ hk => hk) trivial (by omega) (by omega) (Below.refl _ _) (Nat.le_refl _) ?_; intro v221 w17 ho18 hb hg_ hnew_; clear hg_ hnew_; (first | rw [← Ny220.out] at ho18 | (simp only [Int.reduceToNat] at ho18; rw [← Ny220.out] at ho18)); have n0_ := Aside0.mk (Kd.R_below (by (with_reducible repeat (first | apply Kd.R_alloc | apply Kd.R_drewN | apply Kd.R_drew)); exact HO216.out) hb); have n1_ := Aside0.mk (Kd.R_below (by (with_reducible repeat (first | apply Kd.R_alloc | apply Kd.R_drewN | apply Kd.R_drew)); exact HO219.out) hb); have n2_ := Aside0.mk (Kd.R_lower ho18 (below_size (by repeat (first | (with_reducible first | exact HB.out | apply below_alloc | apply pw_below_drewN | apply below_drew1) | exact HB.out)))); have n3_ := Aside0.mk (below_step (by repeat (first | (with_reducible first | exact HB.out | apply below_alloc | apply pw_below_drewN | apply below_drew1) | exact HB.out)) hb); clear HO216; clear HO219; clear HB; have HO216 := n0_; have HO219 := n1_; have HO222 := n2_; have HB := n3_; clear n0_ n1_ n2_ n3_; clear hb ho18))
              go_loopg [11] kj3 (fun kq v11 w' => ∃ (x8_2 : List Int) (x9_2 : List Int) (x10_2 : List Bool) (x11_2 : Int), v11 = .int .i64 x11_2 ∧ Aside0 (puncheonref08_Counts.l0 kq l0 t211 t212 x8_2 x9_2 x10_2 x11_2 = some (r1, r2)) ∧ Aside0 (kq ≤ kj3) ∧ Aside0 (Kd.R (Kd.int .i64) 3 w' w.heap.size (fun k_ => some k_ ≠ (v218 : Value).ownBlock) v215 x8_2) ∧ Aside0 (Kd.R (Kd.int .i64) 3 w' w.heap.size (fun k_ => some k_ ≠ (v215 : Value).ownBlock) v218 x9_2) ∧ Aside0 (Kd.R Kd.bool 4 w' w.heap.size (fun _ => True) v221 x10_2) ∧ Aside0 (Below w.heap.size w w'))
              case atStart => exact ⟨(y214), (y217), (y220), (0), (by first | rfl | (simp; done) | (simp [*]; done)), H', ⟨Nat.le_refl _⟩, ⟨by (with_reducible repeat (first | apply Kd.R_alloc | apply Kd.R_drewN | apply Kd.R_drew)); exact Kd.R_mono HO216.out (fun _ hk => hk.2)⟩, ⟨by (with_reducible repeat (first | apply Kd.R_alloc | apply Kd.R_drewN | apply Kd.R_drew)); exact Kd.R_mono HO219.out (fun _ hk => hk.2)⟩, ⟨by (with_reducible repeat (first | apply Kd.R_alloc | apply Kd.R_drewN | apply Kd.R_drew)); exact HO222.out⟩, ⟨by repeat (first | (with_reducible first | exact HB.out | apply below_alloc | apply pw_below_drewN | apply below_drew1) | exact HB.out)⟩⟩
              case round =>
                clear H'
                try clear c1
                try clear p2
                try clear c3
                try clear c4
                try clear c5
                try clear c5b0
                try clear c5b1
                try clear c6
                try clear c6b0
                try clear c7
                try clear c10
                try clear c10b0
                try clear c11
                try clear c11b0
                try clear c11b1
                try clear c12
                try clear c12b0
                try clear c12b1
                try clear p2
                obtain ⟨x8_2, x9_2, x10_2, x11_2, rfl, HA, HK2, HO_8, HO_9, HO_10, HB⟩ := hrel
                cases gk with
                | zero => exact absurd HA.out (by simp [puncheonref08_Counts.l0])
                | succ k2 =>
                  have H := HA.out
                  clear HA
                  simp only [puncheonref08_Counts.l0] at H
                  by_cases c19 : x11_2 < 256
                  · rw [if_pos c19] at H
                    have c19b0 : decide (x11_2 < 256) = true := decide_eq_true c19
                    clear c19
                    by_cases c20 : 0 ≤ x11_2
                    · rw [if_pos c20] at H
                      have c20b0 : decide (0 ≤ x11_2) = true := decide_eq_true c20
                      clear c20
                      by_cases c21 : x11_2 < (l0.length : Int)
                      · rw [if_pos c21] at H
                        have c21b0 : decide (x11_2 < (l0.length : Int)) = true := decide_eq_true c21
                        clear c21
                        by_cases c22 : t211 = 0
                        · rw [if_pos c22] at H
                          exact absurd H (by simp)
                        · rw [if_neg c22] at H
                          have c22b0 : (t211 == 0) = false := beq_eq_false_iff_ne.mpr c22
                          have c22b1 : (t211 != 0) = true := bne_iff_ne.mpr c22
                          by_cases c23 : x11_2 < (x8_2.length : Int)
                          · rw [if_pos c23] at H
                            have c23b0 : decide (x11_2 < (x8_2.length : Int)) = true := decide_eq_true c23
                            clear c23
                            obtain ⟨y224, hy224⟩ : ∃ y_ : List Int, y_ = (x8_2.set (x11_2 : Int).toNat (wrap64 (Int.tdiv (wrap64 ((rd l0 x11_2) * t212)) t211))) := ⟨_, rfl⟩
                            replace H : (if x11_2 < (x9_2.length : Int) then ((some (x9_2.set (x11_2 : Int).toNat (Int.tmod (wrap64 ((rd l0 x11_2) * t212)) t211) : List Int)).bind fun y226 => (if (rd y224 x11_2) = 0 then (if x11_2 < (x10_2.length : Int) then (puncheonref08_Counts.l0 k2 l0 t211 t212 (y224.set (x11_2 : Int).toNat (mn (rd l0 x11_2) 1)) y226 (x10_2.set (x11_2 : Int).toNat true) (wrap64 (x11_2 + 1))) else (none)) else (puncheonref08_Counts.l0 k2 l0 t211 t212 y224 y226 x10_2 (wrap64 (x11_2 + 1))))) else (none)) = some (r1, r2) := by first | (rw [hy224]; with_reducible exact H) | (have H2_ := (Option.bind_some _ _).symm.trans H; rw [hy224]; with_reducible exact H2_) | (have H2_ := (Option.bind_some _ _).symm.trans H; with_reducible exact H2_) | with_reducible exact H | (rw [hy224]; exact H) | exact H
                            have Ny224 := Aside0.mk hy224
                            clear hy224
                            by_cases c25 : x11_2 < (x9_2.length : Int)
                            · rw [if_pos c25] at H
                              have c25b0 : decide (x11_2 < (x9_2.length : Int)) = true := decide_eq_true c25
                              clear c25
                              obtain ⟨y226, hy226⟩ : ∃ y_ : List Int, y_ = (x9_2.set (x11_2 : Int).toNat (Int.tmod (wrap64 ((rd l0 x11_2) * t212)) t211)) := ⟨_, rfl⟩
                              replace H : (if (rd y224 x11_2) = 0 then (if x11_2 < (x10_2.length : Int) then (puncheonref08_Counts.l0 k2 l0 t211 t212 (y224.set (x11_2 : Int).toNat (mn (rd l0 x11_2) 1)) y226 (x10_2.set (x11_2 : Int).toNat true) (wrap64 (x11_2 + 1))) else (none)) else (puncheonref08_Counts.l0 k2 l0 t211 t212 y224 y226 x10_2 (wrap64 (x11_2 + 1)))) = some (r1, r2) := by first | (rw [hy226]; with_reducible exact H) | (have H2_ := (Option.bind_some _ _).symm.trans H; rw [hy226]; with_reducible exact H2_) | (have H2_ := (Option.bind_some _ _).symm.trans H; with_reducible exact H2_) | with_reducible exact H | (rw [hy226]; exact H) | exact H
                              have Ny226 := Aside0.mk hy226
                              clear hy226
                              by_cases c27 : (rd y224 x11_2) = 0
                              · rw [if_pos c27] at H
                                have c27b0 : ((rd y224 x11_2) == 0) = true := beq_iff_eq.mpr c27
                                have c27b1 : ((rd y224 x11_2) != 0) = false := bne_eq_false_iff_eq.mpr c27
                                clear c27
                                by_cases c28 : x11_2 < (x10_2.length : Int)
                                · rw [if_pos c28] at H
                                  have c28b0 : decide (x11_2 < (x10_2.length : Int)) = true := decide_eq_true c28
                                  clear c28
                                  obtain ⟨y228, hy228⟩ : ∃ y_ : List Bool, y_ = (x10_2.set (x11_2 : Int).toNat true) := ⟨_, rfl⟩
                                  replace H : (puncheonref08_Counts.l0 k2 l0 t211 t212 (y224.set (x11_2 : Int).toNat (mn (rd l0 x11_2) 1)) y226 y228 (wrap64 (x11_2 + 1))) = some (r1, r2) := by first | (rw [hy228]; with_reducible exact H) | (have H2_ := (Option.bind_some _ _).symm.trans H; rw [hy228]; with_reducible exact H2_) | (have H2_ := (Option.bind_some _ _).symm.trans H; with_reducible exact H2_) | with_reducible exact H | (rw [hy228]; exact H) | exact H
                                  have Ny228 := Aside0.mk hy228
                                  clear hy228
                                  obtain ⟨ji30, hji30⟩ : ∃ j_ : Int, (mn (rd l0 x11_2) 1) = j_ := ⟨_, rfl⟩
                                  replace H : (puncheonref08_Counts.l0 k2 l0 t211 t212 (y224.set (x11_2 : Int).toNat (ji30)) y226 y228 (wrap64 (x11_2 + 1))) = some (r1, r2) := by first | (rw [hji30] at H; exact H) | (simp only [hji30] at H ⊢; exact H)
                                  have hji30_ : (if 1 < (rd l0 x11_2) then 1 else (rd l0 x11_2)) = ji30 := hji30
                                  obtain ⟨y230, hy230⟩ : ∃ y_ : List Int, y_ = (y224.set (x11_2 : Int).toNat (ji30)) := ⟨_, rfl⟩
                                  replace H : (puncheonref08_Counts.l0 k2 l0 t211 t212 y230 y226 y228 (wrap64 (x11_2 + 1))) = some (r1, r2) := by first | (rw [hy230]; with_reducible exact H) | (have H2_ := (Option.bind_some _ _).symm.trans H; rw [hy230]; with_reducible exact H2_) | (have H2_ := (Option.bind_some _ _).symm.trans H; with_reducible exact H2_) | with_reducible exact H | (rw [hy230]; exact H) | exact H
                                  have Ny230 := Aside0.mk hy230
                                  clear hy230
                                  have H' := Aside0.mk H
                                  clear H
                                  have p223 : 0 ≤ (x11_2 : Int) := of_decide_eq_true (by first | (with_reducible assumption) | assumption)
                                  have q223 : x11_2 < (l0.length : Int) := of_decide_eq_true (by first | (with_reducible assumption) | assumption)
                                  obtain ⟨ad223, e223, hx223_0⟩ := Kd.at_int HR0.out x11_2 p223 q223
                                  cases e223
                                  replace hx223_0 := (HB.out.cell (World.block_lt_of_cell? w _ hx223_0)).trans hx223_0
                                  replace p223 := eq_true p223
                                  replace q223 := eq_true q223
                                  have p24 : 0 ≤ (x11_2 : Int) := of_decide_eq_true (by first | (with_reducible assumption) | assumption)
                                  have q24 : (x11_2 : Int) < ((x8_2.length : Int) : Int) := of_decide_eq_true (by first | (with_reducible assumption) | assumption)
                                  obtain ⟨go24, co24, eo24, gb24, gl24, cl24, HG24⟩ := Kd.R_form HO_8.out (by omega)
                                  (first | cases eo24 | (injection eo24 with ea_ en_ ec_; (first | subst ea_ | (injection ea_ with ea_; subst ea_)); subst ec_; clear en_))
                                  have GB24 := Aside0.mk gb24
                                  have GG24 := Aside0.mk HG24
                                  clear gb24 gl24 HG24
                                  obtain ⟨hx24_0, hf24_0⟩ := Kd.R_celln 0 HO_8.out (x11_2 : Int) p24 q24
                                  replace p24 := eq_true p24
                                  replace q24 := eq_true q24
                                  have HP32 := Kd.R_putg HO_8.out (x11_2 : Int) (wrap64 (Int.tdiv (wrap64 ((rd l0 x11_2) * t212)) t211))
                                  go_wp2_with (first | ((with_reducible refine gate_store (t := 3) (p := 48) rfl ?_); refine store_event (t := 3) (p := 48) (v := ?vo_w33) (w1 := (wr.setCell ⟨go24, (x11_2 : Int).toNat, none⟩ (.int .i64 (wrap64 (Int.tdiv (wrap64 ((rd l0 x11_2) * t212)) t211))))) ?hg ?ho ?hn ?hr ?_; (case ho => rfl); (case hg => rfl); (case hn => rfl); (case hr => first | (go_simp; done) | (go_simp; rfl)); intro w33 hw; have hg : wr.grownBy w33 (some go24) := (by rw [hw]; exact HP32.2); have hp_ : Kd.R (Kd.int .i64) 3 w33 w.heap.size (fun k_ => some k_ ≠ (v218 : Value).ownBlock) (.slice (some ⟨go24, 0, none⟩) x8_2.length co24) y224 := (by rw [hw, Ny224.out]; exact HP32.1); clear HP32; have n0_ := Aside0.mk (hp_); have n1_ := Aside0.mk (Kd.R_after (v := (.slice (some ⟨go24, 0, none⟩) x8_2.length co24)) (v1 := (.slice (some ⟨go24, 0, none⟩) x8_2.length co24)) (ok := (fun _ => True)) (by (with_reducible repeat (first | apply Kd.R_alloc | apply Kd.R_drewN | apply Kd.R_drew)); exact Kd.R_mono HO_9.out (fun _ hk => ⟨trivial, hk⟩)) hg (.inl rfl)); have n2_ := Aside0.mk (Kd.R_over' (v := (.slice (some ⟨go24, 0, none⟩) x8_2.length co24)) (by (with_reducible repeat (first | apply Kd.R_alloc | apply Kd.R_drewN | apply Kd.R_drew)); exact HO_10.out) (Kd.R_typed HO_8.out) (by decide) hg); have n3_ := Aside0.mk ((by rw [hw]; exact below_set (HB.out) GB24.out : Below w.heap.size w w33)); clear HO_8; clear HO_9; clear HO_10; clear HB; have HO_8 := n0_; have HO_9 := n1_; have HO_10 := n2_; have HB := n3_; clear n0_ n1_ n2_ n3_; clear hg hw hp_; have p225 : 0 ≤ (x11_2 : Int) := of_decide_eq_true (by first | (with_reducible assumption) | assumption); have q225 : x11_2 < (l0.length : Int) := of_decide_eq_true (by first | (with_reducible assumption) | assumption); obtain ⟨ad225, e225, hx225_0⟩ := Kd.at_int HR0.out x11_2 p225 q225; obtain rfl : ad223 = ad225 := (by injection e225); replace hx225_0 := (HB.out.cell (World.block_lt_of_cell? w _ hx225_0)).trans hx225_0; replace p225 := eq_true p225; replace q225 := eq_true q225; have p26 : 0 ≤ (x11_2 : Int) := of_decide_eq_true (by first | (with_reducible assumption) | assumption); have q26 : (x11_2 : Int) < ((x9_2.length : Int) : Int) := of_decide_eq_true (by first | (with_reducible assumption) | assumption); obtain ⟨go26, co26, eo26, gb26, gl26, cl26, HG26⟩ := Kd.R_form HO_9.out (by omega); (first | cases eo26 | (injection eo26 with ea_ en_ ec_; (first | subst ea_ | (injection ea_ with ea_; subst ea_)); subst ec_; clear en_)); have GB26 := Aside0.mk gb26; have GG26 := Aside0.mk HG26; clear gb26 gl26 HG26; obtain ⟨hx26_0, hf26_0⟩ := Kd.R_celln 0 HO_9.out (x11_2 : Int) p26 q26; replace p26 := eq_true p26; replace q26 := eq_true q26; have n_ := Aside0.mk (Kd.R_mono (ok' := (fun k_ => some k_ ≠ (.slice (some ⟨go24, 0, none⟩) x8_2.length co24 : Value).ownBlock)) HO_9.out (fun k_ hk => hk.2)); clear HO_9; have HO_9 := n_; clear n_; obtain ⟨hy34_, hz34_⟩ := Kd.R_celln 0 HO_9.out (x11_2 : Int) (of_decide_eq_true (by first | (with_reducible assumption) | assumption)) (of_decide_eq_true (by first | (with_reducible assumption) | assumption)); have HP34 := Kd.R_putg HO_9.out (x11_2 : Int) (Int.tmod (wrap64 ((rd l0 x11_2) * t212)) t211)) | ((with_reducible refine gate_store (t := 3) (p := 59) rfl ?_); refine store_event (t := 3) (p := 59) (v := ?vo_w35) (w1 := (w33.setCell ⟨go26, (x11_2 : Int).toNat, none⟩ (.int .i64 (Int.tmod (wrap64 ((rd l0 x11_2) * t212)) t211)))) ?hg ?ho ?hn ?hr ?_; (case ho => rfl); (case hg => rfl); (case hn => rfl); (case hr => first | (go_simp; done) | (go_simp; rfl)); intro w35 hw; have hg : w33.grownBy w35 (some go26) := (by rw [hw]; exact HP34.2); have hp_ : Kd.R (Kd.int .i64) 3 w35 w.heap.size (fun k_ => some k_ ≠ (.slice (some ⟨go24, 0, none⟩) x8_2.length co24 : Value).ownBlock) (.slice (some ⟨go26, 0, none⟩) x9_2.length co26) y226 := (by rw [hw, Ny226.out]; exact HP34.1); clear HP34; have n0_ := Aside0.mk (Kd.R_after (v := (.slice (some ⟨go26, 0, none⟩) x9_2.length co26)) (v1 := (.slice (some ⟨go26, 0, none⟩) x9_2.length co26)) (ok := (fun _ => True)) (by (with_reducible repeat (first | apply Kd.R_alloc | apply Kd.R_drewN | apply Kd.R_drew)); exact Kd.R_mono HO_8.out (fun _ hk => ⟨trivial, hk⟩)) hg (.inl rfl)); have n1_ := Aside0.mk (hp_); have n2_ := Aside0.mk (Kd.R_over' (v := (.slice (some ⟨go26, 0, none⟩) x9_2.length co26)) (by (with_reducible repeat (first | apply Kd.R_alloc | apply Kd.R_drewN | apply Kd.R_drew)); exact HO_10.out) (Kd.R_typed HO_9.out) (by decide) hg); have n3_ := Aside0.mk ((by rw [hw]; exact below_set (HB.out) GB26.out : Below w.heap.size w w35)); clear HO_8; clear HO_9; clear HO_10; clear HB; have HO_8 := n0_; have HO_9 := n1_; have HO_10 := n2_; have HB := n3_; clear n0_ n1_ n2_ n3_; clear hg hw hp_; have p227 : 0 ≤ (x11_2 : Int) := of_decide_eq_true (by first | (with_reducible assumption) | assumption); have q227 : x11_2 < (y224.length : Int) := (by have h_ : (x11_2 : Int) < ((x8_2.length : Int) : Int) := of_decide_eq_true (by first | (with_reducible assumption) | assumption); first | (have e_ := (Kd.R_reads' HO_8.out).1; omega) | simpa only [Ny224.out, List.length_set] using h_); have ql227 : ((x11_2 : Int) < ((x8_2.length : Int) : Int)) = True := eq_true (of_decide_eq_true (by first | (with_reducible assumption) | assumption)); obtain ⟨ad227, e227, hx227_0⟩ := Kd.at_int (Kd.R_reads' HO_8.out).2.2 x11_2 p227 q227; obtain rfl : (⟨go24, 0, none⟩ : Addr) = ad227 := (by injection e227); (first | simp only [add_plain] at hx227_0 | simp only [add_at] at hx227_0 | simp only [Addr.add, Nat.zero_add] at hx227_0 | skip); replace p227 := eq_true p227; replace q227 := eq_true q227; have p29 : 0 ≤ (x11_2 : Int) := of_decide_eq_true (by first | (with_reducible assumption) | assumption); have q29 : (x11_2 : Int) < ((x10_2.length : Int) : Int) := of_decide_eq_true (by first | (with_reducible assumption) | assumption); obtain ⟨go29, co29, eo29, gb29, gl29, cl29, HG29⟩ := Kd.R_form HO_10.out (by omega); (first | cases eo29 | (injection eo29 with ea_ en_ ec_; (first | subst ea_ | (injection ea_ with ea_; subst ea_)); subst ec_; clear en_)); have GB29 := Aside0.mk gb29; have GG29 := Aside0.mk HG29; clear gb29 gl29 HG29; obtain ⟨hx29_0, hf29_0⟩ := Kd.R_celln false HO_10.out (x11_2 : Int) p29 q29; replace p29 := eq_true p29; replace q29 := eq_true q29; obtain ⟨hy36_, hz36_⟩ := Kd.R_celln false HO_10.out (x11_2 : Int) (of_decide_eq_true (by first | (with_reducible assumption) | assumption)) (of_decide_eq_true (by first | (with_reducible assumption) | assumption)); have HP36 := Kd.R_putg HO_10.out (x11_2 : Int) true) | ((with_reducible refine gate_store (t := 4) (p := 67) rfl ?_); refine store_event (t := 4) (p := 67) (v := ?vo_w37) (w1 := (w35.setCell ⟨go29, (x11_2 : Int).toNat, none⟩ (.bool true))) ?hg ?ho ?hn ?hr ?_; (case ho => rfl); (case hg => rfl); (case hn => rfl); (case hr => first | (go_simp; done) | (go_simp; rfl)); intro w37 hw; have hg : w35.grownBy w37 (some go29) := (by rw [hw]; exact HP36.2); have hp_ : Kd.R Kd.bool 4 w37 w.heap.size (fun _ => True) (.slice (some ⟨go29, 0, none⟩) x10_2.length co29) y228 := (by rw [hw, Ny228.out]; exact HP36.1); clear HP36; have n0_ := Aside0.mk (Kd.R_over' (v := (.slice (some ⟨go29, 0, none⟩) x10_2.length co29)) (by (with_reducible repeat (first | apply Kd.R_alloc | apply Kd.R_drewN | apply Kd.R_drew)); exact HO_8.out) (Kd.R_typed HO_10.out) (by decide) hg); have n1_ := Aside0.mk (Kd.R_over' (v := (.slice (some ⟨go29, 0, none⟩) x10_2.length co29)) (by (with_reducible repeat (first | apply Kd.R_alloc | apply Kd.R_drewN | apply Kd.R_drew)); exact HO_9.out) (Kd.R_typed HO_10.out) (by decide) hg); have n2_ := Aside0.mk (hp_); have n3_ := Aside0.mk ((by rw [hw]; exact below_set (HB.out) GB29.out : Below w.heap.size w w37)); clear HO_8; clear HO_9; clear HO_10; clear HB; have HO_8 := n0_; have HO_9 := n1_; have HO_10 := n2_; have HB := n3_; clear n0_ n1_ n2_ n3_; clear hg hw hp_; have p229 : 0 ≤ (x11_2 : Int) := of_decide_eq_true (by first | (with_reducible assumption) | assumption); have q229 : x11_2 < (l0.length : Int) := of_decide_eq_true (by first | (with_reducible assumption) | assumption); obtain ⟨ad229, e229, hx229_0⟩ := Kd.at_int HR0.out x11_2 p229 q229; obtain rfl : ad223 = ad229 := (by injection e229); replace hx229_0 := (HB.out.cell (World.block_lt_of_cell? w _ hx229_0)).trans hx229_0; replace p229 := eq_true p229; replace q229 := eq_true q229; have p31 : 0 ≤ (x11_2 : Int) := of_decide_eq_true (by first | (with_reducible assumption) | assumption); have q31 : (x11_2 : Int) < ((x8_2.length : Int) : Int) := of_decide_eq_true (by first | (with_reducible assumption) | assumption); obtain ⟨hx31_0, hf31_0⟩ := Kd.R_celln 0 HO_8.out (x11_2 : Int) p31 q31; replace p31 := eq_true p31; replace q31 := eq_true q31; have n_ := Aside0.mk (Kd.R_mono (ok' := (fun k_ => some k_ ≠ (.slice (some ⟨go26, 0, none⟩) x9_2.length co26 : Value).ownBlock)) HO_8.out (fun k_ hk => hk.2)); clear HO_8; have HO_8 := n_; clear n_; obtain ⟨hy38_, hz38_⟩ := Kd.R_celln 0 HO_8.out (x11_2 : Int) (of_decide_eq_true (by first | (with_reducible assumption) | assumption)) (of_decide_eq_true (by first | (with_reducible assumption) | assumption)); have HP38 := Kd.R_putg HO_8.out (x11_2 : Int) ji30) | ((with_reducible refine gate_store (t := 3) (p := 75) rfl ?_); refine store_event (t := 3) (p := 75) (v := ?vo_w39) (w1 := (w37.setCell ⟨go24, (x11_2 : Int).toNat, none⟩ (.int .i64 ji30))) ?hg ?ho ?hn ?hr ?_; (case ho => rfl); (case hg => rfl); (case hn => rfl); (case hr => first | (go_simp; done) | (go_simp; rfl)); intro w39 hw; have hg : w37.grownBy w39 (some go24) := (by rw [hw]; exact HP38.2); have hp_ : Kd.R (Kd.int .i64) 3 w39 w.heap.size (fun k_ => some k_ ≠ (.slice (some ⟨go26, 0, none⟩) x9_2.length co26 : Value).ownBlock) (.slice (some ⟨go24, 0, none⟩) x8_2.length co24) y230 := (by rw [hw, Ny230.out]; exact HP38.1); clear HP38; have n0_ := Aside0.mk (hp_); have n1_ := Aside0.mk (Kd.R_after (v := (.slice (some ⟨go24, 0, none⟩) x8_2.length co24)) (v1 := (.slice (some ⟨go24, 0, none⟩) x8_2.length co24)) (ok := (fun _ => True)) (by (with_reducible repeat (first | apply Kd.R_alloc | apply Kd.R_drewN | apply Kd.R_drew)); exact Kd.R_mono HO_9.out (fun _ hk => ⟨trivial, hk⟩)) hg (.inl rfl)); have n2_ := Aside0.mk (Kd.R_over' (v := (.slice (some ⟨go24, 0, none⟩) x8_2.length co24)) (by (with_reducible repeat (first | apply Kd.R_alloc | apply Kd.R_drewN | apply Kd.R_drew)); exact HO_10.out) (Kd.R_typed HO_8.out) (by decide) hg); have n3_ := Aside0.mk ((by rw [hw]; exact below_set (HB.out) GB24.out : Below w.heap.size w w39)); clear HO_8; clear HO_9; clear HO_10; clear HB; have HO_8 := n0_; have HO_9 := n1_; have HO_10 := n2_; have HB := n3_; clear n0_ n1_ n2_ n3_; clear hg hw hp_))
                                  subst hji30
                                  go_roundg k2
                                  case measure => have := HJ3.out; have := HK2.out; omega
                                  case rel => exact ⟨(y230), (y226), (y228), (wrap64 (x11_2 + 1)), (by first | rfl | (simp; done) | (simp [*]; done)), H', ⟨by have := HJ3.out; have := HK2.out; omega⟩, ⟨by (with_reducible repeat (first | apply Kd.R_alloc | apply Kd.R_drewN | apply Kd.R_drew)); exact HO_8.out⟩, ⟨by (with_reducible repeat (first | apply Kd.R_alloc | apply Kd.R_drewN | apply Kd.R_drew)); exact Kd.R_mono HO_9.out (fun _ hk => hk.2)⟩, ⟨by (with_reducible repeat (first | apply Kd.R_alloc | apply Kd.R_drewN | apply Kd.R_drew)); exact HO_10.out⟩, ⟨by repeat (first | (with_reducible first | exact HB.out | apply below_alloc | apply pw_below_drewN | apply below_drew1) | exact HB.out)⟩⟩
                                · rw [if_neg c28] at H
                                  exact absurd H (by simp)
                              · rw [if_neg c27] at H
                                have c27b0 : ((rd y224 x11_2) == 0) = false := beq_eq_false_iff_ne.mpr c27
                                have c27b1 : ((rd y224 x11_2) != 0) = true := bne_iff_ne.mpr c27
                                have H' := Aside0.mk H
                                clear H
                                have p223 : 0 ≤ (x11_2 : Int) := of_decide_eq_true (by first | (with_reducible assumption) | assumption)
                                have q223 : x11_2 < (l0.length : Int) := of_decide_eq_true (by first | (with_reducible assumption) | assumption)
                                obtain ⟨ad223, e223, hx223_0⟩ := Kd.at_int HR0.out x11_2 p223 q223
                                cases e223
                                replace hx223_0 := (HB.out.cell (World.block_lt_of_cell? w _ hx223_0)).trans hx223_0
                                replace p223 := eq_true p223
                                replace q223 := eq_true q223
                                have p24 : 0 ≤ (x11_2 : Int) := of_decide_eq_true (by first | (with_reducible assumption) | assumption)
                                have q24 : (x11_2 : Int) < ((x8_2.length : Int) : Int) := of_decide_eq_true (by first | (with_reducible assumption) | assumption)
                                obtain ⟨go24, co24, eo24, gb24, gl24, cl24, HG24⟩ := Kd.R_form HO_8.out (by omega)
                                (first | cases eo24 | (injection eo24 with ea_ en_ ec_; (first | subst ea_ | (injection ea_ with ea_; subst ea_)); subst ec_; clear en_))
                                have GB24 := Aside0.mk gb24
                                have GG24 := Aside0.mk HG24
                                clear gb24 gl24 HG24
                                obtain ⟨hx24_0, hf24_0⟩ := Kd.R_celln 0 HO_8.out (x11_2 : Int) p24 q24
                                replace p24 := eq_true p24
                                replace q24 := eq_true q24
                                have HP40 := Kd.R_putg HO_8.out (x11_2 : Int) (wrap64 (Int.tdiv (wrap64 ((rd l0 x11_2) * t212)) t211))
                                go_wp2_with (first | ((with_reducible refine gate_store (t := 3) (p := 48) rfl ?_); refine store_event (t := 3) (p := 48) (v := ?vo_w41) (w1 := (wr.setCell ⟨go24, (x11_2 : Int).toNat, none⟩ (.int .i64 (wrap64 (Int.tdiv (wrap64 ((rd l0 x11_2) * t212)) t211))))) ?hg ?ho ?hn ?hr ?_; (case ho => rfl); (case hg => rfl); (case hn => rfl); (case hr => first | (go_simp; done) | (go_simp; rfl)); intro w41 hw; have hg : wr.grownBy w41 (some go24) := (by rw [hw]; exact HP40.2); have hp_ : Kd.R (Kd.int .i64) 3 w41 w.heap.size (fun k_ => some k_ ≠ (v218 : Value).ownBlock) (.slice (some ⟨go24, 0, none⟩) x8_2.length co24) y224 := (by rw [hw, Ny224.out]; exact HP40.1); clear HP40; have n0_ := Aside0.mk (hp_); have n1_ := Aside0.mk (Kd.R_after (v := (.slice (some ⟨go24, 0, none⟩) x8_2.length co24)) (v1 := (.slice (some ⟨go24, 0, none⟩) x8_2.length co24)) (ok := (fun _ => True)) (by (with_reducible repeat (first | apply Kd.R_alloc | apply Kd.R_drewN | apply Kd.R_drew)); exact Kd.R_mono HO_9.out (fun _ hk => ⟨trivial, hk⟩)) hg (.inl rfl)); have n2_ := Aside0.mk (Kd.R_over' (v := (.slice (some ⟨go24, 0, none⟩) x8_2.length co24)) (by (with_reducible repeat (first | apply Kd.R_alloc | apply Kd.R_drewN | apply Kd.R_drew)); exact HO_10.out) (Kd.R_typed HO_8.out) (by decide) hg); have n3_ := Aside0.mk ((by rw [hw]; exact below_set (HB.out) GB24.out : Below w.heap.size w w41)); clear HO_8; clear HO_9; clear HO_10; clear HB; have HO_8 := n0_; have HO_9 := n1_; have HO_10 := n2_; have HB := n3_; clear n0_ n1_ n2_ n3_; clear hg hw hp_; have p225 : 0 ≤ (x11_2 : Int) := of_decide_eq_true (by first | (with_reducible assumption) | assumption); have q225 : x11_2 < (l0.length : Int) := of_decide_eq_true (by first | (with_reducible assumption) | assumption); obtain ⟨ad225, e225, hx225_0⟩ := Kd.at_int HR0.out x11_2 p225 q225; obtain rfl : ad223 = ad225 := (by injection e225); replace hx225_0 := (HB.out.cell (World.block_lt_of_cell? w _ hx225_0)).trans hx225_0; replace p225 := eq_true p225; replace q225 := eq_true q225; have p26 : 0 ≤ (x11_2 : Int) := of_decide_eq_true (by first | (with_reducible assumption) | assumption); have q26 : (x11_2 : Int) < ((x9_2.length : Int) : Int) := of_decide_eq_true (by first | (with_reducible assumption) | assumption); obtain ⟨go26, co26, eo26, gb26, gl26, cl26, HG26⟩ := Kd.R_form HO_9.out (by omega); (first | cases eo26 | (injection eo26 with ea_ en_ ec_; (first | subst ea_ | (injection ea_ with ea_; subst ea_)); subst ec_; clear en_)); have GB26 := Aside0.mk gb26; have GG26 := Aside0.mk HG26; clear gb26 gl26 HG26; obtain ⟨hx26_0, hf26_0⟩ := Kd.R_celln 0 HO_9.out (x11_2 : Int) p26 q26; replace p26 := eq_true p26; replace q26 := eq_true q26; have n_ := Aside0.mk (Kd.R_mono (ok' := (fun k_ => some k_ ≠ (.slice (some ⟨go24, 0, none⟩) x8_2.length co24 : Value).ownBlock)) HO_9.out (fun k_ hk => hk.2)); clear HO_9; have HO_9 := n_; clear n_; obtain ⟨hy42_, hz42_⟩ := Kd.R_celln 0 HO_9.out (x11_2 : Int) (of_decide_eq_true (by first | (with_reducible assumption) | assumption)) (of_decide_eq_true (by first | (with_reducible assumption) | assumption)); have HP42 := Kd.R_putg HO_9.out (x11_2 : Int) (Int.tmod (wrap64 ((rd l0 x11_2) * t212)) t211)) | ((with_reducible refine gate_store (t := 3) (p := 59) rfl ?_); refine store_event (t := 3) (p := 59) (v := ?vo_w43) (w1 := (w41.setCell ⟨go26, (x11_2 : Int).toNat, none⟩ (.int .i64 (Int.tmod (wrap64 ((rd l0 x11_2) * t212)) t211)))) ?hg ?ho ?hn ?hr ?_; (case ho => rfl); (case hg => rfl); (case hn => rfl); (case hr => first | (go_simp; done) | (go_simp; rfl)); intro w43 hw; have hg : w41.grownBy w43 (some go26) := (by rw [hw]; exact HP42.2); have hp_ : Kd.R (Kd.int .i64) 3 w43 w.heap.size (fun k_ => some k_ ≠ (.slice (some ⟨go24, 0, none⟩) x8_2.length co24 : Value).ownBlock) (.slice (some ⟨go26, 0, none⟩) x9_2.length co26) y226 := (by rw [hw, Ny226.out]; exact HP42.1); clear HP42; have n0_ := Aside0.mk (Kd.R_after (v := (.slice (some ⟨go26, 0, none⟩) x9_2.length co26)) (v1 := (.slice (some ⟨go26, 0, none⟩) x9_2.length co26)) (ok := (fun _ => True)) (by (with_reducible repeat (first | apply Kd.R_alloc | apply Kd.R_drewN | apply Kd.R_drew)); exact Kd.R_mono HO_8.out (fun _ hk => ⟨trivial, hk⟩)) hg (.inl rfl)); have n1_ := Aside0.mk (hp_); have n2_ := Aside0.mk (Kd.R_over' (v := (.slice (some ⟨go26, 0, none⟩) x9_2.length co26)) (by (with_reducible repeat (first | apply Kd.R_alloc | apply Kd.R_drewN | apply Kd.R_drew)); exact HO_10.out) (Kd.R_typed HO_9.out) (by decide) hg); have n3_ := Aside0.mk ((by rw [hw]; exact below_set (HB.out) GB26.out : Below w.heap.size w w43)); clear HO_8; clear HO_9; clear HO_10; clear HB; have HO_8 := n0_; have HO_9 := n1_; have HO_10 := n2_; have HB := n3_; clear n0_ n1_ n2_ n3_; clear hg hw hp_; have p227 : 0 ≤ (x11_2 : Int) := of_decide_eq_true (by first | (with_reducible assumption) | assumption); have q227 : x11_2 < (y224.length : Int) := (by have h_ : (x11_2 : Int) < ((x8_2.length : Int) : Int) := of_decide_eq_true (by first | (with_reducible assumption) | assumption); first | (have e_ := (Kd.R_reads' HO_8.out).1; omega) | simpa only [Ny224.out, List.length_set] using h_); have ql227 : ((x11_2 : Int) < ((x8_2.length : Int) : Int)) = True := eq_true (of_decide_eq_true (by first | (with_reducible assumption) | assumption)); obtain ⟨ad227, e227, hx227_0⟩ := Kd.at_int (Kd.R_reads' HO_8.out).2.2 x11_2 p227 q227; obtain rfl : (⟨go24, 0, none⟩ : Addr) = ad227 := (by injection e227); (first | simp only [add_plain] at hx227_0 | simp only [add_at] at hx227_0 | simp only [Addr.add, Nat.zero_add] at hx227_0 | skip); replace p227 := eq_true p227; replace q227 := eq_true q227))
                                go_roundg k2
                                case measure => have := HJ3.out; have := HK2.out; omega
                                case rel => exact ⟨(y224), (y226), (x10_2), (wrap64 (x11_2 + 1)), (by first | rfl | (simp; done) | (simp [*]; done)), H', ⟨by have := HJ3.out; have := HK2.out; omega⟩, ⟨by (with_reducible repeat (first | apply Kd.R_alloc | apply Kd.R_drewN | apply Kd.R_drew)); exact Kd.R_mono HO_8.out (fun _ hk => hk.2)⟩, ⟨by (with_reducible repeat (first | apply Kd.R_alloc | apply Kd.R_drewN | apply Kd.R_drew)); exact HO_9.out⟩, ⟨by (with_reducible repeat (first | apply Kd.R_alloc | apply Kd.R_drewN | apply Kd.R_drew)); exact HO_10.out⟩, ⟨by repeat (first | (with_reducible first | exact HB.out | apply below_alloc | apply pw_below_drewN | apply below_drew1) | exact HB.out)⟩⟩
                            · rw [if_neg c25] at H
                              exact absurd H (by simp)
                          · rw [if_neg c23] at H
                            exact absurd H (by simp)
                      · rw [if_neg c21] at H
                        exact absurd H (by simp)
                    · rw [if_neg c20] at H
                      exact absurd H (by simp)
                  · rw [if_neg c19] at H
                    have c19b0 : decide (x11_2 < 256) = false := decide_eq_false c19
                    clear c19
                    have H' := Aside0.mk H
                    clear H
                    go_wp2
                    go_loopg [] k2 (fun kq w' => ∃ (x8_3 : List Int) (x10_3 : List Bool), Aside0 (puncheonref08_Counts.l1 kq l0 t212 x8_3 x9_2 x10_3 = some (r1, r2)) ∧ Aside0 (kq ≤ k2) ∧ Aside0 (Kd.R (Kd.int .i64) 3 w' w.heap.size (fun k_ => some k_ ≠ (v218 : Value).ownBlock) v215 x8_3) ∧ Aside0 (Kd.R (Kd.int .i64) 3 w' w.heap.size (fun k_ => some k_ ≠ (v215 : Value).ownBlock) v218 x9_2) ∧ Aside0 (Kd.R Kd.bool 4 w' w.heap.size (fun _ => True) v221 x10_3) ∧ Aside0 (Below w.heap.size w w'))
                    case atStart => exact ⟨(x8_2), (x10_2), H', ⟨Nat.le_refl _⟩, ⟨by (with_reducible repeat (first | apply Kd.R_alloc | apply Kd.R_drewN | apply Kd.R_drew)); exact HO_8.out⟩, ⟨by (with_reducible repeat (first | apply Kd.R_alloc | apply Kd.R_drewN | apply Kd.R_drew)); exact HO_9.out⟩, ⟨by (with_reducible repeat (first | apply Kd.R_alloc | apply Kd.R_drewN | apply Kd.R_drew)); exact HO_10.out⟩, ⟨by repeat (first | (with_reducible first | exact HB.out | apply below_alloc | apply pw_below_drewN | apply below_drew1) | exact HB.out)⟩⟩
                    case round =>
                      clear H'
                      try clear c1
                      try clear c2
                      try clear p2
                      try clear q2
                      try clear hx2
                      try clear hf2
                      try clear c3
                      try clear p3
                      try clear q3
                      try clear hx3
                      try clear hf3
                      try clear c4
                      try clear c5
                      try clear c5b0
                      try clear c5b1
                      try clear c6
                      try clear c6b0
                      try clear p6
                      try clear c7
                      try clear c10
                      try clear c10b0
                      try clear c11
                      try clear c11b0
                      try clear c11b1
                      try clear c12
                      try clear c12b0
                      try clear c12b1
                      try clear c19
                      try clear c19b0
                      try clear c20
                      try clear c20b0
                      try clear c21
                      try clear c21b0
                      try clear c22
                      try clear c22b0
                      try clear c22b1
                      try clear p22
                      try clear q22
                      try clear hx22
                      try clear c23
                      try clear c23b0
                      try clear p24
                      try clear q24
                      try clear hx24
                      try clear hf24
                      try clear c25
                      try clear c25b0
                      try clear p26
                      try clear q26
                      try clear hx26
                      try clear hf26
                      try clear c27
                      try clear c27b0
                      try clear c27b1
                      try clear c28
                      try clear c28b0
                      try clear p29
                      try clear q29
                      try clear hx29
                      try clear hf29
                      try clear p31
                      try clear q31
                      try clear hx31
                      try clear hf31
                      try clear c39
                      try clear c40
                      try clear hx223_0
                      try clear hx225_0
                      try clear hx227_0
                      try clear hx229_0
                      try clear hx24_0
                      try clear hx26_0
                      try clear hx29_0
                      try clear hx31_0
                      try clear p2
                      try clear p223
                      try clear p225
                      try clear p227
                      try clear p229
                      try clear p24
                      try clear p26
                      try clear p29
                      try clear p31
                      try clear q223
                      try clear q225
                      try clear q227
                      try clear q229
                      try clear q24
                      try clear q26
                      try clear q29
                      try clear q31
                      obtain ⟨x8_3, x10_3, HA, HK3, HO_8, HO_9, HO_10, HB⟩ := hrel
                      cases gk with
                      | zero => exact absurd HA.out (by simp [puncheonref08_Counts.l1])
                      | succ k3 =>
                        have H := HA.out
                        clear HA
                        simp only [puncheonref08_Counts.l1] at H
                        replace H := Option.bind_eq_some_iff.mp H
                        obtain ⟨t231, A440, H⟩ := H
                        replace H : (if t231 < t212 then ((puncheonref08_neediest.f k3 x9_2 x10_3).bind fun t232 => (if 0 ≤ t232 then (if t232 < (x10_3.length : Int) then (if t232 < (x8_3.length : Int) then (puncheonref08_Counts.l1 k3 l0 t212 (x8_3.set (t232 : Int).toNat (wrap64 ((rd x8_3 t232) + 1))) x9_2 (x10_3.set (t232 : Int).toNat true)) else (none)) else (none)) else (none))) else (puncheonref08_Counts.l2 k3 l0 t212 x8_3)) = some (r1, r2) := H
                        have A44 := Aside0.mk A440
                        clear A440
                        by_cases c45 : t231 < t212
                        · rw [if_pos c45] at H
                          have c45b0 : decide (t231 < t212) = true := decide_eq_true c45
                          clear c45
                          replace H := Option.bind_eq_some_iff.mp H
                          obtain ⟨t232, A460, H⟩ := H
                          replace H : (if 0 ≤ t232 then (if t232 < (x10_3.length : Int) then (if t232 < (x8_3.length : Int) then (puncheonref08_Counts.l1 k3 l0 t212 (x8_3.set (t232 : Int).toNat (wrap64 ((rd x8_3 t232) + 1))) x9_2 (x10_3.set (t232 : Int).toNat true)) else (none)) else (none)) else (none)) = some (r1, r2) := H
                          have A46 := Aside0.mk A460
                          clear A460
                          by_cases c47 : 0 ≤ t232
                          · rw [if_pos c47] at H
                            have c47b0 : decide (0 ≤ t232) = true := decide_eq_true c47
                            clear c47
                            by_cases c48 : t232 < (x10_3.length : Int)
                            · rw [if_pos c48] at H
                              have c48b0 : decide (t232 < (x10_3.length : Int)) = true := decide_eq_true c48
                              clear c48
                              obtain ⟨y233, hy233⟩ : ∃ y_ : List Bool, y_ = (x10_3.set (t232 : Int).toNat true) := ⟨_, rfl⟩
                              replace H : (if t232 < (x8_3.length : Int) then (puncheonref08_Counts.l1 k3 l0 t212 (x8_3.set (t232 : Int).toNat (wrap64 ((rd x8_3 t232) + 1))) x9_2 y233) else (none)) = some (r1, r2) := by first | (rw [hy233]; with_reducible exact H) | (have H2_ := (Option.bind_some _ _).symm.trans H; rw [hy233]; with_reducible exact H2_) | (have H2_ := (Option.bind_some _ _).symm.trans H; with_reducible exact H2_) | with_reducible exact H | (rw [hy233]; exact H) | exact H
                              have Ny233 := Aside0.mk hy233
                              clear hy233
                              by_cases c50 : t232 < (x8_3.length : Int)
                              · rw [if_pos c50] at H
                                have c50b0 : decide (t232 < (x8_3.length : Int)) = true := decide_eq_true c50
                                clear c50
                                obtain ⟨y235, hy235⟩ : ∃ y_ : List Int, y_ = (x8_3.set (t232 : Int).toNat (wrap64 ((rd x8_3 t232) + 1))) := ⟨_, rfl⟩
                                replace H : (puncheonref08_Counts.l1 k3 l0 t212 y235 x9_2 y233) = some (r1, r2) := by first | (rw [hy235]; with_reducible exact H) | (have H2_ := (Option.bind_some _ _).symm.trans H; rw [hy235]; with_reducible exact H2_) | (have H2_ := (Option.bind_some _ _).symm.trans H; with_reducible exact H2_) | with_reducible exact H | (rw [hy235]; exact H) | exact H
                                have Ny235 := Aside0.mk hy235
                                clear hy235
                                have H' := Aside0.mk H
                                clear H
                                obtain ⟨Ao52, co52, eo52⟩ := Kd.R_slice HO_8.out
                                subst eo52
                                go_wp2_with (first | ((with_reducible refine gate_callee (f := 59) rfl ?_); refine goesL_ (some 77) rfl rfl Try.func59 (by kernel_rfl) rfl #[.slice Ao52 x8_3.length co52] rfl (by (try simp only [List.map_toArray, List.map_cons, List.map_nil]); first | done | rfl | (simp only [List.length_drop, List.length_take]; rfl)) ?_; (with_reducible refine (puncheonref08_sum.calls k3 _ _ x8_3 t231 _ ?side1 ?side2 A44.out).mono ?_); (case side1 => repeat (first | exact (Kd.R_reads' HO_8.out).2.2 | (with_reducible refine Kd.C_alloc ?_ _) | (with_reducible refine Kd.C_drewN ?_ _) | (with_reducible refine Kd.C_drew ?_))); (case side2 => exact (Kd.R_reads' HO_8.out).2.1); rintro e w' ⟨rfl, ⟨nd, rfl⟩⟩; refine ⟨_, rfl, ?_⟩; (try (rw [drewN_self wr]; generalize hq_ : World.drewN wr _ = wr; have n0_ : Aside0 (Kd.R Kd.bool 4 wr w.heap.size (fun _ => True) v221 x10_3) := ⟨by rw [← hq_]; exact (by (with_reducible repeat (first | apply Kd.R_alloc | apply Kd.R_drewN | apply Kd.R_drew)); exact HO_10.out)⟩; have n1_ : Aside0 (Kd.R (Kd.int .i64) 3 wr w.heap.size (fun k_ => some k_ ≠ (v218 : Value).ownBlock) (.slice Ao52 x8_3.length co52) x8_3) := ⟨by rw [← hq_]; exact (by (with_reducible repeat (first | apply Kd.R_alloc | apply Kd.R_drewN | apply Kd.R_drew)); exact HO_8.out)⟩; have n2_ : Aside0 (Kd.R (Kd.int .i64) 3 wr w.heap.size (fun k_ => some k_ ≠ (.slice Ao52 x8_3.length co52 : Value).ownBlock) v218 x9_2) := ⟨by rw [← hq_]; exact (by (with_reducible repeat (first | apply Kd.R_alloc | apply Kd.R_drewN | apply Kd.R_drew)); exact HO_9.out)⟩; have n3_ : Aside0 (Below w.heap.size w wr) := ⟨by rw [← hq_]; exact (by repeat (first | (with_reducible first | exact HB.out | apply below_alloc | apply pw_below_drewN | apply below_drew1) | exact HB.out))⟩; clear HO_10 HO_8 HO_9 HB hq_; have HO_10 := n0_; have HO_8 := n1_; have HO_9 := n2_; have HB := n3_; clear n0_ n1_ n2_ n3_)); obtain ⟨Ao53, co53, eo53⟩ := Kd.R_slice HO_9.out; subst eo53; obtain ⟨Ao54, co54, eo54⟩ := Kd.R_slice HO_10.out; subst eo54) | ((with_reducible refine gate_callee (f := 60) rfl ?_); refine goesL_ (some 82) rfl rfl Try.func60 (by kernel_rfl) rfl #[.slice Ao53 x9_2.length co53, .slice Ao54 x10_3.length co54] rfl (by (try simp only [List.map_toArray, List.map_cons, List.map_nil]); first | done | rfl | (simp only [List.length_drop, List.length_take]; rfl)) ?_; (with_reducible refine (puncheonref08_neediest.calls k3 _ _ x9_2 _ _ x10_3 t232 _ ?side1 ?side2 ?side3 ?side4 A46.out).mono ?_); (case side1 => repeat (first | exact (Kd.R_reads' HO_9.out).2.2 | (with_reducible refine Kd.C_alloc ?_ _) | (with_reducible refine Kd.C_drewN ?_ _) | (with_reducible refine Kd.C_drew ?_))); (case side2 => exact (Kd.R_reads' HO_9.out).2.1); (case side3 => repeat (first | exact (Kd.R_reads' HO_10.out).2.2 | (with_reducible refine Kd.C_alloc ?_ _) | (with_reducible refine Kd.C_drewN ?_ _) | (with_reducible refine Kd.C_drew ?_))); (case side4 => exact (Kd.R_reads' HO_10.out).2.1); rintro e w' ⟨rfl, ⟨nd, rfl⟩⟩; refine ⟨_, rfl, ?_⟩; (try (rw [drewN_self wr]; generalize hq_ : World.drewN wr _ = wr; have n0_ : Aside0 (Kd.R Kd.bool 4 wr w.heap.size (fun _ => True) (.slice Ao54 x10_3.length co54) x10_3) := ⟨by rw [← hq_]; exact (by (with_reducible repeat (first | apply Kd.R_alloc | apply Kd.R_drewN | apply Kd.R_drew)); exact HO_10.out)⟩; have n1_ : Aside0 (Kd.R (Kd.int .i64) 3 wr w.heap.size (fun k_ => some k_ ≠ (.slice Ao53 x9_2.length co53 : Value).ownBlock) (.slice Ao52 x8_3.length co52) x8_3) := ⟨by rw [← hq_]; exact (by (with_reducible repeat (first | apply Kd.R_alloc | apply Kd.R_drewN | apply Kd.R_drew)); exact HO_8.out)⟩; have n2_ : Aside0 (Kd.R (Kd.int .i64) 3 wr w.heap.size (fun k_ => some k_ ≠ (.slice Ao52 x8_3.length co52 : Value).ownBlock) (.slice Ao53 x9_2.length co53) x9_2) := ⟨by rw [← hq_]; exact (by (with_reducible repeat (first | apply Kd.R_alloc | apply Kd.R_drewN | apply Kd.R_drew)); exact HO_9.out)⟩; have n3_ : Aside0 (Below w.heap.size w wr) := ⟨by rw [← hq_]; exact (by repeat (first | (with_reducible first | exact HB.out | apply below_alloc | apply pw_below_drewN | apply below_drew1) | exact HB.out))⟩; clear HO_10 HO_8 HO_9 HB hq_; have HO_10 := n0_; have HO_8 := n1_; have HO_9 := n2_; have HB := n3_; clear n0_ n1_ n2_ n3_)); have p49 : 0 ≤ (t232 : Int) := of_decide_eq_true (by first | (with_reducible assumption) | assumption); have q49 : (t232 : Int) < ((x10_3.length : Int) : Int) := of_decide_eq_true (by first | (with_reducible assumption) | assumption); obtain ⟨go49, co49, eo49, gb49, gl49, cl49, HG49⟩ := Kd.R_form HO_10.out (by omega); (first | cases eo49 | (injection eo49 with ea_ en_ ec_; (first | subst ea_ | (injection ea_ with ea_; subst ea_)); subst ec_; clear en_)); have GB49 := Aside0.mk gb49; have GG49 := Aside0.mk HG49; clear gb49 gl49 HG49; obtain ⟨hx49_0, hf49_0⟩ := Kd.R_celln false HO_10.out (t232 : Int) p49 q49; replace p49 := eq_true p49; replace q49 := eq_true q49; obtain ⟨hy55_, hz55_⟩ := Kd.R_celln false HO_10.out (t232 : Int) (of_decide_eq_true (by first | (with_reducible assumption) | assumption)) (of_decide_eq_true (by first | (with_reducible assumption) | assumption)); have HP55 := Kd.R_putg HO_10.out (t232 : Int) true) | ((with_reducible refine gate_store (t := 4) (p := 85) rfl ?_); refine store_event (t := 4) (p := 85) (v := ?vo_w56) (w1 := (wr.setCell ⟨go49, (t232 : Int).toNat, none⟩ (.bool true))) ?hg ?ho ?hn ?hr ?_; (case ho => rfl); (case hg => rfl); (case hn => rfl); (case hr => first | (go_simp; done) | (go_simp; rfl)); intro w56 hw; have hg : wr.grownBy w56 (some go49) := (by rw [hw]; exact HP55.2); have hp_ : Kd.R Kd.bool 4 w56 w.heap.size (fun _ => True) (.slice (some ⟨go49, 0, none⟩) x10_3.length co54) y233 := (by rw [hw, Ny233.out]; exact HP55.1); clear HP55; have n0_ := Aside0.mk (Kd.R_over' (v := (.slice (some ⟨go49, 0, none⟩) x10_3.length co54)) (by (with_reducible repeat (first | apply Kd.R_alloc | apply Kd.R_drewN | apply Kd.R_drew)); exact HO_8.out) (Kd.R_typed HO_10.out) (by decide) hg); have n1_ := Aside0.mk (Kd.R_over' (v := (.slice (some ⟨go49, 0, none⟩) x10_3.length co54)) (by (with_reducible repeat (first | apply Kd.R_alloc | apply Kd.R_drewN | apply Kd.R_drew)); exact HO_9.out) (Kd.R_typed HO_10.out) (by decide) hg); have n2_ := Aside0.mk (hp_); have n3_ := Aside0.mk ((by rw [hw]; exact below_set (HB.out) GB49.out : Below w.heap.size w w56)); clear HO_8; clear HO_9; clear HO_10; clear HB; have HO_8 := n0_; have HO_9 := n1_; have HO_10 := n2_; have HB := n3_; clear n0_ n1_ n2_ n3_; clear hg hw hp_; have p234 : 0 ≤ (t232 : Int) := of_decide_eq_true (by first | (with_reducible assumption) | assumption); have q234 : t232 < (x8_3.length : Int) := of_decide_eq_true (by first | (with_reducible assumption) | assumption); obtain ⟨ad234, e234, hx234_0⟩ := Kd.at_int (Kd.R_reads' HO_8.out).2.2 t232 p234 q234; cases e234; replace p234 := eq_true p234; replace q234 := eq_true q234; have p51 : 0 ≤ (t232 : Int) := of_decide_eq_true (by first | (with_reducible assumption) | assumption); have q51 : (t232 : Int) < ((x8_3.length : Int) : Int) := of_decide_eq_true (by first | (with_reducible assumption) | assumption); obtain ⟨go51, co51, eo51, gb51, gl51, cl51, HG51⟩ := Kd.R_form HO_8.out (by omega); (first | cases eo51 | (injection eo51 with ea_ en_ ec_; (first | subst ea_ | (injection ea_ with ea_; subst ea_)); subst ec_; clear en_)); have GB51 := Aside0.mk gb51; have GG51 := Aside0.mk HG51; clear gb51 gl51 HG51; (first | simp only [add_plain] at hx234_0 | skip); obtain ⟨hx51_0, hf51_0⟩ := Kd.R_celln 0 HO_8.out (t232 : Int) p51 q51; replace p51 := eq_true p51; replace q51 := eq_true q51; obtain ⟨hy57_, hz57_⟩ := Kd.R_celln 0 HO_8.out (t232 : Int) (of_decide_eq_true (by first | (with_reducible assumption) | assumption)) (of_decide_eq_true (by first | (with_reducible assumption) | assumption)); have HP57 := Kd.R_putg HO_8.out (t232 : Int) (wrap64 ((rd x8_3 t232) + 1))) | ((with_reducible refine gate_store (t := 3) (p := 91) rfl ?_); refine store_event (t := 3) (p := 91) (v := ?vo_w58) (w1 := (w56.setCell ⟨go51, (t232 : Int).toNat, none⟩ (.int .i64 (wrap64 ((rd x8_3 t232) + 1))))) ?hg ?ho ?hn ?hr ?_; (case ho => rfl); (case hg => rfl); (case hn => rfl); (case hr => first | (go_simp; done) | (go_simp; rfl)); intro w58 hw; have hg : w56.grownBy w58 (some go51) := (by rw [hw]; exact HP57.2); have hp_ : Kd.R (Kd.int .i64) 3 w58 w.heap.size (fun k_ => some k_ ≠ (.slice Ao53 x9_2.length co53 : Value).ownBlock) (.slice (some ⟨go51, 0, none⟩) x8_3.length co52) y235 := (by rw [hw, Ny235.out]; exact HP57.1); clear HP57; have n0_ := Aside0.mk (hp_); have n1_ := Aside0.mk (Kd.R_after (v := (.slice (some ⟨go51, 0, none⟩) x8_3.length co52)) (v1 := (.slice (some ⟨go51, 0, none⟩) x8_3.length co52)) (ok := (fun _ => True)) (by (with_reducible repeat (first | apply Kd.R_alloc | apply Kd.R_drewN | apply Kd.R_drew)); exact Kd.R_mono HO_9.out (fun _ hk => ⟨trivial, hk⟩)) hg (.inl rfl)); have n2_ := Aside0.mk (Kd.R_over' (v := (.slice (some ⟨go51, 0, none⟩) x8_3.length co52)) (by (with_reducible repeat (first | apply Kd.R_alloc | apply Kd.R_drewN | apply Kd.R_drew)); exact HO_10.out) (Kd.R_typed HO_8.out) (by decide) hg); have n3_ := Aside0.mk ((by rw [hw]; exact below_set (HB.out) GB51.out : Below w.heap.size w w58)); clear HO_8; clear HO_9; clear HO_10; clear HB; have HO_8 := n0_; have HO_9 := n1_; have HO_10 := n2_; have HB := n3_; clear n0_ n1_ n2_ n3_; clear hg hw hp_))
                                go_roundg k3
                                case measure => have := HJ3.out; have := HK2.out; have := HK3.out; omega
                                case rel => exact ⟨(y235), (y233), H', ⟨by have := HJ3.out; have := HK2.out; have := HK3.out; omega⟩, ⟨by (with_reducible repeat (first | apply Kd.R_alloc | apply Kd.R_drewN | apply Kd.R_drew)); exact HO_8.out⟩, ⟨by (with_reducible repeat (first | apply Kd.R_alloc | apply Kd.R_drewN | apply Kd.R_drew)); exact Kd.R_mono HO_9.out (fun _ hk => hk.2)⟩, ⟨by (with_reducible repeat (first | apply Kd.R_alloc | apply Kd.R_drewN | apply Kd.R_drew)); exact HO_10.out⟩, ⟨by repeat (first | (with_reducible first | exact HB.out | apply below_alloc | apply pw_below_drewN | apply below_drew1) | exact HB.out)⟩⟩
                              · rw [if_neg c50] at H
                                exact absurd H (by simp)
                            · rw [if_neg c48] at H
                              exact absurd H (by simp)
                          · rw [if_neg c47] at H
                            exact absurd H (by simp)
                        · rw [if_neg c45] at H
                          have c45b0 : decide (t231 < t212) = false := decide_eq_false c45
                          clear c45
                          have H' := Aside0.mk H
                          clear H
                          obtain ⟨Ao59, co59, eo59⟩ := Kd.R_slice HO_8.out
                          subst eo59
                          go_wp2_with (first | ((with_reducible refine gate_callee (f := 59) rfl ?_); refine goesL_ (some 77) rfl rfl Try.func59 (by kernel_rfl) rfl #[.slice Ao59 x8_3.length co59] rfl (by (try simp only [List.map_toArray, List.map_cons, List.map_nil]); first | done | rfl | (simp only [List.length_drop, List.length_take]; rfl)) ?_; (with_reducible refine (puncheonref08_sum.calls k3 _ _ x8_3 t231 _ ?side1 ?side2 A44.out).mono ?_); (case side1 => repeat (first | exact (Kd.R_reads' HO_8.out).2.2 | (with_reducible refine Kd.C_alloc ?_ _) | (with_reducible refine Kd.C_drewN ?_ _) | (with_reducible refine Kd.C_drew ?_))); (case side2 => exact (Kd.R_reads' HO_8.out).2.1); rintro e w' ⟨rfl, ⟨nd, rfl⟩⟩; refine ⟨_, rfl, ?_⟩))
                          go_loopg [] k3 (fun kq w' => ∃ (x8_4 : List Int), Aside0 (puncheonref08_Counts.l2 kq l0 t212 x8_4 = some (r1, r2)) ∧ Aside0 (kq ≤ k3) ∧ Aside0 (Kd.R (Kd.int .i64) 3 w' w.heap.size (fun _ => True) (.slice Ao59 x8_3.length co59) x8_4) ∧ Aside0 (Below w.heap.size w w'))
                          case atStart => exact ⟨(x8_3), H', ⟨Nat.le_refl _⟩, ⟨by (with_reducible repeat (first | apply Kd.R_alloc | apply Kd.R_drewN | apply Kd.R_drew)); exact Kd.R_mono HO_8.out (fun _ hk => trivial)⟩, ⟨by repeat (first | (with_reducible first | exact HB.out | apply below_alloc | apply pw_below_drewN | apply below_drew1) | exact HB.out)⟩⟩
                          case round =>
                            clear H'
                            try clear c1
                            try clear c2
                            try clear p2
                            try clear q2
                            try clear hx2
                            try clear hf2
                            try clear c3
                            try clear p3
                            try clear q3
                            try clear hx3
                            try clear hf3
                            try clear c4
                            try clear p4
                            try clear q4
                            try clear hx4
                            try clear hf4
                            try clear c5
                            try clear c5b0
                            try clear c5b1
                            try clear p5
                            try clear q5
                            try clear hx5
                            try clear hf5
                            try clear c6
                            try clear c6b0
                            try clear p6
                            try clear c7
                            try clear c10
                            try clear c10b0
                            try clear c11
                            try clear c11b0
                            try clear c11b1
                            try clear c12
                            try clear c12b0
                            try clear c12b1
                            try clear c19
                            try clear c19b0
                            try clear c20
                            try clear c20b0
                            try clear c21
                            try clear c21b0
                            try clear c22
                            try clear c22b0
                            try clear c22b1
                            try clear p22
                            try clear q22
                            try clear hx22
                            try clear c23
                            try clear c23b0
                            try clear p23
                            try clear q23
                            try clear hx23
                            try clear p24
                            try clear q24
                            try clear hx24
                            try clear hf24
                            try clear c25
                            try clear c25b0
                            try clear p26
                            try clear q26
                            try clear hx26
                            try clear hf26
                            try clear c27
                            try clear c27b0
                            try clear c27b1
                            try clear c28
                            try clear c28b0
                            try clear p29
                            try clear q29
                            try clear hx29
                            try clear hf29
                            try clear p31
                            try clear q31
                            try clear hx31
                            try clear hf31
                            try clear c39
                            try clear c40
                            try clear c45
                            try clear c45b0
                            try clear c47
                            try clear c47b0
                            try clear c48
                            try clear c48b0
                            try clear c49
                            try clear p49
                            try clear q49
                            try clear hx49
                            try clear hf49
                            try clear c50
                            try clear c50b0
                            try clear p51
                            try clear q51
                            try clear hx51
                            try clear hf51
                            try clear c59
                            try clear hx223_0
                            try clear hx225_0
                            try clear hx227_0
                            try clear hx229_0
                            try clear hx234_0
                            try clear hx24_0
                            try clear hx26_0
                            try clear hx29_0
                            try clear hx31_0
                            try clear hx49_0
                            try clear hx51_0
                            try clear p2
                            try clear p22
                            try clear p223
                            try clear p225
                            try clear p227
                            try clear p229
                            try clear p234
                            try clear p24
                            try clear p26
                            try clear p29
                            try clear p3
                            try clear p31
                            try clear p49
                            try clear p51
                            try clear p6
                            try clear q2
                            try clear q22
                            try clear q223
                            try clear q225
                            try clear q227
                            try clear q229
                            try clear q234
                            try clear q24
                            try clear q26
                            try clear q29
                            try clear q3
                            try clear q31
                            try clear q49
                            try clear q51
                            obtain ⟨x8_4, HA, HK4, HO_8, HB⟩ := hrel
                            have hl8_4 := (Kd.R_reads' HO_8.out).1
                            rw [hl8_4] at HO_8
                            (try simp only [hl8_4])
                            cases gk with
                            | zero => exact absurd HA.out (by simp [puncheonref08_Counts.l2])
                            | succ k4 =>
                              have H := HA.out
                              clear HA
                              simp only [puncheonref08_Counts.l2] at H
                              replace H := Option.bind_eq_some_iff.mp H
                              obtain ⟨t236, A600, H⟩ := H
                              replace H : (if t236 > t212 then ((puncheonref08_richest.f k4 x8_4 l0).bind fun t237 => (if 0 ≤ t237 then (if t237 < (x8_4.length : Int) then (puncheonref08_Counts.l2 k4 l0 t212 (x8_4.set (t237 : Int).toNat (wrap64 ((rd x8_4 t237) - 1)))) else (none)) else (none))) else (some (x8_4, 0))) = some (r1, r2) := H
                              have A60 := Aside0.mk A600
                              clear A600
                              by_cases c61 : t236 > t212
                              · rw [if_pos c61] at H
                                have c61b0 : decide (t212 < t236) = true := decide_eq_true c61
                                clear c61
                                replace H := Option.bind_eq_some_iff.mp H
                                obtain ⟨t237, A620, H⟩ := H
                                replace H : (if 0 ≤ t237 then (if t237 < (x8_4.length : Int) then (puncheonref08_Counts.l2 k4 l0 t212 (x8_4.set (t237 : Int).toNat (wrap64 ((rd x8_4 t237) - 1)))) else (none)) else (none)) = some (r1, r2) := H
                                have A62 := Aside0.mk A620
                                clear A620
                                by_cases c63 : 0 ≤ t237
                                · rw [if_pos c63] at H
                                  have c63b0 : decide (0 ≤ t237) = true := decide_eq_true c63
                                  clear c63
                                  by_cases c64 : t237 < (x8_4.length : Int)
                                  · rw [if_pos c64] at H
                                    have c64b0 : decide (t237 < (x8_4.length : Int)) = true := decide_eq_true c64
                                    (try (have c64b0hl8_4 := c64b0; simp only [hl8_4] at c64b0hl8_4))
                                    clear c64
                                    obtain ⟨y239, hy239⟩ : ∃ y_ : List Int, y_ = (x8_4.set (t237 : Int).toNat (wrap64 ((rd x8_4 t237) - 1))) := ⟨_, rfl⟩
                                    replace H : (puncheonref08_Counts.l2 k4 l0 t212 y239) = some (r1, r2) := by first | (rw [hy239]; with_reducible exact H) | (have H2_ := (Option.bind_some _ _).symm.trans H; rw [hy239]; with_reducible exact H2_) | (have H2_ := (Option.bind_some _ _).symm.trans H; with_reducible exact H2_) | with_reducible exact H | (rw [hy239]; exact H) | exact H
                                    have Ny239 := Aside0.mk hy239
                                    clear hy239
                                    have H' := Aside0.mk H
                                    clear H
                                    go_wp2_with (first | ((with_reducible refine gate_callee (f := 59) rfl ?_); refine goesL_ (some 93) rfl rfl Try.func59 (by kernel_rfl) rfl #[.slice Ao59 x8_4.length co59] rfl (by (try simp only [List.map_toArray, List.map_cons, List.map_nil]); first | done | rfl | (simp only [List.length_drop, List.length_take]; rfl)) ?_; (with_reducible refine (puncheonref08_sum.calls k4 _ _ x8_4 t236 _ ?side1 ?side2 A60.out).mono ?_); (case side1 => repeat (first | exact (Kd.R_reads' HO_8.out).2.2 | (with_reducible refine Kd.C_alloc ?_ _) | (with_reducible refine Kd.C_drewN ?_ _) | (with_reducible refine Kd.C_drew ?_))); (case side2 => exact (Kd.R_reads' HO_8.out).2.1); rintro e w' ⟨rfl, ⟨nd, rfl⟩⟩; refine ⟨_, rfl, ?_⟩; (try (rw [drewN_self wr]; generalize hq_ : World.drewN wr _ = wr; have n0_ : Aside0 (Kd.R (Kd.int .i64) 3 wr w.heap.size (fun _ => True) (.slice Ao59 x8_4.length co59) x8_4) := ⟨by rw [← hq_]; exact (by (with_reducible repeat (first | apply Kd.R_alloc | apply Kd.R_drewN | apply Kd.R_drew)); exact HO_8.out)⟩; have n1_ : Aside0 (Below w.heap.size w wr) := ⟨by rw [← hq_]; exact (by repeat (first | (with_reducible first | exact HB.out | apply below_alloc | apply pw_below_drewN | apply below_drew1) | exact HB.out))⟩; clear HO_8 HB hq_; have HO_8 := n0_; have HB := n1_; clear n0_ n1_))) | ((with_reducible refine gate_callee (f := 61) rfl ?_); refine goesL_ (some 99) rfl rfl Try.func61 (by kernel_rfl) rfl #[.slice Ao59 x8_4.length co59, .slice A0 l0.length c0] rfl (by (try simp only [List.map_toArray, List.map_cons, List.map_nil]); first | done | rfl | (simp only [List.length_drop, List.length_take]; rfl)) ?_; (with_reducible refine (puncheonref08_richest.calls k4 _ _ x8_4 _ _ l0 t237 _ ?side1 ?side2 ?side3 ?side4 A62.out).mono ?_); (case side1 => repeat (first | exact (Kd.R_reads' HO_8.out).2.2 | (with_reducible refine Kd.C_alloc ?_ _) | (with_reducible refine Kd.C_drewN ?_ _) | (with_reducible refine Kd.C_drew ?_))); (case side2 => exact (Kd.R_reads' HO_8.out).2.1); (case side3 => repeat (first | exact (Kd.C_below HR0.out HB.out) | (with_reducible refine Kd.C_alloc ?_ _) | (with_reducible refine Kd.C_drewN ?_ _) | (with_reducible refine Kd.C_drew ?_))); (case side4 => exact HC0.out); rintro e w' ⟨rfl, ⟨nd, rfl⟩⟩; refine ⟨_, rfl, ?_⟩; (try (rw [drewN_self wr]; generalize hq_ : World.drewN wr _ = wr; have n0_ : Aside0 (Kd.R (Kd.int .i64) 3 wr w.heap.size (fun _ => True) (.slice Ao59 x8_4.length co59) x8_4) := ⟨by rw [← hq_]; exact (by (with_reducible repeat (first | apply Kd.R_alloc | apply Kd.R_drewN | apply Kd.R_drew)); exact HO_8.out)⟩; have n1_ : Aside0 (Below w.heap.size w wr) := ⟨by rw [← hq_]; exact (by repeat (first | (with_reducible first | exact HB.out | apply below_alloc | apply pw_below_drewN | apply below_drew1) | exact HB.out))⟩; clear HO_8 HB hq_; have HO_8 := n0_; have HB := n1_; clear n0_ n1_)); have p238 : 0 ≤ (t237 : Int) := of_decide_eq_true (by first | (with_reducible assumption) | assumption); have q238 : t237 < (x8_4.length : Int) := of_decide_eq_true (by first | (with_reducible assumption) | assumption); obtain ⟨ad238, e238, hx238_0⟩ := Kd.at_int (Kd.R_reads' HO_8.out).2.2 t237 p238 q238; cases e238; replace p238 := eq_true p238; replace q238 := eq_true q238; have p65 : 0 ≤ (t237 : Int) := of_decide_eq_true (by first | (with_reducible assumption) | assumption); have q65 : (t237 : Int) < ((x8_4.length : Int) : Int) := of_decide_eq_true (by first | (with_reducible assumption) | assumption); obtain ⟨go65, co65, eo65, gb65, gl65, cl65, HG65⟩ := Kd.R_form HO_8.out (by omega); (first | cases eo65 | (injection eo65 with ea_ en_ ec_; (first | subst ea_ | (injection ea_ with ea_; subst ea_)); subst ec_; clear en_)); have GB65 := Aside0.mk gb65; have GG65 := Aside0.mk HG65; clear gb65 gl65 HG65; (first | simp only [add_plain] at hx238_0 | skip); obtain ⟨hx65_0, hf65_0⟩ := Kd.R_celln 0 HO_8.out (t237 : Int) p65 q65; replace p65 := eq_true p65; replace q65 := eq_true q65; obtain ⟨hy66_, hz66_⟩ := Kd.R_celln 0 HO_8.out (t237 : Int) (of_decide_eq_true (by first | (with_reducible assumption) | assumption)) (of_decide_eq_true (by first | (with_reducible assumption) | assumption)); have HP66 := Kd.R_putg HO_8.out (t237 : Int) (wrap64 ((rd x8_4 t237) - 1))) | ((with_reducible refine gate_store (t := 3) (p := 103) rfl ?_); refine store_event (t := 3) (p := 103) (v := ?vo_w67) (w1 := (wr.setCell ⟨go65, (t237 : Int).toNat, none⟩ (.int .i64 (wrap64 ((rd x8_4 t237) - 1))))) ?hg ?ho ?hn ?hr ?_; (case ho => rfl); (case hg => rfl); (case hn => rfl); (case hr => first | (go_simp; done) | (go_simp; rfl)); intro w67 hw; have hg : wr.grownBy w67 (some go65) := (by rw [hw]; exact HP66.2); have hp_ : Kd.R (Kd.int .i64) 3 w67 w.heap.size (fun _ => True) (.slice (some ⟨go65, 0, none⟩) x8_4.length co59) y239 := (by rw [hw, Ny239.out]; exact HP66.1); clear HP66; have n0_ := Aside0.mk (hp_); have n1_ := Aside0.mk ((by rw [hw]; exact below_set (HB.out) GB65.out : Below w.heap.size w w67)); clear HO_8; clear HB; have HO_8 := n0_; have HB := n1_; clear n0_ n1_; clear hg hw hp_))
                                    (try simp only [← hl8_4])
                                    go_roundg k4
                                    case measure => have := HJ3.out; have := HK2.out; have := HK3.out; have := HK4.out; omega
                                    case rel => exact ⟨(y239), H', ⟨by have := HJ3.out; have := HK2.out; have := HK3.out; have := HK4.out; omega⟩, ⟨by (try simp only [hl8_4]); (with_reducible repeat (first | apply Kd.R_alloc | apply Kd.R_drewN | apply Kd.R_drew)); exact HO_8.out⟩, ⟨by repeat (first | (with_reducible first | exact HB.out | apply below_alloc | apply pw_below_drewN | apply below_drew1) | exact HB.out)⟩⟩
                                  · rw [if_neg c64] at H
                                    exact absurd H (by simp)
                                · rw [if_neg c63] at H
                                  exact absurd H (by simp)
                              · rw [if_neg c61] at H
                                have c61b0 : decide (t212 < t236) = false := decide_eq_false c61
                                clear c61
                                simp only [Option.some.injEq, Prod.mk.injEq] at H
                                obtain ⟨rfl, rfl⟩ := H
                                go_wp2_with (first | ((with_reducible refine gate_callee (f := 59) rfl ?_); refine goesL_ (some 93) rfl rfl Try.func59 (by kernel_rfl) rfl #[.slice Ao59 x8_4.length co59] rfl (by (try simp only [List.map_toArray, List.map_cons, List.map_nil]); first | done | rfl | (simp only [List.length_drop, List.length_take]; rfl)) ?_; (with_reducible refine (puncheonref08_sum.calls k4 _ _ x8_4 t236 _ ?side1 ?side2 A60.out).mono ?_); (case side1 => repeat (first | exact (Kd.R_reads' HO_8.out).2.2 | (with_reducible refine Kd.C_alloc ?_ _) | (with_reducible refine Kd.C_drewN ?_ _) | (with_reducible refine Kd.C_drew ?_))); (case side2 => exact (Kd.R_reads' HO_8.out).2.1); rintro e w' ⟨rfl, ⟨nd, rfl⟩⟩; refine ⟨_, rfl, ?_⟩))
                                go_ret2
                                exact ⟨_, by first | rfl | (simp [errW_none, errW_some] <;> rfl) | (simp [*, errW_none, errW_some] <;> rfl), by (with_reducible repeat (first | apply Kd.R_alloc | apply Kd.R_drewN | apply Kd.R_drew)); exact HO_8.out, by repeat (first | (with_reducible first | exact HB.out | apply below_alloc | apply pw_below_drewN | apply below_drew1) | exact HB.out)⟩
            · rw [if_neg c12] at H
              exact absurd H (by simp)
          · rw [if_neg c11] at H
            exact absurd H (by simp)

/-! ### puncheonref16_Zero: function 20 -/
def puncheonref16_Zero.f (k : Nat) (l0 : List Int) : Option (Int × Bool × (List (List Int))) := (puncheonref05_Of.f k l0).bind fun t241 => ((puncheonref05_Many.f k t241).bind fun t244 => ((puncheonref07_Pick.f (l0.length : Int) t244 11).bind fun t245 => ((puncheonref08_Counts.f k t241 t245).bind fun bt246 => (some (t245, true, (([bt246.1] : List (List Int))))))))
theorem puncheonref16_Zero.mono : ∀ a0 k, LeO (puncheonref16_Zero.f k a0) (puncheonref16_Zero.f (k + 1) a0) := by
  intro a0 k
  unfold puncheonref16_Zero.f
  repeat' first
      | (with_reducible exact puncheonref05_Many.mono _ _)
      | (with_reducible exact puncheonref05_Of.mono _ _)
      | (with_reducible exact puncheonref08_Counts.mono _ _ _)
      | (with_reducible exact LeO.refl _)
      | (with_reducible exact LeO.none _)
      | (with_reducible refine LeO.ite ?_ ?_)
      | (with_reducible refine LeO.bind ?_ (fun _ => ?_))
      | exact puncheonref05_Many.mono _ _
      | exact puncheonref05_Of.mono _ _
      | exact puncheonref08_Counts.mono _ _ _
      | exact LeO.none _
      | refine LeO.ite ?_ ?_
      | refine LeO.bind ?_ (fun _ => ?_)
set_option maxHeartbeats 8000000 in
set_option maxRecDepth 100000 in
theorem puncheonref16_Zero.calls (k : Nat) (A0 : Option Addr) (c0 : Nat) (l0 : List Int) (r1 : Int) (r2 : Bool) (r3 : List (List Int)) (w : World) (hr0 : Kd.C (Kd.int .u8) w A0 l0.length l0) (hc0 : l0.length ≤ c0) (h : puncheonref16_Zero.f k l0 = some (r1, r2, r3)) :
    Calls Try.prog 20 #[.slice A0 l0.length c0] w fun e w' => ∃ v2_ : Value, e = .returned (.agg #[.int .i64 r1, .bool r2, v2_]) ∧ Kd.N (Kd.slice 3 (Kd.int .i64)) 29 w' w.heap.size (fun k_ => (w.heap.size ≤ k_)) v2_ r3 ∧ Below w.heap.size w w' := by
  have hu24 := Try.underlying24
  have HR0 := Aside0.mk hr0
  have HC0 := Aside0.mk hc0
  clear hr0 hc0
  have HB := Aside0.mk (Below.refl w.heap.size w)
  have H : ((puncheonref05_Of.f k l0).bind fun t241 => ((puncheonref05_Many.f k t241).bind fun t244 => ((puncheonref07_Pick.f (l0.length : Int) t244 11).bind fun t245 => ((puncheonref08_Counts.f k t241 t245).bind fun bt246 => (some (t245, true, (([bt246.1] : List (List Int))))))))) = some (r1, r2, r3) := h
  clear h
  replace H := Option.bind_eq_some_iff.mp H
  obtain ⟨t241, A20, H⟩ := H
  replace H : ((puncheonref05_Many.f k t241).bind fun t244 => ((puncheonref07_Pick.f (l0.length : Int) t244 11).bind fun t245 => ((puncheonref08_Counts.f k t241 t245).bind fun bt246 => (some (t245, true, (([bt246.1] : List (List Int)))))))) = some (r1, r2, r3) := H
  have A2 := Aside0.mk A20
  clear A20
  replace H := Option.bind_eq_some_iff.mp H
  obtain ⟨t244, A30, H⟩ := H
  replace H : ((puncheonref07_Pick.f (l0.length : Int) t244 11).bind fun t245 => ((puncheonref08_Counts.f k t241 t245).bind fun bt246 => (some (t245, true, (([bt246.1] : List (List Int))))))) = some (r1, r2, r3) := H
  have A3 := Aside0.mk A30
  clear A30
  replace H := Option.bind_eq_some_iff.mp H
  obtain ⟨t245, A40, H⟩ := H
  replace H : ((puncheonref08_Counts.f k t241 t245).bind fun bt246 => (some (t245, true, (([bt246.1] : List (List Int)))))) = some (r1, r2, r3) := H
  have A4 := Aside0.mk A40
  clear A40
  replace H := Option.bind_eq_some_iff.mp H
  obtain ⟨⟨t246, t247⟩, A50, H⟩ := H
  replace H : (some (t245, true, (([t246] : List (List Int))))) = some (r1, r2, r3) := H
  have A5 := Aside0.mk A50
  clear A50
  obtain ⟨y250, hy250⟩ : ∃ y_ : List (List Int), y_ = (([t246] : List (List Int))) := ⟨_, rfl⟩
  replace H : (some (t245, true, y250)) = some (r1, r2, r3) := by first | (rw [hy250]; with_reducible exact H) | (have H2_ := (Option.bind_some _ _).symm.trans H; rw [hy250]; with_reducible exact H2_) | (have H2_ := (Option.bind_some _ _).symm.trans H; with_reducible exact H2_) | with_reducible exact H | (rw [hy250]; exact H) | exact H
  have Ny250 := Aside0.mk hy250
  clear hy250
  simp only [Option.some.injEq, Prod.mk.injEq] at H
  obtain ⟨rfl, rfl, rfl⟩ := H
  go_enter Try.func20, Try.ntmps20
  go_wp2_with (first | ((with_reducible refine gate_dst (N := 2) rfl ?_); refine box_event ?hg (N := 2) ?hd (cs := #[.int .i64 0, .bool false, .slice none 0 0]) (t := 24) ?hr ?_; (case hd => rfl); (case hg => rfl); (case hr => first | (go_simp; done) | (go_simp; rfl)); intro gb240 hg w6 hbox hb; have n0_ := Aside0.mk (below_step (by repeat (first | (with_reducible first | exact HB.out | apply below_alloc | apply pw_below_drewN | apply below_drew1) | exact HB.out)) hb); have n1_ := Aside0.mk (hbox); have n2_ := Aside0.mk ((by rw [hg]; exact (below_size (by repeat (first | (with_reducible first | exact HB.out | apply below_alloc | apply pw_below_drewN | apply below_drew1) | exact HB.out))) : w.heap.size ≤ gb240)); have n3_ := Aside0.mk ((by rw [hg]; exact (below_size (by repeat (first | (with_reducible first | exact HB.out | apply below_alloc | apply pw_below_drewN | apply below_drew1) | exact HB.out))) : w.heap.size ≤ gb240)); clear HB; have HB := n0_; have BK240 := n1_; have GW240 := n2_; have GE240 := n3_; clear n0_ n1_ n2_ n3_; clear hb hbox hg) | ((with_reducible refine gate_callee (f := 37) rfl ?_); refine goesL_ (some 8) rfl rfl Try.func37 (by kernel_rfl) rfl #[.slice A0 l0.length c0] rfl (by (try simp only [List.map_toArray, List.map_cons, List.map_nil]); first | done | rfl | (simp only [List.length_drop, List.length_take]; rfl)) ?_; (with_reducible refine (puncheonref05_Of.calls k _ _ l0 t241 _ ?side1 ?side2 A2.out).mono ?_); (case side1 => repeat (first | exact (Kd.C_below HR0.out HB.out) | (with_reducible refine Kd.C_alloc ?_ _) | (with_reducible refine Kd.C_drewN ?_ _) | (with_reducible refine Kd.C_drew ?_))); (case side2 => exact HC0.out); rintro e w7 ⟨v242, rfl, ho0, hb⟩; refine ⟨_, rfl, ?_⟩; have n0_ := Aside0.mk (Kd.R_lower (Kd.R_newM (M := fun k_ => (w.heap.size ≤ k_)) ho0 (below_size (by repeat (first | (with_reducible first | exact HB.out | apply below_alloc | apply pw_below_drewN | apply below_drew1 | refine below_set ?_ GE240.out) | exact HB.out))) (fun k_ h_ => h_)) (below_size (by repeat (first | (with_reducible first | exact HB.out | apply below_alloc | apply pw_below_drewN | apply below_drew1 | refine below_set ?_ GE240.out) | exact HB.out)))); have n1_ := Aside0.mk (blk_below (g := gb240) (o := .cells #[.int .i64 0, .bool false, .slice none 0 0] 24 (0, 0)) (by (with_reducible repeat (first | refine blk_drewN ?_ _ | refine blk_drew ?_ | refine blk_alloc ?_ _)); exact BK240.out) hb); have n2_ := Aside0.mk (below_step (by repeat (first | (with_reducible first | exact HB.out | apply below_alloc | apply pw_below_drewN | apply below_drew1 | refine below_set ?_ GE240.out) | exact HB.out)) hb); clear BK240; clear HB; have HO243 := n0_; have BK240 := n1_; have HB := n2_; clear n0_ n1_ n2_; (try clear hb); (try clear hb2); (try clear hk); (try clear hi); (try clear ho0); obtain ⟨Ao8, co8, eo8⟩ := Kd.R_slice HO243.out; subst eo8) | ((with_reducible refine gate_callee (f := 39) rfl ?_); refine goesL_ (some 12) rfl rfl Try.func39 (by kernel_rfl) rfl #[.slice Ao8 t241.length co8] rfl (by (try simp only [List.map_toArray, List.map_cons, List.map_nil]); first | done | rfl | (simp only [List.length_drop, List.length_take]; rfl)) ?_; (with_reducible refine (puncheonref05_Many.calls k _ _ t241 t244 _ ?side1 ?side2 A3.out).mono ?_); (case side1 => repeat (first | exact (Kd.R_reads' HO243.out).2.2 | (with_reducible refine Kd.C_alloc ?_ _) | (with_reducible refine Kd.C_drewN ?_ _) | (with_reducible refine Kd.C_drew ?_))); (case side2 => exact (Kd.R_reads' HO243.out).2.1); rintro e w' ⟨rfl, ⟨nd, rfl⟩⟩; refine ⟨_, rfl, ?_⟩; (try (rw [drewN_self w7]; generalize hq_ : World.drewN w7 _ = w7; have n0_ : Aside0 (Kd.R (Kd.int .i64) 3 w7 w.heap.size (fun k_ => (w.heap.size ≤ k_)) (.slice Ao8 t241.length co8) t241) := ⟨by rw [← hq_]; exact (by (with_reducible repeat (first | apply Kd.R_alloc | apply Kd.R_drewN | apply Kd.R_drew)); exact Kd.R_mono HO243.out (fun _ hk => hk.1))⟩; have n1_ : Aside0 (w7.heap[gb240]? = some (.cells #[.int .i64 0, .bool false, .slice none 0 0] 24 (0, 0))) := ⟨by rw [← hq_]; exact (by (with_reducible repeat (first | refine blk_drewN ?_ _ | refine blk_drew ?_ | refine blk_alloc ?_ _)); exact BK240.out)⟩; have n2_ : Aside0 (Below w.heap.size w w7) := ⟨by rw [← hq_]; exact (by repeat (first | (with_reducible first | exact HB.out | apply below_alloc | apply pw_below_drewN | apply below_drew1 | refine below_set ?_ GE240.out) | exact HB.out))⟩; clear HO243 BK240 HB hq_; have HO243 := n0_; have BK240 := n1_; have HB := n2_; clear n0_ n1_ n2_))) | ((with_reducible refine gate_callee (f := 38) rfl ?_); refine goesL_ (some 13) rfl rfl Try.func38 (by kernel_rfl) rfl #[.int .i64 (l0.length : Int), .int .i64 t244, .int .i64 11] rfl (by (try simp only [List.map_toArray, List.map_cons, List.map_nil]); first | done | rfl | (simp only [List.length_drop, List.length_take]; rfl)) ?_; (with_reducible refine (puncheonref07_Pick.calls (l0.length : Int) t244 11 t245 _ A4.out).mono ?_); rintro e w9 ⟨rfl, hb⟩; refine ⟨_, rfl, ?_⟩; have n0_ := Aside0.mk (Kd.R_below (by (with_reducible repeat (first | apply Kd.R_alloc | apply Kd.R_drewN | apply Kd.R_drew)); exact HO243.out) hb); have n1_ := Aside0.mk (blk_below (g := gb240) (o := .cells #[.int .i64 0, .bool false, .slice none 0 0] 24 (0, 0)) (by (with_reducible repeat (first | refine blk_drewN ?_ _ | refine blk_drew ?_ | refine blk_alloc ?_ _)); exact BK240.out) hb); have n2_ := Aside0.mk (below_step (by repeat (first | (with_reducible first | exact HB.out | apply below_alloc | apply pw_below_drewN | apply below_drew1 | refine below_set ?_ GE240.out) | exact HB.out)) hb); clear HO243; clear BK240; clear HB; have HO243 := n0_; have BK240 := n1_; have HB := n2_; clear n0_ n1_ n2_; (try clear hb); (try clear hb2); (try clear hk); (try clear hi)) | ((with_reducible refine gate_callee (f := 40) rfl ?_); refine goesL_ (some 17) rfl rfl Try.func40 (by kernel_rfl) rfl #[.slice Ao8 t241.length co8, .int .i64 t245] rfl (by (try simp only [List.map_toArray, List.map_cons, List.map_nil]); first | done | rfl | (simp only [List.length_drop, List.length_take]; rfl)) ?_; (with_reducible refine (puncheonref08_Counts.calls k _ _ t241 t245 t246 t247 _ ?side1 ?side2 A5.out).mono ?_); (case side1 => repeat (first | exact (Kd.R_reads' HO243.out).2.2 | (with_reducible refine Kd.C_alloc ?_ _) | (with_reducible refine Kd.C_drewN ?_ _) | (with_reducible refine Kd.C_drew ?_))); (case side2 => exact (Kd.R_reads' HO243.out).2.1); rintro e w10 ⟨v248, rfl, ho0, hb⟩; refine ⟨_, rfl, ?_⟩; have n0_ := Aside0.mk (Kd.R_elder' (by (with_reducible repeat (first | apply Kd.R_alloc | apply Kd.R_drewN | apply Kd.R_drew)); exact HO243.out) (Kd.R_base ho0) hb); have n1_ := Aside0.mk (Kd.R_lower (Kd.R_new' (Kd.R_newM (M := fun k_ => (w.heap.size ≤ k_)) ho0 (below_size (by repeat (first | (with_reducible first | exact HB.out | apply below_alloc | apply pw_below_drewN | apply below_drew1 | refine below_set ?_ GE240.out) | exact HB.out))) (fun k_ h_ => h_)) (Kd.R_lt (by (with_reducible repeat (first | apply Kd.R_alloc | apply Kd.R_drewN | apply Kd.R_drew)); exact HO243.out))) (below_size (by repeat (first | (with_reducible first | exact HB.out | apply below_alloc | apply pw_below_drewN | apply below_drew1 | refine below_set ?_ GE240.out) | exact HB.out)))); have n2_ := Aside0.mk (blk_below (g := gb240) (o := .cells #[.int .i64 0, .bool false, .slice none 0 0] 24 (0, 0)) (by (with_reducible repeat (first | refine blk_drewN ?_ _ | refine blk_drew ?_ | refine blk_alloc ?_ _)); exact BK240.out) hb); have n3_ := Aside0.mk (below_step (by repeat (first | (with_reducible first | exact HB.out | apply below_alloc | apply pw_below_drewN | apply below_drew1 | refine below_set ?_ GE240.out) | exact HB.out)) hb); clear HO243; clear BK240; clear HB; have HO243 := n0_; have HO249 := n1_; have BK240 := n2_; have HB := n3_; clear n0_ n1_ n2_ n3_; (try clear hb); (try clear hb2); (try clear hk); (try clear hi); (try clear ho0); obtain ⟨Ao11, co11, eo11⟩ := Kd.R_slice HO249.out; subst eo11) | ((with_reducible refine gate_dst (N := 22) rfl ?_); refine Kd.N_lit (Kd.slice 3 (Kd.int .i64)) _ 29 ?hg (N' := 22) ?hd (xs := ([t246] : List (List Int))) (inner := [.slice Ao11 t246.length co11]) (ok := (fun k_ => (w.heap.size ≤ k_) ∧ some k_ ≠ (.slice Ao8 t241.length co8 : Value).ownBlock ∧ k_ ≠ gb240)) (okp := (fun k_ => (w.heap.size ≤ k_) ∧ some k_ ≠ (.slice Ao8 t241.length co8 : Value).ownBlock ∧ k_ ≠ gb240)) ?hr ?hp (fun _ hk => hk) ((show ∀ k_, w10.heap.size ≤ k_ → (fun k_ => (w.heap.size ≤ k_) ∧ some k_ ≠ (.slice Ao8 t241.length co8 : Value).ownBlock ∧ k_ ≠ gb240) k_ from fun k_ hk => ⟨(Nat.le_trans (below_size (by repeat (first | (with_reducible first | exact HB.out | apply below_alloc | apply pw_below_drewN | apply below_drew1 | refine below_set ?_ GE240.out) | exact HB.out))) hk), Kd.fresh' (Kd.R_lt (by (with_reducible repeat (first | apply Kd.R_alloc | apply Kd.R_drewN | apply Kd.R_drew)); exact HO243.out)) k_ hk, Kd.freshB (g := gb240) (o := .cells #[.int .i64 0, .bool false, .slice none 0 0] 24 (0, 0)) (by (with_reducible repeat (first | refine blk_drewN ?_ _ | refine blk_drew ?_ | refine blk_alloc ?_ _)); exact BK240.out) k_ hk⟩) _ (Nat.le_refl _)) (Below.refl _ _) (Nat.le_refl _) (by simp) ?_; (case hd => rfl); (case hg => rfl); (case hr => first | (go_simp; done) | (go_simp; rfl)); (case hp => exact (Reps.one (show Kd.FK (Kd.slice 3 (Kd.int .i64)) _ _ t246 [.slice Ao11 t246.length co11] from (Kd.FK_slice_mk (Kd.R_reads' (Kd.R_mono (ok' := (fun k_ => (w.heap.size ≤ k_) ∧ some k_ ≠ (.slice Ao8 t241.length co8 : Value).ownBlock ∧ k_ ≠ gb240)) (Kd.R_types (HO249.out) BK240.out (by decide)) (fun k_ hk => ⟨hk.1.1.1, ⟨hk.1.2, hk.2⟩⟩))).2.1 (Kd.R_F (Kd.R_mono (ok' := (fun k_ => (w.heap.size ≤ k_) ∧ some k_ ≠ (.slice Ao8 t241.length co8 : Value).ownBlock ∧ k_ ≠ gb240)) (Kd.R_types (HO249.out) BK240.out (by decide)) (fun k_ hk => ⟨hk.1.1.1, ⟨hk.1.2, hk.2⟩⟩))))) (Reps.none _ _))); intro v251 w12 ho13 hb hg_ hnew_; clear hg_ hnew_; (first | rw [← Ny250.out] at ho13 | (simp only [Int.reduceToNat] at ho13; rw [← Ny250.out] at ho13)); have n0_ := Aside0.mk (Kd.R_below (by (with_reducible repeat (first | apply Kd.R_alloc | apply Kd.R_drewN | apply Kd.R_drew)); exact HO243.out) hb); have n1_ := Aside0.mk (Kd.N_lower ho13 (below_size (by repeat (first | (with_reducible first | exact HB.out | apply below_alloc | apply pw_below_drewN | apply below_drew1 | refine below_set ?_ GE240.out) | exact HB.out)))); have n2_ := Aside0.mk (blk_below (g := gb240) (o := .cells #[.int .i64 0, .bool false, .slice none 0 0] 24 (0, 0)) (by (with_reducible repeat (first | refine blk_drewN ?_ _ | refine blk_drew ?_ | refine blk_alloc ?_ _)); exact BK240.out) hb); have n3_ := Aside0.mk (below_step (by repeat (first | (with_reducible first | exact HB.out | apply below_alloc | apply pw_below_drewN | apply below_drew1 | refine below_set ?_ GE240.out) | exact HB.out)) hb); clear HO243; clear BK240; clear HB; clear HO249; have HO243 := n0_; have HO252 := n1_; have BK240 := n2_; have HB := n3_; clear n0_ n1_ n2_ n3_; clear hb ho13; obtain ⟨Ao14, co14, eo14⟩ := Kd.N_slice HO252.out; subst eo14; have hcz15_0 : w12.cell? ⟨gb240, 0, none⟩ = some (.int .i64 0) := (blk_cell BK240.out 0).trans rfl; have hcz15_1 : w12.cell? ⟨gb240, 1, none⟩ = some (.bool false) := (blk_cell BK240.out 1).trans rfl; have hcz15_2 : w12.cell? ⟨gb240, 2, none⟩ = some (.slice none 0 0) := (blk_cell BK240.out 2).trans rfl; have hfz15_0 := blk_frozen BK240.out 0; have hfz15_1 := blk_frozen BK240.out 1; have hfz15_2 := blk_frozen BK240.out 2))
  refine bodyPost_ret (results_cell_row rfl _ _ gb240 24 #[.int .i64 t245, .bool true, .slice Ao14 y250.length co14] (0, 0) _ rfl (by (with_reducible repeat (first | refine blk_drewN ?_ _ | refine blk_drew ?_ | refine blk_alloc ?_ _)); refine blk_put (cs := #[.int .i64 t245, .bool true, .slice none 0 0]) ?_ 2 _ rfl; (with_reducible repeat (first | refine blk_drewN ?_ _ | refine blk_drew ?_ | refine blk_alloc ?_ _)); refine blk_put (cs := #[.int .i64 t245, .bool false, .slice none 0 0]) ?_ 1 _ rfl; (with_reducible repeat (first | refine blk_drewN ?_ _ | refine blk_drew ?_ | refine blk_alloc ?_ _)); refine blk_put (cs := #[.int .i64 0, .bool false, .slice none 0 0]) ?_ 0 _ rfl; (with_reducible repeat (first | refine blk_drewN ?_ _ | refine blk_drew ?_ | refine blk_alloc ?_ _)); exact BK240.out) Try.underlying24 rfl (by kernel_rfl)) rfl ?_
  exact ⟨_, by first | rfl | (simp [errW_none, errW_some] <;> rfl) | (simp [*, errW_none, errW_some] <;> rfl), by (with_reducible repeat (first | apply Kd.N_alloc | apply Kd.N_drewN | apply Kd.N_drew)); exact Kd.N_mono (Kd.N_far (p := ⟨gb240, 2, none⟩) (Kd.N_far (p := ⟨gb240, 1, none⟩) (Kd.N_far (p := ⟨gb240, 0, none⟩) (Kd.N_mono HO252.out (fun k_ hk => (⟨hk, hk.2.2⟩ : _ ∧ k_ ≠ gb240))) (fun _ hk => hk.2) (.int .i64 t245)) (fun _ hk => hk.2) (.bool true)) (fun _ hk => hk.2) (.slice Ao14 y250.length co14)) (fun _ hk => hk.1.1), by repeat (first | (with_reducible first | exact HB.out | apply below_alloc | apply pw_below_drewN | apply below_drew1 | refine below_set ?_ GE240.out) | exact HB.out)⟩

end Go.Proofs.Ytcffmmdgjifaaaa.PPr
