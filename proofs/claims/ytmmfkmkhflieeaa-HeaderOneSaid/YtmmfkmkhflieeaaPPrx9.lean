/- The machine's side of this seat's laws: what each function computes, and that its call computes it; written by a program (pr.py over the kit's print.py). -/
import Derived.Test.YtmmfkmkhflieeaaPPrx0
import Derived.Test.YtmmfkmkhflieeaaPPrx4
import Derived.Test.YtmmfkmkhflieeaaPPrx7
import Derived.Test.YtmmfkmkhflieeaaPPrx8
namespace Go.Proofs.Ytmmfkmkhflieeaa.PPr
open Go.RowKit Go.Proofs.YtmmfkmkhflieeaaW.PrintWords Go.Proofs.YtmmfkmkhflieeaaW.PrintLast Go.Proofs.YtmmfkmkhflieeaaW.PrintMore
attribute [local go_sem] max2_int min2_int max_two min_two max_three min_three max_four min_four   -- for this text's walks alone
set_option linter.unusedVariables false
set_option linter.unusedSimpArgs false

/-! ### puncheonref08_Counts: function 45 -/
mutual
def puncheonref08_Counts.j0 : Nat → List Int → Int → Int → Bool → Option (List Int × Int)
  | 0, _, _, _, _ => none
  | k + 1, x0, x1, x6, x24 => if x24 = true then (some (([] : List Int), 1)) else ((puncheonref08_power.f k x1).bind fun t223 => ((puncheonref05_Many.f k x0).bind fun t224 => (if t224 > t223 then (some (([] : List Int), 1)) else (if 256 ≤ 35184372088832 then (if 256 ≤ 281474976710656 then (puncheonref08_Counts.l0 k x0 x6 t223 (List.replicate 256 0) (List.replicate 256 0) (List.replicate 256 false) 0) else (none)) else (none)))))
def puncheonref08_Counts.l0 : Nat → List Int → Int → Int → List Int → List Int → List Bool → Int → Option (List Int × Int)
  | 0, _, _, _, _, _, _, _ => none
  | k + 1, x0, x6, x7, x8, x9, x10, x11 => if x11 < 256 then (if 0 ≤ x11 then (if x11 < (x0.length : Int) then (if x6 = 0 then (none) else (if x11 < (x8.length : Int) then ((some (x8.set (x11 : Int).toNat (wrap64 (Int.tdiv (wrap64 ((rd x0 x11) * x7)) x6)) : List Int)).bind fun y235 => (if x11 < (x9.length : Int) then ((some (x9.set (x11 : Int).toNat (Int.tmod (wrap64 ((rd x0 x11) * x7)) x6) : List Int)).bind fun y237 => (if (rd y235 x11) = 0 then (if x11 < (x10.length : Int) then (puncheonref08_Counts.l0 k x0 x6 x7 (y235.set (x11 : Int).toNat (mn (rd x0 x11) 1)) y237 (x10.set (x11 : Int).toNat true) (wrap64 (x11 + 1))) else (none)) else (puncheonref08_Counts.l0 k x0 x6 x7 y235 y237 x10 (wrap64 (x11 + 1))))) else (none))) else (none))) else (none)) else (none)) else (puncheonref08_Counts.l1 k x0 x7 x8 x9 x10)
def puncheonref08_Counts.l1 : Nat → List Int → Int → List Int → List Int → List Bool → Option (List Int × Int)
  | 0, _, _, _, _, _ => none
  | k + 1, x0, x7, x8, x9, x10 => (puncheonref08_sum.f k x8).bind fun t242 => (if t242 < x7 then ((puncheonref08_neediest.f k x9 x10).bind fun t243 => (if 0 ≤ t243 then (if t243 < (x10.length : Int) then (if t243 < (x8.length : Int) then (puncheonref08_Counts.l1 k x0 x7 (x8.set (t243 : Int).toNat (wrap64 ((rd x8 t243) + 1))) x9 (x10.set (t243 : Int).toNat true)) else (none)) else (none)) else (none))) else (puncheonref08_Counts.l2 k x0 x7 x8))
def puncheonref08_Counts.l2 : Nat → List Int → Int → List Int → Option (List Int × Int)
  | 0, _, _, _ => none
  | k + 1, x0, x7, x8 => (puncheonref08_sum.f k x8).bind fun t247 => (if t247 > x7 then ((puncheonref08_richest.f k x8 x0).bind fun t248 => (if 0 ≤ t248 then (if t248 < (x8.length : Int) then (puncheonref08_Counts.l2 k x0 x7 (x8.set (t248 : Int).toNat (wrap64 ((rd x8 t248) - 1)))) else (none)) else (none))) else (some (x8, 0)))
end
def puncheonref08_Counts.f (k : Nat) (l0 : List Int) (a1 : Int) : Option (List Int × Int) := (puncheonref05_Total.f k l0).bind fun t222 => (if t222 = 0 then (puncheonref08_Counts.j0 k l0 a1 t222 true) else (if a1 < 1 then (puncheonref08_Counts.j0 k l0 a1 t222 true) else (puncheonref08_Counts.j0 k l0 a1 t222 (decide (a1 > 12)))))
theorem puncheonref08_Counts.mono_l : ∀ k, (∀ y0 y1 y2 y3, LeO (puncheonref08_Counts.j0 k y0 y1 y2 y3) (puncheonref08_Counts.j0 (k + 1) y0 y1 y2 y3)) ∧ (∀ y0 y1 y2 y3 y4 y5 y6, LeO (puncheonref08_Counts.l0 k y0 y1 y2 y3 y4 y5 y6) (puncheonref08_Counts.l0 (k + 1) y0 y1 y2 y3 y4 y5 y6)) ∧ (∀ y0 y1 y2 y3 y4, LeO (puncheonref08_Counts.l1 k y0 y1 y2 y3 y4) (puncheonref08_Counts.l1 (k + 1) y0 y1 y2 y3 y4)) ∧ (∀ y0 y1 y2, LeO (puncheonref08_Counts.l2 k y0 y1 y2) (puncheonref08_Counts.l2 (k + 1) y0 y1 y2))
  | 0 => ⟨fun _ _ _ _ r h => by simp [puncheonref08_Counts.j0] at h, fun _ _ _ _ _ _ _ r h => by simp [puncheonref08_Counts.l0] at h, fun _ _ _ _ _ r h => by simp [puncheonref08_Counts.l1] at h, fun _ _ _ r h => by simp [puncheonref08_Counts.l2] at h⟩
  | k + 1 => by
    obtain ⟨ih0, ih1, ih2, ih3⟩ := puncheonref08_Counts.mono_l k
    refine ⟨?_, ?_, ?_, ?_⟩
    · intro y0 y1 y2 y3
      unfold puncheonref08_Counts.j0
      repeat' first
      | (with_reducible exact ih0 _ _ _ _)
      | (with_reducible exact ih1 _ _ _ _ _ _ _)
      | (with_reducible exact ih2 _ _ _ _ _)
      | (with_reducible exact ih3 _ _ _)
      | (with_reducible exact puncheonref05_Many.mono _ _)
      | (with_reducible exact puncheonref05_Total.mono _ _)
      | (with_reducible exact puncheonref08_neediest.mono _ _ _)
      | (with_reducible exact puncheonref08_power.mono _ _)
      | (with_reducible exact puncheonref08_richest.mono _ _ _)
      | (with_reducible exact puncheonref08_sum.mono _ _)
      | (with_reducible exact LeO.refl _)
      | (with_reducible exact LeO.none _)
      | (with_reducible refine LeO.ite ?_ ?_)
      | (with_reducible refine LeO.bind ?_ (fun _ => ?_))
      | exact ih0 _ _ _ _
      | exact ih1 _ _ _ _ _ _ _
      | exact ih2 _ _ _ _ _
      | exact ih3 _ _ _
      | exact puncheonref05_Many.mono _ _
      | exact puncheonref05_Total.mono _ _
      | exact puncheonref08_neediest.mono _ _ _
      | exact puncheonref08_power.mono _ _
      | exact puncheonref08_richest.mono _ _ _
      | exact puncheonref08_sum.mono _ _
      | exact LeO.none _
      | refine LeO.ite ?_ ?_
      | refine LeO.bind ?_ (fun _ => ?_)
    · intro y0 y1 y2 y3 y4 y5 y6
      unfold puncheonref08_Counts.l0
      repeat' first
      | (with_reducible exact ih0 _ _ _ _)
      | (with_reducible exact ih1 _ _ _ _ _ _ _)
      | (with_reducible exact ih2 _ _ _ _ _)
      | (with_reducible exact ih3 _ _ _)
      | (with_reducible exact puncheonref05_Many.mono _ _)
      | (with_reducible exact puncheonref05_Total.mono _ _)
      | (with_reducible exact puncheonref08_neediest.mono _ _ _)
      | (with_reducible exact puncheonref08_power.mono _ _)
      | (with_reducible exact puncheonref08_richest.mono _ _ _)
      | (with_reducible exact puncheonref08_sum.mono _ _)
      | (with_reducible exact LeO.refl _)
      | (with_reducible exact LeO.none _)
      | (with_reducible refine LeO.ite ?_ ?_)
      | (with_reducible refine LeO.bind ?_ (fun _ => ?_))
      | exact ih0 _ _ _ _
      | exact ih1 _ _ _ _ _ _ _
      | exact ih2 _ _ _ _ _
      | exact ih3 _ _ _
      | exact puncheonref05_Many.mono _ _
      | exact puncheonref05_Total.mono _ _
      | exact puncheonref08_neediest.mono _ _ _
      | exact puncheonref08_power.mono _ _
      | exact puncheonref08_richest.mono _ _ _
      | exact puncheonref08_sum.mono _ _
      | exact LeO.none _
      | refine LeO.ite ?_ ?_
      | refine LeO.bind ?_ (fun _ => ?_)
    · intro y0 y1 y2 y3 y4
      unfold puncheonref08_Counts.l1
      repeat' first
      | (with_reducible exact ih0 _ _ _ _)
      | (with_reducible exact ih1 _ _ _ _ _ _ _)
      | (with_reducible exact ih2 _ _ _ _ _)
      | (with_reducible exact ih3 _ _ _)
      | (with_reducible exact puncheonref05_Many.mono _ _)
      | (with_reducible exact puncheonref05_Total.mono _ _)
      | (with_reducible exact puncheonref08_neediest.mono _ _ _)
      | (with_reducible exact puncheonref08_power.mono _ _)
      | (with_reducible exact puncheonref08_richest.mono _ _ _)
      | (with_reducible exact puncheonref08_sum.mono _ _)
      | (with_reducible exact LeO.refl _)
      | (with_reducible exact LeO.none _)
      | (with_reducible refine LeO.ite ?_ ?_)
      | (with_reducible refine LeO.bind ?_ (fun _ => ?_))
      | exact ih0 _ _ _ _
      | exact ih1 _ _ _ _ _ _ _
      | exact ih2 _ _ _ _ _
      | exact ih3 _ _ _
      | exact puncheonref05_Many.mono _ _
      | exact puncheonref05_Total.mono _ _
      | exact puncheonref08_neediest.mono _ _ _
      | exact puncheonref08_power.mono _ _
      | exact puncheonref08_richest.mono _ _ _
      | exact puncheonref08_sum.mono _ _
      | exact LeO.none _
      | refine LeO.ite ?_ ?_
      | refine LeO.bind ?_ (fun _ => ?_)
    · intro y0 y1 y2
      unfold puncheonref08_Counts.l2
      repeat' first
      | (with_reducible exact ih0 _ _ _ _)
      | (with_reducible exact ih1 _ _ _ _ _ _ _)
      | (with_reducible exact ih2 _ _ _ _ _)
      | (with_reducible exact ih3 _ _ _)
      | (with_reducible exact puncheonref05_Many.mono _ _)
      | (with_reducible exact puncheonref05_Total.mono _ _)
      | (with_reducible exact puncheonref08_neediest.mono _ _ _)
      | (with_reducible exact puncheonref08_power.mono _ _)
      | (with_reducible exact puncheonref08_richest.mono _ _ _)
      | (with_reducible exact puncheonref08_sum.mono _ _)
      | (with_reducible exact LeO.refl _)
      | (with_reducible exact LeO.none _)
      | (with_reducible refine LeO.ite ?_ ?_)
      | (with_reducible refine LeO.bind ?_ (fun _ => ?_))
      | exact ih0 _ _ _ _
      | exact ih1 _ _ _ _ _ _ _
      | exact ih2 _ _ _ _ _
      | exact ih3 _ _ _
      | exact puncheonref05_Many.mono _ _
      | exact puncheonref05_Total.mono _ _
      | exact puncheonref08_neediest.mono _ _ _
      | exact puncheonref08_power.mono _ _
      | exact puncheonref08_richest.mono _ _ _
      | exact puncheonref08_sum.mono _ _
      | exact LeO.none _
      | refine LeO.ite ?_ ?_
      | refine LeO.bind ?_ (fun _ => ?_)
theorem puncheonref08_Counts.mono : ∀ a0 a1 k, LeO (puncheonref08_Counts.f k a0 a1) (puncheonref08_Counts.f (k + 1) a0 a1) := by
  intro a0 a1 k
  obtain ⟨ih0, ih1, ih2, ih3⟩ := puncheonref08_Counts.mono_l k
  unfold puncheonref08_Counts.f
  repeat' first
      | (with_reducible exact ih0 _ _ _ _)
      | (with_reducible exact ih1 _ _ _ _ _ _ _)
      | (with_reducible exact ih2 _ _ _ _ _)
      | (with_reducible exact ih3 _ _ _)
      | (with_reducible exact puncheonref05_Many.mono _ _)
      | (with_reducible exact puncheonref05_Total.mono _ _)
      | (with_reducible exact puncheonref08_neediest.mono _ _ _)
      | (with_reducible exact puncheonref08_power.mono _ _)
      | (with_reducible exact puncheonref08_richest.mono _ _ _)
      | (with_reducible exact puncheonref08_sum.mono _ _)
      | (with_reducible exact LeO.refl _)
      | (with_reducible exact LeO.none _)
      | (with_reducible refine LeO.ite ?_ ?_)
      | (with_reducible refine LeO.bind ?_ (fun _ => ?_))
      | exact ih0 _ _ _ _
      | exact ih1 _ _ _ _ _ _ _
      | exact ih2 _ _ _ _ _
      | exact ih3 _ _ _
      | exact puncheonref05_Many.mono _ _
      | exact puncheonref05_Total.mono _ _
      | exact puncheonref08_neediest.mono _ _ _
      | exact puncheonref08_power.mono _ _
      | exact puncheonref08_richest.mono _ _ _
      | exact puncheonref08_sum.mono _ _
      | exact LeO.none _
      | refine LeO.ite ?_ ?_
      | refine LeO.bind ?_ (fun _ => ?_)
set_option maxHeartbeats 8000000 in
set_option maxRecDepth 100000 in
theorem puncheonref08_Counts.calls (k : Nat) (A0 : Option Addr) (c0 : Nat) (l0 : List Int) (a1 : Int) (r1 : List Int) (r2 : Int) (w : World) (hr0 : Kd.C (Kd.int .i64) w A0 l0.length l0) (hc0 : l0.length ≤ c0) (h : puncheonref08_Counts.f k l0 a1 = some (r1, r2)) :
    Calls Try.prog 45 #[.slice A0 l0.length c0, .int .i64 a1] w fun e w' => ∃ v0_ : Value, e = .returned (.tuple #[v0_, .int .i64 r2]) ∧ Kd.R (Kd.int .i64) 3 w' w.heap.size (fun _ => True) v0_ r1 ∧ Below w.heap.size w w' := by
  have HR0 := Aside0.mk hr0
  have HC0 := Aside0.mk hc0
  clear hr0 hc0
  have HB := Aside0.mk (Below.refl w.heap.size w)
  have H : ((puncheonref05_Total.f k l0).bind fun t222 => (if t222 = 0 then (puncheonref08_Counts.j0 k l0 a1 t222 true) else (if a1 < 1 then (puncheonref08_Counts.j0 k l0 a1 t222 true) else (puncheonref08_Counts.j0 k l0 a1 t222 (decide (a1 > 12)))))) = some (r1, r2) := h
  clear h
  replace H := Option.bind_eq_some_iff.mp H
  obtain ⟨t222, A30, H⟩ := H
  replace H : (if t222 = 0 then (puncheonref08_Counts.j0 k l0 a1 t222 true) else (if a1 < 1 then (puncheonref08_Counts.j0 k l0 a1 t222 true) else (puncheonref08_Counts.j0 k l0 a1 t222 (decide (a1 > 12))))) = some (r1, r2) := H
  have A3 := Aside0.mk A30
  clear A30
  have HC4 := Aside0.mk H
  clear H
  go_enter Try.func45, Try.ntmps45
  go_upto_region 2 with (first | ((with_reducible refine gate_callee (f := 42) rfl ?_); refine goesL_ (some 14) rfl rfl Try.func42 (by kernel_rfl) rfl #[.slice A0 l0.length c0] rfl (by (try simp only [List.map_toArray, List.map_cons, List.map_nil]); first | done | rfl | (simp only [List.length_drop, List.length_take]; rfl)) ?_; (with_reducible refine (puncheonref05_Total.calls k _ _ l0 t222 _ ?side1 ?side2 A3.out).mono ?_); (case side1 => repeat (first | exact HR0.out | (with_reducible refine Kd.C_alloc ?_ _) | (with_reducible refine Kd.C_drewN ?_ _) | (with_reducible refine Kd.C_drew ?_))); (case side2 => exact HC0.out); rintro e w' ⟨rfl, ⟨nd, rfl⟩⟩; refine ⟨_, rfl, ?_⟩))
  (try simp only [Act.put, List.setIfInBounds_toArray, List.set_cons_zero, List.set_cons_succ])
  go_cut [24] (fun v24 wc => ∃ (kq : Nat) (x24_3 : Bool), v24 = .bool x24_3 ∧ Aside0 (puncheonref08_Counts.j0 kq l0 a1 t222 x24_3 = some (r1, r2)) ∧ Aside0 (kq ≤ k) ∧ Aside0 (Below w.heap.size w wc))
  case first =>
    have H := HC4.out
    clear HC4
    by_cases c5 : t222 = 0
    · rw [if_pos c5] at H
      have c5b0 : (t222 == 0) = true := beq_iff_eq.mpr c5
      have c5b1 : (t222 != 0) = false := bne_eq_false_iff_eq.mpr c5
      clear c5
      (first | rw [c5b0] | (simp only [i64_w, i32_w]; rw [c5b0]) | skip)
      have H' := Aside0.mk H
      clear H
      go_wp2
      go_meet
      case rel => exact ⟨_, (true), (by first | rfl | (simp; done) | (simp [*]; done)), H', ⟨by first | omega | exact Nat.le_refl _⟩, ⟨by repeat (first | (with_reducible first | exact HB.out | apply below_alloc | apply pw_below_drewN | apply below_drew1) | exact HB.out)⟩⟩
    · rw [if_neg c5] at H
      have c5b0 : (t222 == 0) = false := beq_eq_false_iff_ne.mpr c5
      have c5b1 : (t222 != 0) = true := bne_iff_ne.mpr c5
      (first | rw [c5b0] | (simp only [i64_w, i32_w]; rw [c5b0]) | skip)
      by_cases c6 : a1 < 1
      · rw [if_pos c6] at H
        have c6b0 : decide (a1 < 1) = true := decide_eq_true c6
        clear c6
        have H' := Aside0.mk H
        clear H
        go_wp2
        go_meet
        case rel => exact ⟨_, (true), (by first | rfl | (simp; done) | (simp [*]; done)), H', ⟨by first | omega | exact Nat.le_refl _⟩, ⟨by repeat (first | (with_reducible first | exact HB.out | apply below_alloc | apply pw_below_drewN | apply below_drew1) | exact HB.out)⟩⟩
      · rw [if_neg c6] at H
        have c6b0 : decide (a1 < 1) = false := decide_eq_false c6
        clear c6
        have H' := Aside0.mk H
        clear H
        go_wp2
        go_meet
        case rel => exact ⟨_, (decide (a1 > 12)), (by first | rfl | (simp; done) | (simp [*]; done)), H', ⟨by first | omega | exact Nat.le_refl _⟩, ⟨by repeat (first | (with_reducible first | exact HB.out | apply below_alloc | apply pw_below_drewN | apply below_drew1) | exact HB.out)⟩⟩
  case rest =>
    clear HC4
    try clear p2
    try clear c4
    try clear c5
    try clear c5b0
    try clear c5b1
    try clear c6
    try clear c6b0
    obtain ⟨kq, x24_3, rfl, HA, HJ3, HB⟩ := hcut
    cases kq with
    | zero => exact absurd HA.out (by simp [puncheonref08_Counts.j0])
    | succ kj3 =>
      have H := HA.out
      clear HA
      simp only [puncheonref08_Counts.j0] at H
      by_cases c7 : x24_3 = true
      · subst c7
        have H1 : (some (([] : List Int), 1)) = some (r1, r2) := by rw [if_pos rfl] at H; exact H
        clear H
        have H := H1
        clear H1
        simp only [Option.some.injEq, Prod.mk.injEq] at H
        obtain ⟨rfl, rfl⟩ := H
        go_wp2
        go_ret2
        exact ⟨_, by first | rfl | (simp [errW_none, errW_some] <;> rfl) | (simp [*, errW_none, errW_some] <;> rfl), by first | exact Kd.R_nil _ _ _ _ _ | exact Kd.N_nil _ _ _ _ _ | exact Kd.V_nil _ _ _ _ _ | exact Kd.Q_nil _ _ _ _ _ | exact Kd.S_nil _ _ _ _ _, by repeat (first | (with_reducible first | exact HB.out | apply below_alloc | apply pw_below_drewN | apply below_drew1) | exact HB.out)⟩
      · replace c7 := Bool.eq_false_iff.mpr c7
        subst c7
        have H1 : ((puncheonref08_power.f kj3 a1).bind fun t223 => ((puncheonref05_Many.f kj3 l0).bind fun t224 => (if t224 > t223 then (some (([] : List Int), 1)) else (if 256 ≤ 35184372088832 then (if 256 ≤ 281474976710656 then (puncheonref08_Counts.l0 kj3 l0 t222 t223 (List.replicate 256 0) (List.replicate 256 0) (List.replicate 256 false) 0) else (none)) else (none))))) = some (r1, r2) := by rw [if_neg (show ¬ (false = true) by decide)] at H; exact H
        clear H
        have H := H1
        clear H1
        replace H := Option.bind_eq_some_iff.mp H
        obtain ⟨t223, A80, H⟩ := H
        replace H : ((puncheonref05_Many.f kj3 l0).bind fun t224 => (if t224 > t223 then (some (([] : List Int), 1)) else (if 256 ≤ 35184372088832 then (if 256 ≤ 281474976710656 then (puncheonref08_Counts.l0 kj3 l0 t222 t223 (List.replicate 256 0) (List.replicate 256 0) (List.replicate 256 false) 0) else (none)) else (none)))) = some (r1, r2) := H
        have A8 := Aside0.mk A80
        clear A80
        replace H := Option.bind_eq_some_iff.mp H
        obtain ⟨t224, A90, H⟩ := H
        replace H : (if t224 > t223 then (some (([] : List Int), 1)) else (if 256 ≤ 35184372088832 then (if 256 ≤ 281474976710656 then (puncheonref08_Counts.l0 kj3 l0 t222 t223 (List.replicate 256 0) (List.replicate 256 0) (List.replicate 256 false) 0) else (none)) else (none))) = some (r1, r2) := H
        have A9 := Aside0.mk A90
        clear A90
        by_cases c10 : t224 > t223
        · rw [if_pos c10] at H
          have c10b0 : decide (t223 < t224) = true := decide_eq_true c10
          clear c10
          simp only [Option.some.injEq, Prod.mk.injEq] at H
          obtain ⟨rfl, rfl⟩ := H
          go_wp2_with (first | ((with_reducible refine gate_callee (f := 43) rfl ?_); refine goesL_ (some 26) rfl rfl Try.func43 (by kernel_rfl) rfl #[.int .i64 a1] rfl (by (try simp only [List.map_toArray, List.map_cons, List.map_nil]); first | done | rfl | (simp only [List.length_drop, List.length_take]; rfl)) ?_; (with_reducible refine (puncheonref08_power.calls kj3 a1 t223 _ A8.out).mono ?_); rintro e w' ⟨rfl, ⟨nd, rfl⟩⟩; refine ⟨_, rfl, ?_⟩) | ((with_reducible refine gate_callee (f := 44) rfl ?_); refine goesL_ (some 28) rfl rfl Try.func44 (by kernel_rfl) rfl #[.slice A0 l0.length c0] rfl (by (try simp only [List.map_toArray, List.map_cons, List.map_nil]); first | done | rfl | (simp only [List.length_drop, List.length_take]; rfl)) ?_; (with_reducible refine (puncheonref05_Many.calls kj3 _ _ l0 t224 _ ?side1 ?side2 A9.out).mono ?_); (case side1 => repeat (first | exact (Kd.C_below HR0.out (by repeat (first | (with_reducible first | exact HB.out | apply below_alloc | apply pw_below_drewN | apply below_drew1) | exact HB.out))) | (with_reducible refine Kd.C_alloc ?_ _) | (with_reducible refine Kd.C_drewN ?_ _) | (with_reducible refine Kd.C_drew ?_))); (case side2 => exact HC0.out); rintro e w' ⟨rfl, ⟨nd, rfl⟩⟩; refine ⟨_, rfl, ?_⟩))
          go_ret2
          exact ⟨_, by first | rfl | (simp [errW_none, errW_some] <;> rfl) | (simp [*, errW_none, errW_some] <;> rfl), by first | exact Kd.R_nil _ _ _ _ _ | exact Kd.N_nil _ _ _ _ _ | exact Kd.V_nil _ _ _ _ _ | exact Kd.Q_nil _ _ _ _ _ | exact Kd.S_nil _ _ _ _ _, by repeat (first | (with_reducible first | exact HB.out | apply below_alloc | apply pw_below_drewN | apply below_drew1) | exact HB.out)⟩
        · rw [if_neg c10] at H
          have c10b0 : decide (t223 < t224) = false := decide_eq_false c10
          clear c10
          by_cases c11 : 256 ≤ 35184372088832
          · rw [if_pos c11] at H
            have c11b0 := eq_true c11
            have c11b1 : decide (256 ≤ 35184372088832) = true := decide_eq_true c11
            clear c11
            obtain ⟨y225, hy225⟩ : ∃ y_ : List Int, y_ = (List.replicate 256 0) := ⟨_, rfl⟩
            replace H : (if 256 ≤ 281474976710656 then (puncheonref08_Counts.l0 kj3 l0 t222 t223 y225 (List.replicate 256 0) (List.replicate 256 false) 0) else (none)) = some (r1, r2) := by first | (rw [hy225]; with_reducible exact H) | (have H2_ := (Option.bind_some _ _).symm.trans H; rw [hy225]; with_reducible exact H2_) | (have H2_ := (Option.bind_some _ _).symm.trans H; with_reducible exact H2_) | with_reducible exact H | (rw [hy225]; exact H) | exact H
            have Ny225 := Aside0.mk hy225
            clear hy225
            obtain ⟨y228, hy228⟩ : ∃ y_ : List Int, y_ = (List.replicate 256 0) := ⟨_, rfl⟩
            replace H : (if 256 ≤ 281474976710656 then (puncheonref08_Counts.l0 kj3 l0 t222 t223 y225 y228 (List.replicate 256 false) 0) else (none)) = some (r1, r2) := by first | (rw [hy228]; with_reducible exact H) | (have H2_ := (Option.bind_some _ _).symm.trans H; rw [hy228]; with_reducible exact H2_) | (have H2_ := (Option.bind_some _ _).symm.trans H; with_reducible exact H2_) | with_reducible exact H | (rw [hy228]; exact H) | exact H
            have Ny228 := Aside0.mk hy228
            clear hy228
            by_cases c12 : 256 ≤ 281474976710656
            · rw [if_pos c12] at H
              have c12b0 := eq_true c12
              have c12b1 : decide (256 ≤ 281474976710656) = true := decide_eq_true c12
              clear c12
              obtain ⟨y231, hy231⟩ : ∃ y_ : List Bool, y_ = (List.replicate 256 false) := ⟨_, rfl⟩
              replace H : (puncheonref08_Counts.l0 kj3 l0 t222 t223 y225 y228 y231 0) = some (r1, r2) := by first | (rw [hy231]; with_reducible exact H) | (have H2_ := (Option.bind_some _ _).symm.trans H; rw [hy231]; with_reducible exact H2_) | (have H2_ := (Option.bind_some _ _).symm.trans H; with_reducible exact H2_) | with_reducible exact H | (rw [hy231]; exact H) | exact H
              have Ny231 := Aside0.mk hy231
              clear hy231
              have H' := Aside0.mk H
              clear H
              go_wp2_with (first | ((with_reducible refine gate_callee (f := 43) rfl ?_); refine goesL_ (some 26) rfl rfl Try.func43 (by kernel_rfl) rfl #[.int .i64 a1] rfl (by (try simp only [List.map_toArray, List.map_cons, List.map_nil]); first | done | rfl | (simp only [List.length_drop, List.length_take]; rfl)) ?_; (with_reducible refine (puncheonref08_power.calls kj3 a1 t223 _ A8.out).mono ?_); rintro e w' ⟨rfl, ⟨nd, rfl⟩⟩; refine ⟨_, rfl, ?_⟩) | ((with_reducible refine gate_callee (f := 44) rfl ?_); refine goesL_ (some 28) rfl rfl Try.func44 (by kernel_rfl) rfl #[.slice A0 l0.length c0] rfl (by (try simp only [List.map_toArray, List.map_cons, List.map_nil]); first | done | rfl | (simp only [List.length_drop, List.length_take]; rfl)) ?_; (with_reducible refine (puncheonref05_Many.calls kj3 _ _ l0 t224 _ ?side1 ?side2 A9.out).mono ?_); (case side1 => repeat (first | exact (Kd.C_below HR0.out (by repeat (first | (with_reducible first | exact HB.out | apply below_alloc | apply pw_below_drewN | apply below_drew1) | exact HB.out))) | (with_reducible refine Kd.C_alloc ?_ _) | (with_reducible refine Kd.C_drewN ?_ _) | (with_reducible refine Kd.C_drew ?_))); (case side2 => exact HC0.out); rintro e w' ⟨rfl, ⟨nd, rfl⟩⟩; refine ⟨_, rfl, ?_⟩) | ((with_reducible refine gate_dst (N := 31) rfl ?_); refine Kd.R_make (Kd.int .i64) _ 3 rfl (N := 31) rfl 22 _ _ rfl 256 rfl rfl Try.underlying22 (.int .i64 0) 8 info3 rfl (by decide) (by omega) 0 (ok := fun _ => True) (okp := fun _ => True) rfl (fun _ hk => hk) trivial (by omega) (by omega) (Below.refl _ _) (Nat.le_refl _) ?_; intro v226 w13 ho14 hb hg_ hnew_; clear hg_ hnew_; (first | rw [← Ny225.out] at ho14 | (simp only [Int.reduceToNat] at ho14; rw [← Ny225.out] at ho14)); have n0_ := Aside0.mk (Kd.R_lower ho14 (below_size (by repeat (first | (with_reducible first | exact HB.out | apply below_alloc | apply pw_below_drewN | apply below_drew1) | exact HB.out)))); have n1_ := Aside0.mk (below_step (by repeat (first | (with_reducible first | exact HB.out | apply below_alloc | apply pw_below_drewN | apply below_drew1) | exact HB.out)) hb); clear HB; have HO227 := n0_; have HB := n1_; clear n0_ n1_; clear hb ho14) | ((with_reducible refine gate_dst (N := 32) rfl ?_); refine Kd.R_make (Kd.int .i64) _ 3 rfl (N := 32) rfl 22 _ _ rfl 256 rfl rfl Try.underlying22 (.int .i64 0) 8 info3 rfl (by decide) (by omega) 0 (ok := fun _ => True) (okp := fun _ => True) rfl (fun _ hk => hk) trivial (by omega) (by omega) (Below.refl _ _) (Nat.le_refl _) ?_; intro v229 w15 ho16 hb hg_ hnew_; clear hg_ hnew_; (first | rw [← Ny228.out] at ho16 | (simp only [Int.reduceToNat] at ho16; rw [← Ny228.out] at ho16)); have n0_ := Aside0.mk (Kd.R_elder' (by (with_reducible repeat (first | apply Kd.R_alloc | apply Kd.R_drewN | apply Kd.R_drew)); exact HO227.out) (Kd.R_base ho16) hb); have n1_ := Aside0.mk (Kd.R_lower (Kd.R_new' ho16 (Kd.R_lt (by (with_reducible repeat (first | apply Kd.R_alloc | apply Kd.R_drewN | apply Kd.R_drew)); exact HO227.out))) (below_size (by repeat (first | (with_reducible first | exact HB.out | apply below_alloc | apply pw_below_drewN | apply below_drew1) | exact HB.out)))); have n2_ := Aside0.mk (below_step (by repeat (first | (with_reducible first | exact HB.out | apply below_alloc | apply pw_below_drewN | apply below_drew1) | exact HB.out)) hb); clear HO227; clear HB; have HO227 := n0_; have HO230 := n1_; have HB := n2_; clear n0_ n1_ n2_; clear hb ho16) | ((with_reducible refine gate_dst (N := 33) rfl ?_); refine Kd.R_make Kd.bool _ 4 rfl (N := 33) rfl 27 _ _ rfl 256 rfl rfl Try.underlying27 (.bool false) 1 info4 rfl (by decide) (by omega) false (ok := fun _ => True) (okp := fun _ => True) rfl (fun _ hk => hk) trivial (by omega) (by omega) (Below.refl _ _) (Nat.le_refl _) ?_; intro v232 w17 ho18 hb hg_ hnew_; clear hg_ hnew_; (first | rw [← Ny231.out] at ho18 | (simp only [Int.reduceToNat] at ho18; rw [← Ny231.out] at ho18)); have n0_ := Aside0.mk (Kd.R_below (by (with_reducible repeat (first | apply Kd.R_alloc | apply Kd.R_drewN | apply Kd.R_drew)); exact HO227.out) hb); have n1_ := Aside0.mk (Kd.R_below (by (with_reducible repeat (first | apply Kd.R_alloc | apply Kd.R_drewN | apply Kd.R_drew)); exact HO230.out) hb); have n2_ := Aside0.mk (Kd.R_lower ho18 (below_size (by repeat (first | (with_reducible first | exact HB.out | apply below_alloc | apply pw_below_drewN | apply below_drew1) | exact HB.out)))); have n3_ := Aside0.mk (below_step (by repeat (first | (with_reducible first | exact HB.out | apply below_alloc | apply pw_below_drewN | apply below_drew1) | exact HB.out)) hb); clear HO227; clear HO230; clear HB; have HO227 := n0_; have HO230 := n1_; have HO233 := n2_; have HB := n3_; clear n0_ n1_ n2_ n3_; clear hb ho18))
              go_loopg [11] kj3 (fun kq v11 w' => ∃ (x8_2 : List Int) (x9_2 : List Int) (x10_2 : List Bool) (x11_2 : Int), v11 = .int .i64 x11_2 ∧ Aside0 (puncheonref08_Counts.l0 kq l0 t222 t223 x8_2 x9_2 x10_2 x11_2 = some (r1, r2)) ∧ Aside0 (kq ≤ kj3) ∧ Aside0 (Kd.R (Kd.int .i64) 3 w' w.heap.size (fun k_ => some k_ ≠ (v229 : Value).ownBlock) v226 x8_2) ∧ Aside0 (Kd.R (Kd.int .i64) 3 w' w.heap.size (fun k_ => some k_ ≠ (v226 : Value).ownBlock) v229 x9_2) ∧ Aside0 (Kd.R Kd.bool 4 w' w.heap.size (fun _ => True) v232 x10_2) ∧ Aside0 (Below w.heap.size w w'))
              case atStart => exact ⟨(y225), (y228), (y231), (0), (by first | rfl | (simp; done) | (simp [*]; done)), H', ⟨Nat.le_refl _⟩, ⟨by (with_reducible repeat (first | apply Kd.R_alloc | apply Kd.R_drewN | apply Kd.R_drew)); exact Kd.R_mono HO227.out (fun _ hk => hk.2)⟩, ⟨by (with_reducible repeat (first | apply Kd.R_alloc | apply Kd.R_drewN | apply Kd.R_drew)); exact Kd.R_mono HO230.out (fun _ hk => hk.2)⟩, ⟨by (with_reducible repeat (first | apply Kd.R_alloc | apply Kd.R_drewN | apply Kd.R_drew)); exact HO233.out⟩, ⟨by repeat (first | (with_reducible first | exact HB.out | apply below_alloc | apply pw_below_drewN | apply below_drew1) | exact HB.out)⟩⟩
              case round =>
                clear H'
                try clear c1
                try clear p2
                try clear c4
                try clear c5
                try clear c5b0
                try clear c5b1
                try clear c6
                try clear c6b0
                try clear c7
                try clear c10
                try clear c10b0
                try clear c11
                try clear c11b0
                try clear c11b1
                try clear c12
                try clear c12b0
                try clear c12b1
                try clear p2
                obtain ⟨x8_2, x9_2, x10_2, x11_2, rfl, HA, HK2, HO_8, HO_9, HO_10, HB⟩ := hrel
                cases gk with
                | zero => exact absurd HA.out (by simp [puncheonref08_Counts.l0])
                | succ k2 =>
                  have H := HA.out
                  clear HA
                  simp only [puncheonref08_Counts.l0] at H
                  by_cases c19 : x11_2 < 256
                  · rw [if_pos c19] at H
                    have c19b0 : decide (x11_2 < 256) = true := decide_eq_true c19
                    clear c19
                    by_cases c20 : 0 ≤ x11_2
                    · rw [if_pos c20] at H
                      have c20b0 : decide (0 ≤ x11_2) = true := decide_eq_true c20
                      clear c20
                      by_cases c21 : x11_2 < (l0.length : Int)
                      · rw [if_pos c21] at H
                        have c21b0 : decide (x11_2 < (l0.length : Int)) = true := decide_eq_true c21
                        clear c21
                        by_cases c22 : t222 = 0
                        · rw [if_pos c22] at H
                          exact absurd H (by simp)
                        · rw [if_neg c22] at H
                          have c22b0 : (t222 == 0) = false := beq_eq_false_iff_ne.mpr c22
                          have c22b1 : (t222 != 0) = true := bne_iff_ne.mpr c22
                          by_cases c23 : x11_2 < (x8_2.length : Int)
                          · rw [if_pos c23] at H
                            have c23b0 : decide (x11_2 < (x8_2.length : Int)) = true := decide_eq_true c23
                            clear c23
                            obtain ⟨y235, hy235⟩ : ∃ y_ : List Int, y_ = (x8_2.set (x11_2 : Int).toNat (wrap64 (Int.tdiv (wrap64 ((rd l0 x11_2) * t223)) t222))) := ⟨_, rfl⟩
                            replace H : (if x11_2 < (x9_2.length : Int) then ((some (x9_2.set (x11_2 : Int).toNat (Int.tmod (wrap64 ((rd l0 x11_2) * t223)) t222) : List Int)).bind fun y237 => (if (rd y235 x11_2) = 0 then (if x11_2 < (x10_2.length : Int) then (puncheonref08_Counts.l0 k2 l0 t222 t223 (y235.set (x11_2 : Int).toNat (mn (rd l0 x11_2) 1)) y237 (x10_2.set (x11_2 : Int).toNat true) (wrap64 (x11_2 + 1))) else (none)) else (puncheonref08_Counts.l0 k2 l0 t222 t223 y235 y237 x10_2 (wrap64 (x11_2 + 1))))) else (none)) = some (r1, r2) := by first | (rw [hy235]; with_reducible exact H) | (have H2_ := (Option.bind_some _ _).symm.trans H; rw [hy235]; with_reducible exact H2_) | (have H2_ := (Option.bind_some _ _).symm.trans H; with_reducible exact H2_) | with_reducible exact H | (rw [hy235]; exact H) | exact H
                            have Ny235 := Aside0.mk hy235
                            clear hy235
                            by_cases c25 : x11_2 < (x9_2.length : Int)
                            · rw [if_pos c25] at H
                              have c25b0 : decide (x11_2 < (x9_2.length : Int)) = true := decide_eq_true c25
                              clear c25
                              obtain ⟨y237, hy237⟩ : ∃ y_ : List Int, y_ = (x9_2.set (x11_2 : Int).toNat (Int.tmod (wrap64 ((rd l0 x11_2) * t223)) t222)) := ⟨_, rfl⟩
                              replace H : (if (rd y235 x11_2) = 0 then (if x11_2 < (x10_2.length : Int) then (puncheonref08_Counts.l0 k2 l0 t222 t223 (y235.set (x11_2 : Int).toNat (mn (rd l0 x11_2) 1)) y237 (x10_2.set (x11_2 : Int).toNat true) (wrap64 (x11_2 + 1))) else (none)) else (puncheonref08_Counts.l0 k2 l0 t222 t223 y235 y237 x10_2 (wrap64 (x11_2 + 1)))) = some (r1, r2) := by first | (rw [hy237]; with_reducible exact H) | (have H2_ := (Option.bind_some _ _).symm.trans H; rw [hy237]; with_reducible exact H2_) | (have H2_ := (Option.bind_some _ _).symm.trans H; with_reducible exact H2_) | with_reducible exact H | (rw [hy237]; exact H) | exact H
                              have Ny237 := Aside0.mk hy237
                              clear hy237
                              by_cases c27 : (rd y235 x11_2) = 0
                              · rw [if_pos c27] at H
                                have c27b0 : ((rd y235 x11_2) == 0) = true := beq_iff_eq.mpr c27
                                have c27b1 : ((rd y235 x11_2) != 0) = false := bne_eq_false_iff_eq.mpr c27
                                clear c27
                                by_cases c28 : x11_2 < (x10_2.length : Int)
                                · rw [if_pos c28] at H
                                  have c28b0 : decide (x11_2 < (x10_2.length : Int)) = true := decide_eq_true c28
                                  clear c28
                                  obtain ⟨y239, hy239⟩ : ∃ y_ : List Bool, y_ = (x10_2.set (x11_2 : Int).toNat true) := ⟨_, rfl⟩
                                  replace H : (puncheonref08_Counts.l0 k2 l0 t222 t223 (y235.set (x11_2 : Int).toNat (mn (rd l0 x11_2) 1)) y237 y239 (wrap64 (x11_2 + 1))) = some (r1, r2) := by first | (rw [hy239]; with_reducible exact H) | (have H2_ := (Option.bind_some _ _).symm.trans H; rw [hy239]; with_reducible exact H2_) | (have H2_ := (Option.bind_some _ _).symm.trans H; with_reducible exact H2_) | with_reducible exact H | (rw [hy239]; exact H) | exact H
                                  have Ny239 := Aside0.mk hy239
                                  clear hy239
                                  obtain ⟨ji30, hji30⟩ : ∃ j_ : Int, (mn (rd l0 x11_2) 1) = j_ := ⟨_, rfl⟩
                                  replace H : (puncheonref08_Counts.l0 k2 l0 t222 t223 (y235.set (x11_2 : Int).toNat (ji30)) y237 y239 (wrap64 (x11_2 + 1))) = some (r1, r2) := by first | (rw [hji30] at H; exact H) | (simp only [hji30] at H ⊢; exact H)
                                  have hji30_ : (if 1 < (rd l0 x11_2) then 1 else (rd l0 x11_2)) = ji30 := hji30
                                  obtain ⟨y241, hy241⟩ : ∃ y_ : List Int, y_ = (y235.set (x11_2 : Int).toNat (ji30)) := ⟨_, rfl⟩
                                  replace H : (puncheonref08_Counts.l0 k2 l0 t222 t223 y241 y237 y239 (wrap64 (x11_2 + 1))) = some (r1, r2) := by first | (rw [hy241]; with_reducible exact H) | (have H2_ := (Option.bind_some _ _).symm.trans H; rw [hy241]; with_reducible exact H2_) | (have H2_ := (Option.bind_some _ _).symm.trans H; with_reducible exact H2_) | with_reducible exact H | (rw [hy241]; exact H) | exact H
                                  have Ny241 := Aside0.mk hy241
                                  clear hy241
                                  have H' := Aside0.mk H
                                  clear H
                                  have p234 : 0 ≤ (x11_2 : Int) := of_decide_eq_true (by first | (with_reducible assumption) | assumption)
                                  have q234 : x11_2 < (l0.length : Int) := of_decide_eq_true (by first | (with_reducible assumption) | assumption)
                                  obtain ⟨ad234, e234, hx234_0⟩ := Kd.at_int HR0.out x11_2 p234 q234
                                  cases e234
                                  replace hx234_0 := (HB.out.cell (World.block_lt_of_cell? w _ hx234_0)).trans hx234_0
                                  replace p234 := eq_true p234
                                  replace q234 := eq_true q234
                                  have p24 : 0 ≤ (x11_2 : Int) := of_decide_eq_true (by first | (with_reducible assumption) | assumption)
                                  have q24 : (x11_2 : Int) < ((x8_2.length : Int) : Int) := of_decide_eq_true (by first | (with_reducible assumption) | assumption)
                                  obtain ⟨go24, co24, eo24, gb24, gl24, cl24, HG24⟩ := Kd.R_form HO_8.out (by omega)
                                  (first | cases eo24 | (injection eo24 with ea_ en_ ec_; (first | subst ea_ | (injection ea_ with ea_; subst ea_)); subst ec_; clear en_))
                                  have GB24 := Aside0.mk gb24
                                  have GG24 := Aside0.mk HG24
                                  clear gb24 gl24 HG24
                                  obtain ⟨hx24_0, hf24_0⟩ := Kd.R_celln 0 HO_8.out (x11_2 : Int) p24 q24
                                  replace p24 := eq_true p24
                                  replace q24 := eq_true q24
                                  have HP32 := Kd.R_putg HO_8.out (x11_2 : Int) (wrap64 (Int.tdiv (wrap64 ((rd l0 x11_2) * t223)) t222))
                                  go_wp2_with (first | ((with_reducible refine gate_store (t := 3) (p := 48) rfl ?_); refine store_event (t := 3) (p := 48) (v := ?vo_w33) (w1 := (wr.setCell ⟨go24, (x11_2 : Int).toNat, none⟩ (.int .i64 (wrap64 (Int.tdiv (wrap64 ((rd l0 x11_2) * t223)) t222))))) ?hg ?ho ?hn ?hr ?_; (case ho => rfl); (case hg => rfl); (case hn => rfl); (case hr => first | (go_simp; done) | (go_simp; rfl)); intro w33 hw; have hg : wr.grownBy w33 (some go24) := (by rw [hw]; exact HP32.2); have hp_ : Kd.R (Kd.int .i64) 3 w33 w.heap.size (fun k_ => some k_ ≠ (v229 : Value).ownBlock) (.slice (some ⟨go24, 0, none⟩) x8_2.length co24) y235 := (by rw [hw, Ny235.out]; exact HP32.1); clear HP32; have n0_ := Aside0.mk (hp_); have n1_ := Aside0.mk (Kd.R_after (v := (.slice (some ⟨go24, 0, none⟩) x8_2.length co24)) (v1 := (.slice (some ⟨go24, 0, none⟩) x8_2.length co24)) (ok := (fun _ => True)) (by (with_reducible repeat (first | apply Kd.R_alloc | apply Kd.R_drewN | apply Kd.R_drew)); exact Kd.R_mono HO_9.out (fun _ hk => ⟨trivial, hk⟩)) hg (.inl rfl)); have n2_ := Aside0.mk (Kd.R_over' (v := (.slice (some ⟨go24, 0, none⟩) x8_2.length co24)) (by (with_reducible repeat (first | apply Kd.R_alloc | apply Kd.R_drewN | apply Kd.R_drew)); exact HO_10.out) (Kd.R_typed HO_8.out) (by decide) hg); have n3_ := Aside0.mk ((by rw [hw]; exact below_set (HB.out) GB24.out : Below w.heap.size w w33)); clear HO_8; clear HO_9; clear HO_10; clear HB; have HO_8 := n0_; have HO_9 := n1_; have HO_10 := n2_; have HB := n3_; clear n0_ n1_ n2_ n3_; clear hg hw hp_; have p236 : 0 ≤ (x11_2 : Int) := of_decide_eq_true (by first | (with_reducible assumption) | assumption); have q236 : x11_2 < (l0.length : Int) := of_decide_eq_true (by first | (with_reducible assumption) | assumption); obtain ⟨ad236, e236, hx236_0⟩ := Kd.at_int HR0.out x11_2 p236 q236; obtain rfl : ad234 = ad236 := (by injection e236); replace hx236_0 := (HB.out.cell (World.block_lt_of_cell? w _ hx236_0)).trans hx236_0; replace p236 := eq_true p236; replace q236 := eq_true q236; have p26 : 0 ≤ (x11_2 : Int) := of_decide_eq_true (by first | (with_reducible assumption) | assumption); have q26 : (x11_2 : Int) < ((x9_2.length : Int) : Int) := of_decide_eq_true (by first | (with_reducible assumption) | assumption); obtain ⟨go26, co26, eo26, gb26, gl26, cl26, HG26⟩ := Kd.R_form HO_9.out (by omega); (first | cases eo26 | (injection eo26 with ea_ en_ ec_; (first | subst ea_ | (injection ea_ with ea_; subst ea_)); subst ec_; clear en_)); have GB26 := Aside0.mk gb26; have GG26 := Aside0.mk HG26; clear gb26 gl26 HG26; obtain ⟨hx26_0, hf26_0⟩ := Kd.R_celln 0 HO_9.out (x11_2 : Int) p26 q26; replace p26 := eq_true p26; replace q26 := eq_true q26; have n_ := Aside0.mk (Kd.R_mono (ok' := (fun k_ => some k_ ≠ (.slice (some ⟨go24, 0, none⟩) x8_2.length co24 : Value).ownBlock)) HO_9.out (fun k_ hk => hk.2)); clear HO_9; have HO_9 := n_; clear n_; obtain ⟨hy34_, hz34_⟩ := Kd.R_celln 0 HO_9.out (x11_2 : Int) (of_decide_eq_true (by first | (with_reducible assumption) | assumption)) (of_decide_eq_true (by first | (with_reducible assumption) | assumption)); have HP34 := Kd.R_putg HO_9.out (x11_2 : Int) (Int.tmod (wrap64 ((rd l0 x11_2) * t223)) t222)) | ((with_reducible refine gate_store (t := 3) (p := 59) rfl ?_); refine store_event (t := 3) (p := 59) (v := ?vo_w35) (w1 := (w33.setCell ⟨go26, (x11_2 : Int).toNat, none⟩ (.int .i64 (Int.tmod (wrap64 ((rd l0 x11_2) * t223)) t222)))) ?hg ?ho ?hn ?hr ?_; (case ho => rfl); (case hg => rfl); (case hn => rfl); (case hr => first | (go_simp; done) | (go_simp; rfl)); intro w35 hw; have hg : w33.grownBy w35 (some go26) := (by rw [hw]; exact HP34.2); have hp_ : Kd.R (Kd.int .i64) 3 w35 w.heap.size (fun k_ => some k_ ≠ (.slice (some ⟨go24, 0, none⟩) x8_2.length co24 : Value).ownBlock) (.slice (some ⟨go26, 0, none⟩) x9_2.length co26) y237 := (by rw [hw, Ny237.out]; exact HP34.1); clear HP34; have n0_ := Aside0.mk (Kd.R_after (v := (.slice (some ⟨go26, 0, none⟩) x9_2.length co26)) (v1 := (.slice (some ⟨go26, 0, none⟩) x9_2.length co26)) (ok := (fun _ => True)) (by (with_reducible repeat (first | apply Kd.R_alloc | apply Kd.R_drewN | apply Kd.R_drew)); exact Kd.R_mono HO_8.out (fun _ hk => ⟨trivial, hk⟩)) hg (.inl rfl)); have n1_ := Aside0.mk (hp_); have n2_ := Aside0.mk (Kd.R_over' (v := (.slice (some ⟨go26, 0, none⟩) x9_2.length co26)) (by (with_reducible repeat (first | apply Kd.R_alloc | apply Kd.R_drewN | apply Kd.R_drew)); exact HO_10.out) (Kd.R_typed HO_9.out) (by decide) hg); have n3_ := Aside0.mk ((by rw [hw]; exact below_set (HB.out) GB26.out : Below w.heap.size w w35)); clear HO_8; clear HO_9; clear HO_10; clear HB; have HO_8 := n0_; have HO_9 := n1_; have HO_10 := n2_; have HB := n3_; clear n0_ n1_ n2_ n3_; clear hg hw hp_; have p238 : 0 ≤ (x11_2 : Int) := of_decide_eq_true (by first | (with_reducible assumption) | assumption); have q238 : x11_2 < (y235.length : Int) := (by have h_ : (x11_2 : Int) < ((x8_2.length : Int) : Int) := of_decide_eq_true (by first | (with_reducible assumption) | assumption); first | (have e_ := (Kd.R_reads' HO_8.out).1; omega) | simpa only [Ny235.out, List.length_set] using h_); have ql238 : ((x11_2 : Int) < ((x8_2.length : Int) : Int)) = True := eq_true (of_decide_eq_true (by first | (with_reducible assumption) | assumption)); obtain ⟨ad238, e238, hx238_0⟩ := Kd.at_int (Kd.R_reads' HO_8.out).2.2 x11_2 p238 q238; obtain rfl : (⟨go24, 0, none⟩ : Addr) = ad238 := (by injection e238); (first | simp only [add_plain] at hx238_0 | simp only [add_at] at hx238_0 | simp only [Addr.add, Nat.zero_add] at hx238_0 | skip); replace p238 := eq_true p238; replace q238 := eq_true q238; have p29 : 0 ≤ (x11_2 : Int) := of_decide_eq_true (by first | (with_reducible assumption) | assumption); have q29 : (x11_2 : Int) < ((x10_2.length : Int) : Int) := of_decide_eq_true (by first | (with_reducible assumption) | assumption); obtain ⟨go29, co29, eo29, gb29, gl29, cl29, HG29⟩ := Kd.R_form HO_10.out (by omega); (first | cases eo29 | (injection eo29 with ea_ en_ ec_; (first | subst ea_ | (injection ea_ with ea_; subst ea_)); subst ec_; clear en_)); have GB29 := Aside0.mk gb29; have GG29 := Aside0.mk HG29; clear gb29 gl29 HG29; obtain ⟨hx29_0, hf29_0⟩ := Kd.R_celln false HO_10.out (x11_2 : Int) p29 q29; replace p29 := eq_true p29; replace q29 := eq_true q29; obtain ⟨hy36_, hz36_⟩ := Kd.R_celln false HO_10.out (x11_2 : Int) (of_decide_eq_true (by first | (with_reducible assumption) | assumption)) (of_decide_eq_true (by first | (with_reducible assumption) | assumption)); have HP36 := Kd.R_putg HO_10.out (x11_2 : Int) true) | ((with_reducible refine gate_store (t := 4) (p := 67) rfl ?_); refine store_event (t := 4) (p := 67) (v := ?vo_w37) (w1 := (w35.setCell ⟨go29, (x11_2 : Int).toNat, none⟩ (.bool true))) ?hg ?ho ?hn ?hr ?_; (case ho => rfl); (case hg => rfl); (case hn => rfl); (case hr => first | (go_simp; done) | (go_simp; rfl)); intro w37 hw; have hg : w35.grownBy w37 (some go29) := (by rw [hw]; exact HP36.2); have hp_ : Kd.R Kd.bool 4 w37 w.heap.size (fun _ => True) (.slice (some ⟨go29, 0, none⟩) x10_2.length co29) y239 := (by rw [hw, Ny239.out]; exact HP36.1); clear HP36; have n0_ := Aside0.mk (Kd.R_over' (v := (.slice (some ⟨go29, 0, none⟩) x10_2.length co29)) (by (with_reducible repeat (first | apply Kd.R_alloc | apply Kd.R_drewN | apply Kd.R_drew)); exact HO_8.out) (Kd.R_typed HO_10.out) (by decide) hg); have n1_ := Aside0.mk (Kd.R_over' (v := (.slice (some ⟨go29, 0, none⟩) x10_2.length co29)) (by (with_reducible repeat (first | apply Kd.R_alloc | apply Kd.R_drewN | apply Kd.R_drew)); exact HO_9.out) (Kd.R_typed HO_10.out) (by decide) hg); have n2_ := Aside0.mk (hp_); have n3_ := Aside0.mk ((by rw [hw]; exact below_set (HB.out) GB29.out : Below w.heap.size w w37)); clear HO_8; clear HO_9; clear HO_10; clear HB; have HO_8 := n0_; have HO_9 := n1_; have HO_10 := n2_; have HB := n3_; clear n0_ n1_ n2_ n3_; clear hg hw hp_; have p240 : 0 ≤ (x11_2 : Int) := of_decide_eq_true (by first | (with_reducible assumption) | assumption); have q240 : x11_2 < (l0.length : Int) := of_decide_eq_true (by first | (with_reducible assumption) | assumption); obtain ⟨ad240, e240, hx240_0⟩ := Kd.at_int HR0.out x11_2 p240 q240; obtain rfl : ad234 = ad240 := (by injection e240); replace hx240_0 := (HB.out.cell (World.block_lt_of_cell? w _ hx240_0)).trans hx240_0; replace p240 := eq_true p240; replace q240 := eq_true q240; have p31 : 0 ≤ (x11_2 : Int) := of_decide_eq_true (by first | (with_reducible assumption) | assumption); have q31 : (x11_2 : Int) < ((x8_2.length : Int) : Int) := of_decide_eq_true (by first | (with_reducible assumption) | assumption); obtain ⟨hx31_0, hf31_0⟩ := Kd.R_celln 0 HO_8.out (x11_2 : Int) p31 q31; replace p31 := eq_true p31; replace q31 := eq_true q31; have n_ := Aside0.mk (Kd.R_mono (ok' := (fun k_ => some k_ ≠ (.slice (some ⟨go26, 0, none⟩) x9_2.length co26 : Value).ownBlock)) HO_8.out (fun k_ hk => hk.2)); clear HO_8; have HO_8 := n_; clear n_; obtain ⟨hy38_, hz38_⟩ := Kd.R_celln 0 HO_8.out (x11_2 : Int) (of_decide_eq_true (by first | (with_reducible assumption) | assumption)) (of_decide_eq_true (by first | (with_reducible assumption) | assumption)); have HP38 := Kd.R_putg HO_8.out (x11_2 : Int) ji30) | ((with_reducible refine gate_store (t := 3) (p := 75) rfl ?_); refine store_event (t := 3) (p := 75) (v := ?vo_w39) (w1 := (w37.setCell ⟨go24, (x11_2 : Int).toNat, none⟩ (.int .i64 ji30))) ?hg ?ho ?hn ?hr ?_; (case ho => rfl); (case hg => rfl); (case hn => rfl); (case hr => first | (go_simp; done) | (go_simp; rfl)); intro w39 hw; have hg : w37.grownBy w39 (some go24) := (by rw [hw]; exact HP38.2); have hp_ : Kd.R (Kd.int .i64) 3 w39 w.heap.size (fun k_ => some k_ ≠ (.slice (some ⟨go26, 0, none⟩) x9_2.length co26 : Value).ownBlock) (.slice (some ⟨go24, 0, none⟩) x8_2.length co24) y241 := (by rw [hw, Ny241.out]; exact HP38.1); clear HP38; have n0_ := Aside0.mk (hp_); have n1_ := Aside0.mk (Kd.R_after (v := (.slice (some ⟨go24, 0, none⟩) x8_2.length co24)) (v1 := (.slice (some ⟨go24, 0, none⟩) x8_2.length co24)) (ok := (fun _ => True)) (by (with_reducible repeat (first | apply Kd.R_alloc | apply Kd.R_drewN | apply Kd.R_drew)); exact Kd.R_mono HO_9.out (fun _ hk => ⟨trivial, hk⟩)) hg (.inl rfl)); have n2_ := Aside0.mk (Kd.R_over' (v := (.slice (some ⟨go24, 0, none⟩) x8_2.length co24)) (by (with_reducible repeat (first | apply Kd.R_alloc | apply Kd.R_drewN | apply Kd.R_drew)); exact HO_10.out) (Kd.R_typed HO_8.out) (by decide) hg); have n3_ := Aside0.mk ((by rw [hw]; exact below_set (HB.out) GB24.out : Below w.heap.size w w39)); clear HO_8; clear HO_9; clear HO_10; clear HB; have HO_8 := n0_; have HO_9 := n1_; have HO_10 := n2_; have HB := n3_; clear n0_ n1_ n2_ n3_; clear hg hw hp_))
                                  subst hji30
                                  go_roundg k2
                                  case measure => have := HJ3.out; have := HK2.out; omega
                                  case rel => exact ⟨(y241), (y237), (y239), (wrap64 (x11_2 + 1)), (by first | rfl | (simp; done) | (simp [*]; done)), H', ⟨by have := HJ3.out; have := HK2.out; omega⟩, ⟨by (with_reducible repeat (first | apply Kd.R_alloc | apply Kd.R_drewN | apply Kd.R_drew)); exact HO_8.out⟩, ⟨by (with_reducible repeat (first | apply Kd.R_alloc | apply Kd.R_drewN | apply Kd.R_drew)); exact Kd.R_mono HO_9.out (fun _ hk => hk.2)⟩, ⟨by (with_reducible repeat (first | apply Kd.R_alloc | apply Kd.R_drewN | apply Kd.R_drew)); exact HO_10.out⟩, ⟨by repeat (first | (with_reducible first | exact HB.out | apply below_alloc | apply pw_below_drewN | apply below_drew1) | exact HB.out)⟩⟩
                                · rw [if_neg c28] at H
                                  exact absurd H (by simp)
                              · rw [if_neg c27] at H
                                have c27b0 : ((rd y235 x11_2) == 0) = false := beq_eq_false_iff_ne.mpr c27
                                have c27b1 : ((rd y235 x11_2) != 0) = true := bne_iff_ne.mpr c27
                                have H' := Aside0.mk H
                                clear H
                                have p234 : 0 ≤ (x11_2 : Int) := of_decide_eq_true (by first | (with_reducible assumption) | assumption)
                                have q234 : x11_2 < (l0.length : Int) := of_decide_eq_true (by first | (with_reducible assumption) | assumption)
                                obtain ⟨ad234, e234, hx234_0⟩ := Kd.at_int HR0.out x11_2 p234 q234
                                cases e234
                                replace hx234_0 := (HB.out.cell (World.block_lt_of_cell? w _ hx234_0)).trans hx234_0
                                replace p234 := eq_true p234
                                replace q234 := eq_true q234
                                have p24 : 0 ≤ (x11_2 : Int) := of_decide_eq_true (by first | (with_reducible assumption) | assumption)
                                have q24 : (x11_2 : Int) < ((x8_2.length : Int) : Int) := of_decide_eq_true (by first | (with_reducible assumption) | assumption)
                                obtain ⟨go24, co24, eo24, gb24, gl24, cl24, HG24⟩ := Kd.R_form HO_8.out (by omega)
                                (first | cases eo24 | (injection eo24 with ea_ en_ ec_; (first | subst ea_ | (injection ea_ with ea_; subst ea_)); subst ec_; clear en_))
                                have GB24 := Aside0.mk gb24
                                have GG24 := Aside0.mk HG24
                                clear gb24 gl24 HG24
                                obtain ⟨hx24_0, hf24_0⟩ := Kd.R_celln 0 HO_8.out (x11_2 : Int) p24 q24
                                replace p24 := eq_true p24
                                replace q24 := eq_true q24
                                have HP40 := Kd.R_putg HO_8.out (x11_2 : Int) (wrap64 (Int.tdiv (wrap64 ((rd l0 x11_2) * t223)) t222))
                                go_wp2_with (first | ((with_reducible refine gate_store (t := 3) (p := 48) rfl ?_); refine store_event (t := 3) (p := 48) (v := ?vo_w41) (w1 := (wr.setCell ⟨go24, (x11_2 : Int).toNat, none⟩ (.int .i64 (wrap64 (Int.tdiv (wrap64 ((rd l0 x11_2) * t223)) t222))))) ?hg ?ho ?hn ?hr ?_; (case ho => rfl); (case hg => rfl); (case hn => rfl); (case hr => first | (go_simp; done) | (go_simp; rfl)); intro w41 hw; have hg : wr.grownBy w41 (some go24) := (by rw [hw]; exact HP40.2); have hp_ : Kd.R (Kd.int .i64) 3 w41 w.heap.size (fun k_ => some k_ ≠ (v229 : Value).ownBlock) (.slice (some ⟨go24, 0, none⟩) x8_2.length co24) y235 := (by rw [hw, Ny235.out]; exact HP40.1); clear HP40; have n0_ := Aside0.mk (hp_); have n1_ := Aside0.mk (Kd.R_after (v := (.slice (some ⟨go24, 0, none⟩) x8_2.length co24)) (v1 := (.slice (some ⟨go24, 0, none⟩) x8_2.length co24)) (ok := (fun _ => True)) (by (with_reducible repeat (first | apply Kd.R_alloc | apply Kd.R_drewN | apply Kd.R_drew)); exact Kd.R_mono HO_9.out (fun _ hk => ⟨trivial, hk⟩)) hg (.inl rfl)); have n2_ := Aside0.mk (Kd.R_over' (v := (.slice (some ⟨go24, 0, none⟩) x8_2.length co24)) (by (with_reducible repeat (first | apply Kd.R_alloc | apply Kd.R_drewN | apply Kd.R_drew)); exact HO_10.out) (Kd.R_typed HO_8.out) (by decide) hg); have n3_ := Aside0.mk ((by rw [hw]; exact below_set (HB.out) GB24.out : Below w.heap.size w w41)); clear HO_8; clear HO_9; clear HO_10; clear HB; have HO_8 := n0_; have HO_9 := n1_; have HO_10 := n2_; have HB := n3_; clear n0_ n1_ n2_ n3_; clear hg hw hp_; have p236 : 0 ≤ (x11_2 : Int) := of_decide_eq_true (by first | (with_reducible assumption) | assumption); have q236 : x11_2 < (l0.length : Int) := of_decide_eq_true (by first | (with_reducible assumption) | assumption); obtain ⟨ad236, e236, hx236_0⟩ := Kd.at_int HR0.out x11_2 p236 q236; obtain rfl : ad234 = ad236 := (by injection e236); replace hx236_0 := (HB.out.cell (World.block_lt_of_cell? w _ hx236_0)).trans hx236_0; replace p236 := eq_true p236; replace q236 := eq_true q236; have p26 : 0 ≤ (x11_2 : Int) := of_decide_eq_true (by first | (with_reducible assumption) | assumption); have q26 : (x11_2 : Int) < ((x9_2.length : Int) : Int) := of_decide_eq_true (by first | (with_reducible assumption) | assumption); obtain ⟨go26, co26, eo26, gb26, gl26, cl26, HG26⟩ := Kd.R_form HO_9.out (by omega); (first | cases eo26 | (injection eo26 with ea_ en_ ec_; (first | subst ea_ | (injection ea_ with ea_; subst ea_)); subst ec_; clear en_)); have GB26 := Aside0.mk gb26; have GG26 := Aside0.mk HG26; clear gb26 gl26 HG26; obtain ⟨hx26_0, hf26_0⟩ := Kd.R_celln 0 HO_9.out (x11_2 : Int) p26 q26; replace p26 := eq_true p26; replace q26 := eq_true q26; have n_ := Aside0.mk (Kd.R_mono (ok' := (fun k_ => some k_ ≠ (.slice (some ⟨go24, 0, none⟩) x8_2.length co24 : Value).ownBlock)) HO_9.out (fun k_ hk => hk.2)); clear HO_9; have HO_9 := n_; clear n_; obtain ⟨hy42_, hz42_⟩ := Kd.R_celln 0 HO_9.out (x11_2 : Int) (of_decide_eq_true (by first | (with_reducible assumption) | assumption)) (of_decide_eq_true (by first | (with_reducible assumption) | assumption)); have HP42 := Kd.R_putg HO_9.out (x11_2 : Int) (Int.tmod (wrap64 ((rd l0 x11_2) * t223)) t222)) | ((with_reducible refine gate_store (t := 3) (p := 59) rfl ?_); refine store_event (t := 3) (p := 59) (v := ?vo_w43) (w1 := (w41.setCell ⟨go26, (x11_2 : Int).toNat, none⟩ (.int .i64 (Int.tmod (wrap64 ((rd l0 x11_2) * t223)) t222)))) ?hg ?ho ?hn ?hr ?_; (case ho => rfl); (case hg => rfl); (case hn => rfl); (case hr => first | (go_simp; done) | (go_simp; rfl)); intro w43 hw; have hg : w41.grownBy w43 (some go26) := (by rw [hw]; exact HP42.2); have hp_ : Kd.R (Kd.int .i64) 3 w43 w.heap.size (fun k_ => some k_ ≠ (.slice (some ⟨go24, 0, none⟩) x8_2.length co24 : Value).ownBlock) (.slice (some ⟨go26, 0, none⟩) x9_2.length co26) y237 := (by rw [hw, Ny237.out]; exact HP42.1); clear HP42; have n0_ := Aside0.mk (Kd.R_after (v := (.slice (some ⟨go26, 0, none⟩) x9_2.length co26)) (v1 := (.slice (some ⟨go26, 0, none⟩) x9_2.length co26)) (ok := (fun _ => True)) (by (with_reducible repeat (first | apply Kd.R_alloc | apply Kd.R_drewN | apply Kd.R_drew)); exact Kd.R_mono HO_8.out (fun _ hk => ⟨trivial, hk⟩)) hg (.inl rfl)); have n1_ := Aside0.mk (hp_); have n2_ := Aside0.mk (Kd.R_over' (v := (.slice (some ⟨go26, 0, none⟩) x9_2.length co26)) (by (with_reducible repeat (first | apply Kd.R_alloc | apply Kd.R_drewN | apply Kd.R_drew)); exact HO_10.out) (Kd.R_typed HO_9.out) (by decide) hg); have n3_ := Aside0.mk ((by rw [hw]; exact below_set (HB.out) GB26.out : Below w.heap.size w w43)); clear HO_8; clear HO_9; clear HO_10; clear HB; have HO_8 := n0_; have HO_9 := n1_; have HO_10 := n2_; have HB := n3_; clear n0_ n1_ n2_ n3_; clear hg hw hp_; have p238 : 0 ≤ (x11_2 : Int) := of_decide_eq_true (by first | (with_reducible assumption) | assumption); have q238 : x11_2 < (y235.length : Int) := (by have h_ : (x11_2 : Int) < ((x8_2.length : Int) : Int) := of_decide_eq_true (by first | (with_reducible assumption) | assumption); first | (have e_ := (Kd.R_reads' HO_8.out).1; omega) | simpa only [Ny235.out, List.length_set] using h_); have ql238 : ((x11_2 : Int) < ((x8_2.length : Int) : Int)) = True := eq_true (of_decide_eq_true (by first | (with_reducible assumption) | assumption)); obtain ⟨ad238, e238, hx238_0⟩ := Kd.at_int (Kd.R_reads' HO_8.out).2.2 x11_2 p238 q238; obtain rfl : (⟨go24, 0, none⟩ : Addr) = ad238 := (by injection e238); (first | simp only [add_plain] at hx238_0 | simp only [add_at] at hx238_0 | simp only [Addr.add, Nat.zero_add] at hx238_0 | skip); replace p238 := eq_true p238; replace q238 := eq_true q238))
                                go_roundg k2
                                case measure => have := HJ3.out; have := HK2.out; omega
                                case rel => exact ⟨(y235), (y237), (x10_2), (wrap64 (x11_2 + 1)), (by first | rfl | (simp; done) | (simp [*]; done)), H', ⟨by have := HJ3.out; have := HK2.out; omega⟩, ⟨by (with_reducible repeat (first | apply Kd.R_alloc | apply Kd.R_drewN | apply Kd.R_drew)); exact Kd.R_mono HO_8.out (fun _ hk => hk.2)⟩, ⟨by (with_reducible repeat (first | apply Kd.R_alloc | apply Kd.R_drewN | apply Kd.R_drew)); exact HO_9.out⟩, ⟨by (with_reducible repeat (first | apply Kd.R_alloc | apply Kd.R_drewN | apply Kd.R_drew)); exact HO_10.out⟩, ⟨by repeat (first | (with_reducible first | exact HB.out | apply below_alloc | apply pw_below_drewN | apply below_drew1) | exact HB.out)⟩⟩
                            · rw [if_neg c25] at H
                              exact absurd H (by simp)
                          · rw [if_neg c23] at H
                            exact absurd H (by simp)
                      · rw [if_neg c21] at H
                        exact absurd H (by simp)
                    · rw [if_neg c20] at H
                      exact absurd H (by simp)
                  · rw [if_neg c19] at H
                    have c19b0 : decide (x11_2 < 256) = false := decide_eq_false c19
                    clear c19
                    have H' := Aside0.mk H
                    clear H
                    go_wp2
                    go_loopg [] k2 (fun kq w' => ∃ (x8_3 : List Int) (x10_3 : List Bool), Aside0 (puncheonref08_Counts.l1 kq l0 t223 x8_3 x9_2 x10_3 = some (r1, r2)) ∧ Aside0 (kq ≤ k2) ∧ Aside0 (Kd.R (Kd.int .i64) 3 w' w.heap.size (fun k_ => some k_ ≠ (v229 : Value).ownBlock) v226 x8_3) ∧ Aside0 (Kd.R (Kd.int .i64) 3 w' w.heap.size (fun k_ => some k_ ≠ (v226 : Value).ownBlock) v229 x9_2) ∧ Aside0 (Kd.R Kd.bool 4 w' w.heap.size (fun _ => True) v232 x10_3) ∧ Aside0 (Below w.heap.size w w'))
                    case atStart => exact ⟨(x8_2), (x10_2), H', ⟨Nat.le_refl _⟩, ⟨by (with_reducible repeat (first | apply Kd.R_alloc | apply Kd.R_drewN | apply Kd.R_drew)); exact HO_8.out⟩, ⟨by (with_reducible repeat (first | apply Kd.R_alloc | apply Kd.R_drewN | apply Kd.R_drew)); exact HO_9.out⟩, ⟨by (with_reducible repeat (first | apply Kd.R_alloc | apply Kd.R_drewN | apply Kd.R_drew)); exact HO_10.out⟩, ⟨by repeat (first | (with_reducible first | exact HB.out | apply below_alloc | apply pw_below_drewN | apply below_drew1) | exact HB.out)⟩⟩
                    case round =>
                      clear H'
                      try clear c1
                      try clear c2
                      try clear p2
                      try clear q2
                      try clear hx2
                      try clear hf2
                      try clear p3
                      try clear q3
                      try clear hx3
                      try clear hf3
                      try clear c4
                      try clear c5
                      try clear c5b0
                      try clear c5b1
                      try clear c6
                      try clear c6b0
                      try clear p6
                      try clear c7
                      try clear c10
                      try clear c10b0
                      try clear c11
                      try clear c11b0
                      try clear c11b1
                      try clear c12
                      try clear c12b0
                      try clear c12b1
                      try clear c19
                      try clear c19b0
                      try clear c20
                      try clear c20b0
                      try clear c21
                      try clear c21b0
                      try clear c22
                      try clear c22b0
                      try clear c22b1
                      try clear c23
                      try clear c23b0
                      try clear p23
                      try clear q23
                      try clear hx23
                      try clear p24
                      try clear q24
                      try clear hx24
                      try clear hf24
                      try clear c25
                      try clear c25b0
                      try clear p26
                      try clear q26
                      try clear hx26
                      try clear hf26
                      try clear c27
                      try clear c27b0
                      try clear c27b1
                      try clear c28
                      try clear c28b0
                      try clear p29
                      try clear q29
                      try clear hx29
                      try clear hf29
                      try clear p31
                      try clear q31
                      try clear hx31
                      try clear hf31
                      try clear c42
                      try clear c43
                      try clear hx234_0
                      try clear hx236_0
                      try clear hx238_0
                      try clear hx240_0
                      try clear hx24_0
                      try clear hx26_0
                      try clear hx29_0
                      try clear hx31_0
                      try clear p2
                      try clear p234
                      try clear p236
                      try clear p238
                      try clear p24
                      try clear p240
                      try clear p26
                      try clear p29
                      try clear p31
                      try clear q234
                      try clear q236
                      try clear q238
                      try clear q24
                      try clear q240
                      try clear q26
                      try clear q29
                      try clear q31
                      obtain ⟨x8_3, x10_3, HA, HK3, HO_8, HO_9, HO_10, HB⟩ := hrel
                      cases gk with
                      | zero => exact absurd HA.out (by simp [puncheonref08_Counts.l1])
                      | succ k3 =>
                        have H := HA.out
                        clear HA
                        simp only [puncheonref08_Counts.l1] at H
                        replace H := Option.bind_eq_some_iff.mp H
                        obtain ⟨t242, A440, H⟩ := H
                        replace H : (if t242 < t223 then ((puncheonref08_neediest.f k3 x9_2 x10_3).bind fun t243 => (if 0 ≤ t243 then (if t243 < (x10_3.length : Int) then (if t243 < (x8_3.length : Int) then (puncheonref08_Counts.l1 k3 l0 t223 (x8_3.set (t243 : Int).toNat (wrap64 ((rd x8_3 t243) + 1))) x9_2 (x10_3.set (t243 : Int).toNat true)) else (none)) else (none)) else (none))) else (puncheonref08_Counts.l2 k3 l0 t223 x8_3)) = some (r1, r2) := H
                        have A44 := Aside0.mk A440
                        clear A440
                        by_cases c45 : t242 < t223
                        · rw [if_pos c45] at H
                          have c45b0 : decide (t242 < t223) = true := decide_eq_true c45
                          clear c45
                          replace H := Option.bind_eq_some_iff.mp H
                          obtain ⟨t243, A460, H⟩ := H
                          replace H : (if 0 ≤ t243 then (if t243 < (x10_3.length : Int) then (if t243 < (x8_3.length : Int) then (puncheonref08_Counts.l1 k3 l0 t223 (x8_3.set (t243 : Int).toNat (wrap64 ((rd x8_3 t243) + 1))) x9_2 (x10_3.set (t243 : Int).toNat true)) else (none)) else (none)) else (none)) = some (r1, r2) := H
                          have A46 := Aside0.mk A460
                          clear A460
                          by_cases c47 : 0 ≤ t243
                          · rw [if_pos c47] at H
                            have c47b0 : decide (0 ≤ t243) = true := decide_eq_true c47
                            clear c47
                            by_cases c48 : t243 < (x10_3.length : Int)
                            · rw [if_pos c48] at H
                              have c48b0 : decide (t243 < (x10_3.length : Int)) = true := decide_eq_true c48
                              clear c48
                              obtain ⟨y244, hy244⟩ : ∃ y_ : List Bool, y_ = (x10_3.set (t243 : Int).toNat true) := ⟨_, rfl⟩
                              replace H : (if t243 < (x8_3.length : Int) then (puncheonref08_Counts.l1 k3 l0 t223 (x8_3.set (t243 : Int).toNat (wrap64 ((rd x8_3 t243) + 1))) x9_2 y244) else (none)) = some (r1, r2) := by first | (rw [hy244]; with_reducible exact H) | (have H2_ := (Option.bind_some _ _).symm.trans H; rw [hy244]; with_reducible exact H2_) | (have H2_ := (Option.bind_some _ _).symm.trans H; with_reducible exact H2_) | with_reducible exact H | (rw [hy244]; exact H) | exact H
                              have Ny244 := Aside0.mk hy244
                              clear hy244
                              by_cases c50 : t243 < (x8_3.length : Int)
                              · rw [if_pos c50] at H
                                have c50b0 : decide (t243 < (x8_3.length : Int)) = true := decide_eq_true c50
                                clear c50
                                obtain ⟨y246, hy246⟩ : ∃ y_ : List Int, y_ = (x8_3.set (t243 : Int).toNat (wrap64 ((rd x8_3 t243) + 1))) := ⟨_, rfl⟩
                                replace H : (puncheonref08_Counts.l1 k3 l0 t223 y246 x9_2 y244) = some (r1, r2) := by first | (rw [hy246]; with_reducible exact H) | (have H2_ := (Option.bind_some _ _).symm.trans H; rw [hy246]; with_reducible exact H2_) | (have H2_ := (Option.bind_some _ _).symm.trans H; with_reducible exact H2_) | with_reducible exact H | (rw [hy246]; exact H) | exact H
                                have Ny246 := Aside0.mk hy246
                                clear hy246
                                have H' := Aside0.mk H
                                clear H
                                obtain ⟨Ao52, co52, eo52⟩ := Kd.R_slice HO_8.out
                                subst eo52
                                go_wp2_with (first | ((with_reducible refine gate_callee (f := 60) rfl ?_); refine goesL_ (some 77) rfl rfl Try.func60 (by kernel_rfl) rfl #[.slice Ao52 x8_3.length co52] rfl (by (try simp only [List.map_toArray, List.map_cons, List.map_nil]); first | done | rfl | (simp only [List.length_drop, List.length_take]; rfl)) ?_; (with_reducible refine (puncheonref08_sum.calls k3 _ _ x8_3 t242 _ ?side1 ?side2 A44.out).mono ?_); (case side1 => repeat (first | exact (Kd.R_reads' HO_8.out).2.2 | (with_reducible refine Kd.C_alloc ?_ _) | (with_reducible refine Kd.C_drewN ?_ _) | (with_reducible refine Kd.C_drew ?_))); (case side2 => exact (Kd.R_reads' HO_8.out).2.1); rintro e w' ⟨rfl, ⟨nd, rfl⟩⟩; refine ⟨_, rfl, ?_⟩; (try (rw [drewN_self wr]; generalize hq_ : World.drewN wr _ = wr; have n0_ : Aside0 (Kd.R Kd.bool 4 wr w.heap.size (fun _ => True) v232 x10_3) := ⟨by rw [← hq_]; exact (by (with_reducible repeat (first | apply Kd.R_alloc | apply Kd.R_drewN | apply Kd.R_drew)); exact HO_10.out)⟩; have n1_ : Aside0 (Kd.R (Kd.int .i64) 3 wr w.heap.size (fun k_ => some k_ ≠ (v229 : Value).ownBlock) (.slice Ao52 x8_3.length co52) x8_3) := ⟨by rw [← hq_]; exact (by (with_reducible repeat (first | apply Kd.R_alloc | apply Kd.R_drewN | apply Kd.R_drew)); exact HO_8.out)⟩; have n2_ : Aside0 (Kd.R (Kd.int .i64) 3 wr w.heap.size (fun k_ => some k_ ≠ (.slice Ao52 x8_3.length co52 : Value).ownBlock) v229 x9_2) := ⟨by rw [← hq_]; exact (by (with_reducible repeat (first | apply Kd.R_alloc | apply Kd.R_drewN | apply Kd.R_drew)); exact HO_9.out)⟩; have n3_ : Aside0 (Below w.heap.size w wr) := ⟨by rw [← hq_]; exact (by repeat (first | (with_reducible first | exact HB.out | apply below_alloc | apply pw_below_drewN | apply below_drew1) | exact HB.out))⟩; clear HO_10 HO_8 HO_9 HB hq_; have HO_10 := n0_; have HO_8 := n1_; have HO_9 := n2_; have HB := n3_; clear n0_ n1_ n2_ n3_)); obtain ⟨Ao53, co53, eo53⟩ := Kd.R_slice HO_9.out; subst eo53; obtain ⟨Ao54, co54, eo54⟩ := Kd.R_slice HO_10.out; subst eo54) | ((with_reducible refine gate_callee (f := 61) rfl ?_); refine goesL_ (some 82) rfl rfl Try.func61 (by kernel_rfl) rfl #[.slice Ao53 x9_2.length co53, .slice Ao54 x10_3.length co54] rfl (by (try simp only [List.map_toArray, List.map_cons, List.map_nil]); first | done | rfl | (simp only [List.length_drop, List.length_take]; rfl)) ?_; (with_reducible refine (puncheonref08_neediest.calls k3 _ _ x9_2 _ _ x10_3 t243 _ ?side1 ?side2 ?side3 ?side4 A46.out).mono ?_); (case side1 => repeat (first | exact (Kd.R_reads' HO_9.out).2.2 | (with_reducible refine Kd.C_alloc ?_ _) | (with_reducible refine Kd.C_drewN ?_ _) | (with_reducible refine Kd.C_drew ?_))); (case side2 => exact (Kd.R_reads' HO_9.out).2.1); (case side3 => repeat (first | exact (Kd.R_reads' HO_10.out).2.2 | (with_reducible refine Kd.C_alloc ?_ _) | (with_reducible refine Kd.C_drewN ?_ _) | (with_reducible refine Kd.C_drew ?_))); (case side4 => exact (Kd.R_reads' HO_10.out).2.1); rintro e w' ⟨rfl, ⟨nd, rfl⟩⟩; refine ⟨_, rfl, ?_⟩; (try (rw [drewN_self wr]; generalize hq_ : World.drewN wr _ = wr; have n0_ : Aside0 (Kd.R Kd.bool 4 wr w.heap.size (fun _ => True) (.slice Ao54 x10_3.length co54) x10_3) := ⟨by rw [← hq_]; exact (by (with_reducible repeat (first | apply Kd.R_alloc | apply Kd.R_drewN | apply Kd.R_drew)); exact HO_10.out)⟩; have n1_ : Aside0 (Kd.R (Kd.int .i64) 3 wr w.heap.size (fun k_ => some k_ ≠ (.slice Ao53 x9_2.length co53 : Value).ownBlock) (.slice Ao52 x8_3.length co52) x8_3) := ⟨by rw [← hq_]; exact (by (with_reducible repeat (first | apply Kd.R_alloc | apply Kd.R_drewN | apply Kd.R_drew)); exact HO_8.out)⟩; have n2_ : Aside0 (Kd.R (Kd.int .i64) 3 wr w.heap.size (fun k_ => some k_ ≠ (.slice Ao52 x8_3.length co52 : Value).ownBlock) (.slice Ao53 x9_2.length co53) x9_2) := ⟨by rw [← hq_]; exact (by (with_reducible repeat (first | apply Kd.R_alloc | apply Kd.R_drewN | apply Kd.R_drew)); exact HO_9.out)⟩; have n3_ : Aside0 (Below w.heap.size w wr) := ⟨by rw [← hq_]; exact (by repeat (first | (with_reducible first | exact HB.out | apply below_alloc | apply pw_below_drewN | apply below_drew1) | exact HB.out))⟩; clear HO_10 HO_8 HO_9 HB hq_; have HO_10 := n0_; have HO_8 := n1_; have HO_9 := n2_; have HB := n3_; clear n0_ n1_ n2_ n3_)); have p49 : 0 ≤ (t243 : Int) := of_decide_eq_true (by first | (with_reducible assumption) | assumption); have q49 : (t243 : Int) < ((x10_3.length : Int) : Int) := of_decide_eq_true (by first | (with_reducible assumption) | assumption); obtain ⟨go49, co49, eo49, gb49, gl49, cl49, HG49⟩ := Kd.R_form HO_10.out (by omega); (first | cases eo49 | (injection eo49 with ea_ en_ ec_; (first | subst ea_ | (injection ea_ with ea_; subst ea_)); subst ec_; clear en_)); have GB49 := Aside0.mk gb49; have GG49 := Aside0.mk HG49; clear gb49 gl49 HG49; obtain ⟨hx49_0, hf49_0⟩ := Kd.R_celln false HO_10.out (t243 : Int) p49 q49; replace p49 := eq_true p49; replace q49 := eq_true q49; obtain ⟨hy55_, hz55_⟩ := Kd.R_celln false HO_10.out (t243 : Int) (of_decide_eq_true (by first | (with_reducible assumption) | assumption)) (of_decide_eq_true (by first | (with_reducible assumption) | assumption)); have HP55 := Kd.R_putg HO_10.out (t243 : Int) true) | ((with_reducible refine gate_store (t := 4) (p := 85) rfl ?_); refine store_event (t := 4) (p := 85) (v := ?vo_w56) (w1 := (wr.setCell ⟨go49, (t243 : Int).toNat, none⟩ (.bool true))) ?hg ?ho ?hn ?hr ?_; (case ho => rfl); (case hg => rfl); (case hn => rfl); (case hr => first | (go_simp; done) | (go_simp; rfl)); intro w56 hw; have hg : wr.grownBy w56 (some go49) := (by rw [hw]; exact HP55.2); have hp_ : Kd.R Kd.bool 4 w56 w.heap.size (fun _ => True) (.slice (some ⟨go49, 0, none⟩) x10_3.length co54) y244 := (by rw [hw, Ny244.out]; exact HP55.1); clear HP55; have n0_ := Aside0.mk (Kd.R_over' (v := (.slice (some ⟨go49, 0, none⟩) x10_3.length co54)) (by (with_reducible repeat (first | apply Kd.R_alloc | apply Kd.R_drewN | apply Kd.R_drew)); exact HO_8.out) (Kd.R_typed HO_10.out) (by decide) hg); have n1_ := Aside0.mk (Kd.R_over' (v := (.slice (some ⟨go49, 0, none⟩) x10_3.length co54)) (by (with_reducible repeat (first | apply Kd.R_alloc | apply Kd.R_drewN | apply Kd.R_drew)); exact HO_9.out) (Kd.R_typed HO_10.out) (by decide) hg); have n2_ := Aside0.mk (hp_); have n3_ := Aside0.mk ((by rw [hw]; exact below_set (HB.out) GB49.out : Below w.heap.size w w56)); clear HO_8; clear HO_9; clear HO_10; clear HB; have HO_8 := n0_; have HO_9 := n1_; have HO_10 := n2_; have HB := n3_; clear n0_ n1_ n2_ n3_; clear hg hw hp_; have p245 : 0 ≤ (t243 : Int) := of_decide_eq_true (by first | (with_reducible assumption) | assumption); have q245 : t243 < (x8_3.length : Int) := of_decide_eq_true (by first | (with_reducible assumption) | assumption); obtain ⟨ad245, e245, hx245_0⟩ := Kd.at_int (Kd.R_reads' HO_8.out).2.2 t243 p245 q245; cases e245; replace p245 := eq_true p245; replace q245 := eq_true q245; have p51 : 0 ≤ (t243 : Int) := of_decide_eq_true (by first | (with_reducible assumption) | assumption); have q51 : (t243 : Int) < ((x8_3.length : Int) : Int) := of_decide_eq_true (by first | (with_reducible assumption) | assumption); obtain ⟨go51, co51, eo51, gb51, gl51, cl51, HG51⟩ := Kd.R_form HO_8.out (by omega); (first | cases eo51 | (injection eo51 with ea_ en_ ec_; (first | subst ea_ | (injection ea_ with ea_; subst ea_)); subst ec_; clear en_)); have GB51 := Aside0.mk gb51; have GG51 := Aside0.mk HG51; clear gb51 gl51 HG51; (first | simp only [add_plain] at hx245_0 | skip); obtain ⟨hx51_0, hf51_0⟩ := Kd.R_celln 0 HO_8.out (t243 : Int) p51 q51; replace p51 := eq_true p51; replace q51 := eq_true q51; obtain ⟨hy57_, hz57_⟩ := Kd.R_celln 0 HO_8.out (t243 : Int) (of_decide_eq_true (by first | (with_reducible assumption) | assumption)) (of_decide_eq_true (by first | (with_reducible assumption) | assumption)); have HP57 := Kd.R_putg HO_8.out (t243 : Int) (wrap64 ((rd x8_3 t243) + 1))) | ((with_reducible refine gate_store (t := 3) (p := 91) rfl ?_); refine store_event (t := 3) (p := 91) (v := ?vo_w58) (w1 := (w56.setCell ⟨go51, (t243 : Int).toNat, none⟩ (.int .i64 (wrap64 ((rd x8_3 t243) + 1))))) ?hg ?ho ?hn ?hr ?_; (case ho => rfl); (case hg => rfl); (case hn => rfl); (case hr => first | (go_simp; done) | (go_simp; rfl)); intro w58 hw; have hg : w56.grownBy w58 (some go51) := (by rw [hw]; exact HP57.2); have hp_ : Kd.R (Kd.int .i64) 3 w58 w.heap.size (fun k_ => some k_ ≠ (.slice Ao53 x9_2.length co53 : Value).ownBlock) (.slice (some ⟨go51, 0, none⟩) x8_3.length co52) y246 := (by rw [hw, Ny246.out]; exact HP57.1); clear HP57; have n0_ := Aside0.mk (hp_); have n1_ := Aside0.mk (Kd.R_after (v := (.slice (some ⟨go51, 0, none⟩) x8_3.length co52)) (v1 := (.slice (some ⟨go51, 0, none⟩) x8_3.length co52)) (ok := (fun _ => True)) (by (with_reducible repeat (first | apply Kd.R_alloc | apply Kd.R_drewN | apply Kd.R_drew)); exact Kd.R_mono HO_9.out (fun _ hk => ⟨trivial, hk⟩)) hg (.inl rfl)); have n2_ := Aside0.mk (Kd.R_over' (v := (.slice (some ⟨go51, 0, none⟩) x8_3.length co52)) (by (with_reducible repeat (first | apply Kd.R_alloc | apply Kd.R_drewN | apply Kd.R_drew)); exact HO_10.out) (Kd.R_typed HO_8.out) (by decide) hg); have n3_ := Aside0.mk ((by rw [hw]; exact below_set (HB.out) GB51.out : Below w.heap.size w w58)); clear HO_8; clear HO_9; clear HO_10; clear HB; have HO_8 := n0_; have HO_9 := n1_; have HO_10 := n2_; have HB := n3_; clear n0_ n1_ n2_ n3_; clear hg hw hp_))
                                go_roundg k3
                                case measure => have := HJ3.out; have := HK2.out; have := HK3.out; omega
                                case rel => exact ⟨(y246), (y244), H', ⟨by have := HJ3.out; have := HK2.out; have := HK3.out; omega⟩, ⟨by (with_reducible repeat (first | apply Kd.R_alloc | apply Kd.R_drewN | apply Kd.R_drew)); exact HO_8.out⟩, ⟨by (with_reducible repeat (first | apply Kd.R_alloc | apply Kd.R_drewN | apply Kd.R_drew)); exact Kd.R_mono HO_9.out (fun _ hk => hk.2)⟩, ⟨by (with_reducible repeat (first | apply Kd.R_alloc | apply Kd.R_drewN | apply Kd.R_drew)); exact HO_10.out⟩, ⟨by repeat (first | (with_reducible first | exact HB.out | apply below_alloc | apply pw_below_drewN | apply below_drew1) | exact HB.out)⟩⟩
                              · rw [if_neg c50] at H
                                exact absurd H (by simp)
                            · rw [if_neg c48] at H
                              exact absurd H (by simp)
                          · rw [if_neg c47] at H
                            exact absurd H (by simp)
                        · rw [if_neg c45] at H
                          have c45b0 : decide (t242 < t223) = false := decide_eq_false c45
                          clear c45
                          have H' := Aside0.mk H
                          clear H
                          obtain ⟨Ao59, co59, eo59⟩ := Kd.R_slice HO_8.out
                          subst eo59
                          go_wp2_with (first | ((with_reducible refine gate_callee (f := 60) rfl ?_); refine goesL_ (some 77) rfl rfl Try.func60 (by kernel_rfl) rfl #[.slice Ao59 x8_3.length co59] rfl (by (try simp only [List.map_toArray, List.map_cons, List.map_nil]); first | done | rfl | (simp only [List.length_drop, List.length_take]; rfl)) ?_; (with_reducible refine (puncheonref08_sum.calls k3 _ _ x8_3 t242 _ ?side1 ?side2 A44.out).mono ?_); (case side1 => repeat (first | exact (Kd.R_reads' HO_8.out).2.2 | (with_reducible refine Kd.C_alloc ?_ _) | (with_reducible refine Kd.C_drewN ?_ _) | (with_reducible refine Kd.C_drew ?_))); (case side2 => exact (Kd.R_reads' HO_8.out).2.1); rintro e w' ⟨rfl, ⟨nd, rfl⟩⟩; refine ⟨_, rfl, ?_⟩))
                          go_loopg [] k3 (fun kq w' => ∃ (x8_4 : List Int), Aside0 (puncheonref08_Counts.l2 kq l0 t223 x8_4 = some (r1, r2)) ∧ Aside0 (kq ≤ k3) ∧ Aside0 (Kd.R (Kd.int .i64) 3 w' w.heap.size (fun _ => True) (.slice Ao59 x8_3.length co59) x8_4) ∧ Aside0 (Below w.heap.size w w'))
                          case atStart => exact ⟨(x8_3), H', ⟨Nat.le_refl _⟩, ⟨by (with_reducible repeat (first | apply Kd.R_alloc | apply Kd.R_drewN | apply Kd.R_drew)); exact Kd.R_mono HO_8.out (fun _ hk => trivial)⟩, ⟨by repeat (first | (with_reducible first | exact HB.out | apply below_alloc | apply pw_below_drewN | apply below_drew1) | exact HB.out)⟩⟩
                          case round =>
                            clear H'
                            try clear c1
                            try clear c2
                            try clear p2
                            try clear q2
                            try clear hx2
                            try clear hf2
                            try clear p3
                            try clear q3
                            try clear hx3
                            try clear hf3
                            try clear c4
                            try clear p4
                            try clear q4
                            try clear hx4
                            try clear hf4
                            try clear c5
                            try clear c5b0
                            try clear c5b1
                            try clear p5
                            try clear q5
                            try clear hx5
                            try clear hf5
                            try clear c6
                            try clear c6b0
                            try clear p6
                            try clear c7
                            try clear c10
                            try clear c10b0
                            try clear c11
                            try clear c11b0
                            try clear c11b1
                            try clear c12
                            try clear c12b0
                            try clear c12b1
                            try clear c19
                            try clear c19b0
                            try clear c20
                            try clear c20b0
                            try clear c21
                            try clear c21b0
                            try clear c22
                            try clear c22b0
                            try clear c22b1
                            try clear c23
                            try clear c23b0
                            try clear p23
                            try clear q23
                            try clear hx23
                            try clear p24
                            try clear q24
                            try clear hx24
                            try clear hf24
                            try clear c25
                            try clear c25b0
                            try clear p26
                            try clear q26
                            try clear hx26
                            try clear hf26
                            try clear c27
                            try clear c27b0
                            try clear c27b1
                            try clear c28
                            try clear c28b0
                            try clear p29
                            try clear q29
                            try clear hx29
                            try clear hf29
                            try clear p31
                            try clear q31
                            try clear hx31
                            try clear hf31
                            try clear c42
                            try clear c43
                            try clear c44
                            try clear c45
                            try clear c45b0
                            try clear c47
                            try clear c47b0
                            try clear c48
                            try clear c48b0
                            try clear p49
                            try clear q49
                            try clear hx49
                            try clear hf49
                            try clear c50
                            try clear c50b0
                            try clear p51
                            try clear q51
                            try clear hx51
                            try clear hf51
                            try clear hx234_0
                            try clear hx236_0
                            try clear hx238_0
                            try clear hx240_0
                            try clear hx245_0
                            try clear hx24_0
                            try clear hx26_0
                            try clear hx29_0
                            try clear hx31_0
                            try clear hx49_0
                            try clear hx51_0
                            try clear p2
                            try clear p23
                            try clear p234
                            try clear p236
                            try clear p238
                            try clear p24
                            try clear p240
                            try clear p245
                            try clear p26
                            try clear p29
                            try clear p3
                            try clear p31
                            try clear p49
                            try clear p51
                            try clear p6
                            try clear q2
                            try clear q23
                            try clear q234
                            try clear q236
                            try clear q238
                            try clear q24
                            try clear q240
                            try clear q245
                            try clear q26
                            try clear q29
                            try clear q3
                            try clear q31
                            try clear q49
                            try clear q51
                            obtain ⟨x8_4, HA, HK4, HO_8, HB⟩ := hrel
                            have hl8_4 := (Kd.R_reads' HO_8.out).1
                            rw [hl8_4] at HO_8
                            (try simp only [hl8_4])
                            cases gk with
                            | zero => exact absurd HA.out (by simp [puncheonref08_Counts.l2])
                            | succ k4 =>
                              have H := HA.out
                              clear HA
                              simp only [puncheonref08_Counts.l2] at H
                              replace H := Option.bind_eq_some_iff.mp H
                              obtain ⟨t247, A600, H⟩ := H
                              replace H : (if t247 > t223 then ((puncheonref08_richest.f k4 x8_4 l0).bind fun t248 => (if 0 ≤ t248 then (if t248 < (x8_4.length : Int) then (puncheonref08_Counts.l2 k4 l0 t223 (x8_4.set (t248 : Int).toNat (wrap64 ((rd x8_4 t248) - 1)))) else (none)) else (none))) else (some (x8_4, 0))) = some (r1, r2) := H
                              have A60 := Aside0.mk A600
                              clear A600
                              by_cases c61 : t247 > t223
                              · rw [if_pos c61] at H
                                have c61b0 : decide (t223 < t247) = true := decide_eq_true c61
                                clear c61
                                replace H := Option.bind_eq_some_iff.mp H
                                obtain ⟨t248, A620, H⟩ := H
                                replace H : (if 0 ≤ t248 then (if t248 < (x8_4.length : Int) then (puncheonref08_Counts.l2 k4 l0 t223 (x8_4.set (t248 : Int).toNat (wrap64 ((rd x8_4 t248) - 1)))) else (none)) else (none)) = some (r1, r2) := H
                                have A62 := Aside0.mk A620
                                clear A620
                                by_cases c63 : 0 ≤ t248
                                · rw [if_pos c63] at H
                                  have c63b0 : decide (0 ≤ t248) = true := decide_eq_true c63
                                  clear c63
                                  by_cases c64 : t248 < (x8_4.length : Int)
                                  · rw [if_pos c64] at H
                                    have c64b0 : decide (t248 < (x8_4.length : Int)) = true := decide_eq_true c64
                                    (try (have c64b0hl8_4 := c64b0; simp only [hl8_4] at c64b0hl8_4))
                                    clear c64
                                    obtain ⟨y250, hy250⟩ : ∃ y_ : List Int, y_ = (x8_4.set (t248 : Int).toNat (wrap64 ((rd x8_4 t248) - 1))) := ⟨_, rfl⟩
                                    replace H : (puncheonref08_Counts.l2 k4 l0 t223 y250) = some (r1, r2) := by first | (rw [hy250]; with_reducible exact H) | (have H2_ := (Option.bind_some _ _).symm.trans H; rw [hy250]; with_reducible exact H2_) | (have H2_ := (Option.bind_some _ _).symm.trans H; with_reducible exact H2_) | with_reducible exact H | (rw [hy250]; exact H) | exact H
                                    have Ny250 := Aside0.mk hy250
                                    clear hy250
                                    have H' := Aside0.mk H
                                    clear H
                                    go_wp2_with (first | ((with_reducible refine gate_callee (f := 60) rfl ?_); refine goesL_ (some 93) rfl rfl Try.func60 (by kernel_rfl) rfl #[.slice Ao59 x8_4.length co59] rfl (by (try simp only [List.map_toArray, List.map_cons, List.map_nil]); first | done | rfl | (simp only [List.length_drop, List.length_take]; rfl)) ?_; (with_reducible refine (puncheonref08_sum.calls k4 _ _ x8_4 t247 _ ?side1 ?side2 A60.out).mono ?_); (case side1 => repeat (first | exact (Kd.R_reads' HO_8.out).2.2 | (with_reducible refine Kd.C_alloc ?_ _) | (with_reducible refine Kd.C_drewN ?_ _) | (with_reducible refine Kd.C_drew ?_))); (case side2 => exact (Kd.R_reads' HO_8.out).2.1); rintro e w' ⟨rfl, ⟨nd, rfl⟩⟩; refine ⟨_, rfl, ?_⟩; (try (rw [drewN_self wr]; generalize hq_ : World.drewN wr _ = wr; have n0_ : Aside0 (Kd.R (Kd.int .i64) 3 wr w.heap.size (fun _ => True) (.slice Ao59 x8_4.length co59) x8_4) := ⟨by rw [← hq_]; exact (by (with_reducible repeat (first | apply Kd.R_alloc | apply Kd.R_drewN | apply Kd.R_drew)); exact HO_8.out)⟩; have n1_ : Aside0 (Below w.heap.size w wr) := ⟨by rw [← hq_]; exact (by repeat (first | (with_reducible first | exact HB.out | apply below_alloc | apply pw_below_drewN | apply below_drew1) | exact HB.out))⟩; clear HO_8 HB hq_; have HO_8 := n0_; have HB := n1_; clear n0_ n1_))) | ((with_reducible refine gate_callee (f := 62) rfl ?_); refine goesL_ (some 99) rfl rfl Try.func62 (by kernel_rfl) rfl #[.slice Ao59 x8_4.length co59, .slice A0 l0.length c0] rfl (by (try simp only [List.map_toArray, List.map_cons, List.map_nil]); first | done | rfl | (simp only [List.length_drop, List.length_take]; rfl)) ?_; (with_reducible refine (puncheonref08_richest.calls k4 _ _ x8_4 _ _ l0 t248 _ ?side1 ?side2 ?side3 ?side4 A62.out).mono ?_); (case side1 => repeat (first | exact (Kd.R_reads' HO_8.out).2.2 | (with_reducible refine Kd.C_alloc ?_ _) | (with_reducible refine Kd.C_drewN ?_ _) | (with_reducible refine Kd.C_drew ?_))); (case side2 => exact (Kd.R_reads' HO_8.out).2.1); (case side3 => repeat (first | exact (Kd.C_below HR0.out HB.out) | (with_reducible refine Kd.C_alloc ?_ _) | (with_reducible refine Kd.C_drewN ?_ _) | (with_reducible refine Kd.C_drew ?_))); (case side4 => exact HC0.out); rintro e w' ⟨rfl, ⟨nd, rfl⟩⟩; refine ⟨_, rfl, ?_⟩; (try (rw [drewN_self wr]; generalize hq_ : World.drewN wr _ = wr; have n0_ : Aside0 (Kd.R (Kd.int .i64) 3 wr w.heap.size (fun _ => True) (.slice Ao59 x8_4.length co59) x8_4) := ⟨by rw [← hq_]; exact (by (with_reducible repeat (first | apply Kd.R_alloc | apply Kd.R_drewN | apply Kd.R_drew)); exact HO_8.out)⟩; have n1_ : Aside0 (Below w.heap.size w wr) := ⟨by rw [← hq_]; exact (by repeat (first | (with_reducible first | exact HB.out | apply below_alloc | apply pw_below_drewN | apply below_drew1) | exact HB.out))⟩; clear HO_8 HB hq_; have HO_8 := n0_; have HB := n1_; clear n0_ n1_)); have p249 : 0 ≤ (t248 : Int) := of_decide_eq_true (by first | (with_reducible assumption) | assumption); have q249 : t248 < (x8_4.length : Int) := of_decide_eq_true (by first | (with_reducible assumption) | assumption); obtain ⟨ad249, e249, hx249_0⟩ := Kd.at_int (Kd.R_reads' HO_8.out).2.2 t248 p249 q249; cases e249; replace p249 := eq_true p249; replace q249 := eq_true q249; have p65 : 0 ≤ (t248 : Int) := of_decide_eq_true (by first | (with_reducible assumption) | assumption); have q65 : (t248 : Int) < ((x8_4.length : Int) : Int) := of_decide_eq_true (by first | (with_reducible assumption) | assumption); obtain ⟨go65, co65, eo65, gb65, gl65, cl65, HG65⟩ := Kd.R_form HO_8.out (by omega); (first | cases eo65 | (injection eo65 with ea_ en_ ec_; (first | subst ea_ | (injection ea_ with ea_; subst ea_)); subst ec_; clear en_)); have GB65 := Aside0.mk gb65; have GG65 := Aside0.mk HG65; clear gb65 gl65 HG65; (first | simp only [add_plain] at hx249_0 | skip); obtain ⟨hx65_0, hf65_0⟩ := Kd.R_celln 0 HO_8.out (t248 : Int) p65 q65; replace p65 := eq_true p65; replace q65 := eq_true q65; obtain ⟨hy66_, hz66_⟩ := Kd.R_celln 0 HO_8.out (t248 : Int) (of_decide_eq_true (by first | (with_reducible assumption) | assumption)) (of_decide_eq_true (by first | (with_reducible assumption) | assumption)); have HP66 := Kd.R_putg HO_8.out (t248 : Int) (wrap64 ((rd x8_4 t248) - 1))) | ((with_reducible refine gate_store (t := 3) (p := 103) rfl ?_); refine store_event (t := 3) (p := 103) (v := ?vo_w67) (w1 := (wr.setCell ⟨go65, (t248 : Int).toNat, none⟩ (.int .i64 (wrap64 ((rd x8_4 t248) - 1))))) ?hg ?ho ?hn ?hr ?_; (case ho => rfl); (case hg => rfl); (case hn => rfl); (case hr => first | (go_simp; done) | (go_simp; rfl)); intro w67 hw; have hg : wr.grownBy w67 (some go65) := (by rw [hw]; exact HP66.2); have hp_ : Kd.R (Kd.int .i64) 3 w67 w.heap.size (fun _ => True) (.slice (some ⟨go65, 0, none⟩) x8_4.length co59) y250 := (by rw [hw, Ny250.out]; exact HP66.1); clear HP66; have n0_ := Aside0.mk (hp_); have n1_ := Aside0.mk ((by rw [hw]; exact below_set (HB.out) GB65.out : Below w.heap.size w w67)); clear HO_8; clear HB; have HO_8 := n0_; have HB := n1_; clear n0_ n1_; clear hg hw hp_))
                                    (try simp only [← hl8_4])
                                    go_roundg k4
                                    case measure => have := HJ3.out; have := HK2.out; have := HK3.out; have := HK4.out; omega
                                    case rel => exact ⟨(y250), H', ⟨by have := HJ3.out; have := HK2.out; have := HK3.out; have := HK4.out; omega⟩, ⟨by (try simp only [hl8_4]); (with_reducible repeat (first | apply Kd.R_alloc | apply Kd.R_drewN | apply Kd.R_drew)); exact HO_8.out⟩, ⟨by repeat (first | (with_reducible first | exact HB.out | apply below_alloc | apply pw_below_drewN | apply below_drew1) | exact HB.out)⟩⟩
                                  · rw [if_neg c64] at H
                                    exact absurd H (by simp)
                                · rw [if_neg c63] at H
                                  exact absurd H (by simp)
                              · rw [if_neg c61] at H
                                have c61b0 : decide (t223 < t247) = false := decide_eq_false c61
                                clear c61
                                simp only [Option.some.injEq, Prod.mk.injEq] at H
                                obtain ⟨rfl, rfl⟩ := H
                                go_wp2_with (first | ((with_reducible refine gate_callee (f := 60) rfl ?_); refine goesL_ (some 93) rfl rfl Try.func60 (by kernel_rfl) rfl #[.slice Ao59 x8_4.length co59] rfl (by (try simp only [List.map_toArray, List.map_cons, List.map_nil]); first | done | rfl | (simp only [List.length_drop, List.length_take]; rfl)) ?_; (with_reducible refine (puncheonref08_sum.calls k4 _ _ x8_4 t247 _ ?side1 ?side2 A60.out).mono ?_); (case side1 => repeat (first | exact (Kd.R_reads' HO_8.out).2.2 | (with_reducible refine Kd.C_alloc ?_ _) | (with_reducible refine Kd.C_drewN ?_ _) | (with_reducible refine Kd.C_drew ?_))); (case side2 => exact (Kd.R_reads' HO_8.out).2.1); rintro e w' ⟨rfl, ⟨nd, rfl⟩⟩; refine ⟨_, rfl, ?_⟩))
                                go_ret2
                                exact ⟨_, by first | rfl | (simp [errW_none, errW_some] <;> rfl) | (simp [*, errW_none, errW_some] <;> rfl), by (with_reducible repeat (first | apply Kd.R_alloc | apply Kd.R_drewN | apply Kd.R_drew)); exact HO_8.out, by repeat (first | (with_reducible first | exact HB.out | apply below_alloc | apply pw_below_drewN | apply below_drew1) | exact HB.out)⟩
            · rw [if_neg c12] at H
              exact absurd H (by simp)
          · rw [if_neg c11] at H
            exact absurd H (by simp)

end Go.Proofs.Ytmmfkmkhflieeaa.PPr
