/- The machine's side of this seat's laws: what each function computes, and that its call computes it; written by a program (pr.py over the kit's print.py). -/
import Derived.Test.YtcffmmdgjifaaaaPPrx0
import Derived.Test.YtcffmmdgjifaaaaPPrx2
import Derived.Test.YtcffmmdgjifaaaaPPrx4
import Derived.Test.YtcffmmdgjifaaaaPPrx5
namespace Go.Proofs.Ytcffmmdgjifaaaa.PPr
open Go.RowKit Go.Proofs.YtcffmmdgjifaaaaW.PrintWords Go.Proofs.YtcffmmdgjifaaaaW.PrintLast Go.Proofs.YtcffmmdgjifaaaaW.PrintMore
attribute [local go_sem] max2_int min2_int max_two min_two max_three min_three max_four min_four   -- for this text's walks alone
set_option linter.unusedVariables false
set_option linter.unusedSimpArgs false

/-! ### norm_Counts: function 51 -/
mutual
def norm_Counts.j0 : Nat → List Int → Int → Int → Bool → Option (List Int × Int)
  | 0, _, _, _, _ => none
  | k + 1, x0, x1, x6, x30 => if x30 = true then (some (([] : List Int), 1)) else (if 256 ≤ 35184372088832 then (norm_Counts.l0 k x0 x1 x6 (List.replicate 256 0) ([] : List (S71)) 0 x0 (x0.length : Int) 0) else (none))
def norm_Counts.l0 : Nat → List Int → Int → Int → List Int → List (S71) → Int → List Int → Int → Int → Option (List Int × Int)
  | 0, _, _, _, _, _, _, _, _, _ => none
  | k + 1, x0, x1, x6, x7, x8, x9, x32, x33, x34 => if x34 < x33 then (if 0 ≤ x34 then (if x34 < (x32.length : Int) then (if 0 ≤ x1 then (if x6 = 0 then (none) else (if x34 < (x7.length : Int) then ((some (x7.set (x34 : Int).toNat (wrap64 (Int.tdiv (shl .i64 (rd x32 x34) x1) x6)) : List Int)).bind fun y136 => (if (rd y136 x34) > 0 then (if x8.length < 5864062014805 then (norm_Counts.l0 k x0 x1 x6 y136 (x8 ++ [(⟨x34, Int.tmod (shl .i64 (rd x32 x34) x1) x6, 0⟩ : S71)]) (wrap64 (x9 + (rd y136 x34))) x32 x33 (wrap64 (x34 + 1))) else (none)) else (if (rd x32 x34) > 0 then ((some (y136.set (x34 : Int).toNat 1 : List Int)).bind fun y142 => (norm_Counts.l0 k x0 x1 x6 y142 x8 (wrap64 (x9 + (rd y142 x34))) x32 x33 (wrap64 (x34 + 1)))) else (norm_Counts.l0 k x0 x1 x6 y136 x8 (wrap64 (x9 + (rd y136 x34))) x32 x33 (wrap64 (x34 + 1)))))) else (none))) else (none)) else (none)) else (none)) else (if 0 ≤ x1 then ((norm_give.f x7 x8 (mx 0 (wrap64 ((shl .i64 1 x1) - x9)))).bind fun t133 => ((norm_take.f t133 x0 (mx 0 (wrap64 (x9 - (shl .i64 1 x1))))).bind fun t134 => (some (t134, 0)))) else (none))
end
def norm_Counts.f (k : Nat) (l0 : List Int) (a1 : Int) : Option (List Int × Int) := (hist_Total.f k l0).bind fun t128 => (if t128 = 0 then (norm_Counts.j0 k l0 a1 t128 true) else (if a1 < 1 then (norm_Counts.j0 k l0 a1 t128 true) else (if a1 > 12 then (norm_Counts.j0 k l0 a1 t128 true) else ((hist_Many.f k l0).bind fun t129 => (if 0 ≤ a1 then (norm_Counts.j0 k l0 a1 t128 (decide (t129 > (shl .i64 1 a1)))) else (none))))))
theorem norm_Counts.mono_l : ∀ k, (∀ y0 y1 y2 y3, LeO (norm_Counts.j0 k y0 y1 y2 y3) (norm_Counts.j0 (k + 1) y0 y1 y2 y3)) ∧ (∀ y0 y1 y2 y3 y4 y5 y6 y7 y8, LeO (norm_Counts.l0 k y0 y1 y2 y3 y4 y5 y6 y7 y8) (norm_Counts.l0 (k + 1) y0 y1 y2 y3 y4 y5 y6 y7 y8))
  | 0 => ⟨fun _ _ _ _ r h => by simp [norm_Counts.j0] at h, fun _ _ _ _ _ _ _ _ _ r h => by simp [norm_Counts.l0] at h⟩
  | k + 1 => by
    obtain ⟨ih0, ih1⟩ := norm_Counts.mono_l k
    refine ⟨?_, ?_⟩
    · intro y0 y1 y2 y3
      unfold norm_Counts.j0
      repeat' first
      | (with_reducible exact ih0 _ _ _ _)
      | (with_reducible exact ih1 _ _ _ _ _ _ _ _ _)
      | (with_reducible exact hist_Many.mono _ _)
      | (with_reducible exact hist_Total.mono _ _)
      | (with_reducible exact LeO.refl _)
      | (with_reducible exact LeO.none _)
      | (with_reducible refine LeO.ite ?_ ?_)
      | (with_reducible refine LeO.bind ?_ (fun _ => ?_))
      | exact ih0 _ _ _ _
      | exact ih1 _ _ _ _ _ _ _ _ _
      | exact hist_Many.mono _ _
      | exact hist_Total.mono _ _
      | exact LeO.none _
      | refine LeO.ite ?_ ?_
      | refine LeO.bind ?_ (fun _ => ?_)
    · intro y0 y1 y2 y3 y4 y5 y6 y7 y8
      unfold norm_Counts.l0
      repeat' first
      | (with_reducible exact ih0 _ _ _ _)
      | (with_reducible exact ih1 _ _ _ _ _ _ _ _ _)
      | (with_reducible exact hist_Many.mono _ _)
      | (with_reducible exact hist_Total.mono _ _)
      | (with_reducible exact LeO.refl _)
      | (with_reducible exact LeO.none _)
      | (with_reducible refine LeO.ite ?_ ?_)
      | (with_reducible refine LeO.bind ?_ (fun _ => ?_))
      | exact ih0 _ _ _ _
      | exact ih1 _ _ _ _ _ _ _ _ _
      | exact hist_Many.mono _ _
      | exact hist_Total.mono _ _
      | exact LeO.none _
      | refine LeO.ite ?_ ?_
      | refine LeO.bind ?_ (fun _ => ?_)
theorem norm_Counts.mono : ∀ a0 a1 k, LeO (norm_Counts.f k a0 a1) (norm_Counts.f (k + 1) a0 a1) := by
  intro a0 a1 k
  obtain ⟨ih0, ih1⟩ := norm_Counts.mono_l k
  unfold norm_Counts.f
  repeat' first
      | (with_reducible exact ih0 _ _ _ _)
      | (with_reducible exact ih1 _ _ _ _ _ _ _ _ _)
      | (with_reducible exact hist_Many.mono _ _)
      | (with_reducible exact hist_Total.mono _ _)
      | (with_reducible exact LeO.refl _)
      | (with_reducible exact LeO.none _)
      | (with_reducible refine LeO.ite ?_ ?_)
      | (with_reducible refine LeO.bind ?_ (fun _ => ?_))
      | exact ih0 _ _ _ _
      | exact ih1 _ _ _ _ _ _ _ _ _
      | exact hist_Many.mono _ _
      | exact hist_Total.mono _ _
      | exact LeO.none _
      | refine LeO.ite ?_ ?_
      | refine LeO.bind ?_ (fun _ => ?_)
set_option maxHeartbeats 8000000 in
set_option maxRecDepth 100000 in
theorem norm_Counts.calls (k : Nat) (A0 : Option Addr) (c0 : Nat) (l0 : List Int) (a1 : Int) (r1 : List Int) (r2 : Int) (w : World) (hr0 : Kd.C (Kd.int .i64) w A0 l0.length l0) (hc0 : l0.length ≤ c0) (h : norm_Counts.f k l0 a1 = some (r1, r2)) :
    Calls Try.prog 51 #[.slice A0 l0.length c0, .int .i64 a1] w fun e w' => ∃ v0_ : Value, e = .returned (.tuple #[v0_, .int .i64 r2]) ∧ Kd.R (Kd.int .i64) 3 w' w.heap.size (fun _ => True) v0_ r1 ∧ Below w.heap.size w w' := by
  have hu71 := Try.underlying71
  have HR0 := Aside0.mk hr0
  have HC0 := Aside0.mk hc0
  clear hr0 hc0
  have HB := Aside0.mk (Below.refl w.heap.size w)
  have H : ((hist_Total.f k l0).bind fun t128 => (if t128 = 0 then (norm_Counts.j0 k l0 a1 t128 true) else (if a1 < 1 then (norm_Counts.j0 k l0 a1 t128 true) else (if a1 > 12 then (norm_Counts.j0 k l0 a1 t128 true) else ((hist_Many.f k l0).bind fun t129 => (if 0 ≤ a1 then (norm_Counts.j0 k l0 a1 t128 (decide (t129 > (shl .i64 1 a1)))) else (none))))))) = some (r1, r2) := h
  clear h
  replace H := Option.bind_eq_some_iff.mp H
  obtain ⟨t128, A30, H⟩ := H
  replace H : (if t128 = 0 then (norm_Counts.j0 k l0 a1 t128 true) else (if a1 < 1 then (norm_Counts.j0 k l0 a1 t128 true) else (if a1 > 12 then (norm_Counts.j0 k l0 a1 t128 true) else ((hist_Many.f k l0).bind fun t129 => (if 0 ≤ a1 then (norm_Counts.j0 k l0 a1 t128 (decide (t129 > (shl .i64 1 a1)))) else (none)))))) = some (r1, r2) := H
  have A3 := Aside0.mk A30
  clear A30
  have HC4 := Aside0.mk H
  clear H
  go_enter Try.func51, Try.ntmps51
  go_upto_region 2 with (first | (go_at_call 24; (with_reducible refine (hist_Total.calls k _ _ l0 t128 _ ?side1 ?side2 A3.out).mono ?_); (case side1 => repeat (first | exact HR0.out | (with_reducible refine Kd.C_alloc ?_ _) | (with_reducible refine Kd.C_drewN ?_ _) | (with_reducible refine Kd.C_drew ?_))); (case side2 => exact HC0.out); rintro e w' ⟨rfl, ⟨nd, rfl⟩⟩; (try first | exact ⟨rfl, _, World.drewN_drewN _ _ _⟩ | exact ⟨rfl, _, Eq.trans (World.drewN_drewN _ _ _) (congrArg (World.drewN _) (Nat.add_assoc _ _ _))⟩)))
  repeat (go_quiet (first | (go_at_call 24; (with_reducible refine (hist_Total.calls k _ _ l0 t128 _ ?side1 ?side2 A3.out).mono ?_); (case side1 => repeat (first | exact HR0.out | (with_reducible refine Kd.C_alloc ?_ _) | (with_reducible refine Kd.C_drewN ?_ _) | (with_reducible refine Kd.C_drew ?_))); (case side2 => exact HC0.out); rintro e w' ⟨rfl, ⟨nd, rfl⟩⟩; (try first | exact ⟨rfl, _, World.drewN_drewN _ _ _⟩ | exact ⟨rfl, _, Eq.trans (World.drewN_drewN _ _ _) (congrArg (World.drewN _) (Nat.add_assoc _ _ _))⟩))); go_upto_region 2 with (first | (go_at_call 24; (with_reducible refine (hist_Total.calls k _ _ l0 t128 _ ?side1 ?side2 A3.out).mono ?_); (case side1 => repeat (first | exact HR0.out | (with_reducible refine Kd.C_alloc ?_ _) | (with_reducible refine Kd.C_drewN ?_ _) | (with_reducible refine Kd.C_drew ?_))); (case side2 => exact HC0.out); rintro e w' ⟨rfl, ⟨nd, rfl⟩⟩; (try first | exact ⟨rfl, _, World.drewN_drewN _ _ _⟩ | exact ⟨rfl, _, Eq.trans (World.drewN_drewN _ _ _) (congrArg (World.drewN _) (Nat.add_assoc _ _ _))⟩))))
  (try simp only [Act.put, List.setIfInBounds_toArray, List.set_cons_zero, List.set_cons_succ])
  go_cut [30] (fun v30 wc => ∃ (kq : Nat) (x30_3 : Bool), v30 = .bool x30_3 ∧ Aside0 (norm_Counts.j0 kq l0 a1 t128 x30_3 = some (r1, r2)) ∧ Aside0 (kq ≤ k) ∧ Aside0 (Below w.heap.size w wc))
  case first =>
    have H := HC4.out
    clear HC4
    by_cases c5 : t128 = 0
    · rw [if_pos c5] at H
      have c5b0 : (t128 == 0) = true := beq_iff_eq.mpr c5
      have c5b1 : (t128 != 0) = false := bne_eq_false_iff_eq.mpr c5
      clear c5
      (first | rw [c5b0] | (simp only [i64_w, i32_w]; rw [c5b0]) | skip)
      have H' := Aside0.mk H
      clear H
      go_wp2
      repeat (go_quiet (fail); try go_wp2)
      go_meet
      case rel => exact ⟨_, (true), (by first | rfl | (simp; done) | (simp [*]; done)), H', ⟨by first | omega | exact Nat.le_refl _⟩, ⟨by repeat (first | (with_reducible first | exact HB.out | apply below_alloc | apply pw_below_drewN | apply below_drew1) | exact HB.out)⟩⟩
    · rw [if_neg c5] at H
      have c5b0 : (t128 == 0) = false := beq_eq_false_iff_ne.mpr c5
      have c5b1 : (t128 != 0) = true := bne_iff_ne.mpr c5
      (first | rw [c5b0] | (simp only [i64_w, i32_w]; rw [c5b0]) | skip)
      by_cases c6 : a1 < 1
      · rw [if_pos c6] at H
        have c6b0 : decide (a1 < 1) = true := decide_eq_true c6
        clear c6
        have H' := Aside0.mk H
        clear H
        go_wp2
        repeat (go_quiet (fail); try go_wp2)
        go_meet
        case rel => exact ⟨_, (true), (by first | rfl | (simp; done) | (simp [*]; done)), H', ⟨by first | omega | exact Nat.le_refl _⟩, ⟨by repeat (first | (with_reducible first | exact HB.out | apply below_alloc | apply pw_below_drewN | apply below_drew1) | exact HB.out)⟩⟩
      · rw [if_neg c6] at H
        have c6b0 : decide (a1 < 1) = false := decide_eq_false c6
        clear c6
        by_cases c7 : a1 > 12
        · rw [if_pos c7] at H
          have c7b0 : decide (12 < a1) = true := decide_eq_true c7
          clear c7
          have H' := Aside0.mk H
          clear H
          go_wp2
          repeat (go_quiet (fail); try go_wp2)
          go_meet
          case rel => exact ⟨_, (true), (by first | rfl | (simp; done) | (simp [*]; done)), H', ⟨by first | omega | exact Nat.le_refl _⟩, ⟨by repeat (first | (with_reducible first | exact HB.out | apply below_alloc | apply pw_below_drewN | apply below_drew1) | exact HB.out)⟩⟩
        · rw [if_neg c7] at H
          have c7b0 : decide (12 < a1) = false := decide_eq_false c7
          clear c7
          replace H := Option.bind_eq_some_iff.mp H
          obtain ⟨t129, A80, H⟩ := H
          replace H : (if 0 ≤ a1 then (norm_Counts.j0 k l0 a1 t128 (decide (t129 > (shl .i64 1 a1)))) else (none)) = some (r1, r2) := H
          have A8 := Aside0.mk A80
          clear A80
          by_cases c9 : 0 ≤ a1
          · rw [if_pos c9] at H
            have c9b0 := eq_true c9
            have c9b1 : decide (0 ≤ a1) = true := decide_eq_true c9
            clear c9
            obtain ⟨ji10, hji10⟩ : ∃ j_ : Int, (shl .i64 1 a1) = j_ := ⟨_, rfl⟩
            replace H : (norm_Counts.j0 k l0 a1 t128 (decide (t129 > (ji10)))) = some (r1, r2) := by first | (rw [hji10] at H; exact H) | (simp only [hji10] at H ⊢; exact H)
            (try rw [hji10] at A8)
            have hji10_ : (IntKind.i64.wrap (1 * 2 ^ min a1.toNat 64)) = ji10 := hji10
            have hji10z : a1 ≤ 64 → (IntKind.i64.wrap (1 * 2 ^ a1.toNat)) = ji10 := shl_small hji10
            have hji10u : (IntKind.i64.wrap (2 ^ min a1.toNat 64)) = ji10 := by have h_ := hji10_; rw [Int.one_mul] at h_; exact h_
            have hji10v : a1 ≤ 64 → (IntKind.i64.wrap (2 ^ a1.toNat)) = ji10 := fun hle_ => by have h_ := hji10z hle_; rw [Int.one_mul] at h_; exact h_
            have hji10y : (wrap64 (1 * 2 ^ min a1.toNat 64)) = ji10 := (i64_w _).symm.trans hji10_
            have hji10x : a1 ≤ 64 → (wrap64 (1 * 2 ^ a1.toNat)) = ji10 := fun h_ => (i64_w _).symm.trans (hji10z h_)
            have H' := Aside0.mk H
            clear H
            go_wp2_with (first | (go_at_call 33; (with_reducible refine (hist_Many.calls k _ _ l0 t129 _ ?side1 ?side2 A8.out).mono ?_); (case side1 => repeat (first | exact (Kd.C_below HR0.out HB.out) | (with_reducible refine Kd.C_alloc ?_ _) | (with_reducible refine Kd.C_drewN ?_ _) | (with_reducible refine Kd.C_drew ?_))); (case side2 => exact HC0.out); rintro e w' ⟨rfl, ⟨nd, rfl⟩⟩; (try first | exact ⟨rfl, _, World.drewN_drewN _ _ _⟩ | exact ⟨rfl, _, Eq.trans (World.drewN_drewN _ _ _) (congrArg (World.drewN _) (Nat.add_assoc _ _ _))⟩)))
            repeat (go_quiet (first | (go_at_call 33; (with_reducible refine (hist_Many.calls k _ _ l0 t129 _ ?side1 ?side2 A8.out).mono ?_); (case side1 => repeat (first | exact (Kd.C_below HR0.out HB.out) | (with_reducible refine Kd.C_alloc ?_ _) | (with_reducible refine Kd.C_drewN ?_ _) | (with_reducible refine Kd.C_drew ?_))); (case side2 => exact HC0.out); rintro e w' ⟨rfl, ⟨nd, rfl⟩⟩; (try first | exact ⟨rfl, _, World.drewN_drewN _ _ _⟩ | exact ⟨rfl, _, Eq.trans (World.drewN_drewN _ _ _) (congrArg (World.drewN _) (Nat.add_assoc _ _ _))⟩))); try go_wp2_with (first | (go_at_call 33; (with_reducible refine (hist_Many.calls k _ _ l0 t129 _ ?side1 ?side2 A8.out).mono ?_); (case side1 => repeat (first | exact (Kd.C_below HR0.out HB.out) | (with_reducible refine Kd.C_alloc ?_ _) | (with_reducible refine Kd.C_drewN ?_ _) | (with_reducible refine Kd.C_drew ?_))); (case side2 => exact HC0.out); rintro e w' ⟨rfl, ⟨nd, rfl⟩⟩; (try first | exact ⟨rfl, _, World.drewN_drewN _ _ _⟩ | exact ⟨rfl, _, Eq.trans (World.drewN_drewN _ _ _) (congrArg (World.drewN _) (Nat.add_assoc _ _ _))⟩))))
            subst hji10
            go_meet
            case rel => exact ⟨_, (decide (t129 > ((shl .i64 1 a1)))), (by first | rfl | (simp; done) | (simp only [← hji10] <;> (first | rfl | simp)) | (simp [*]; done)), H', ⟨by first | omega | exact Nat.le_refl _⟩, ⟨by repeat (first | (with_reducible first | exact HB.out | apply below_alloc | apply pw_below_drewN | apply below_drew1) | exact HB.out)⟩⟩
          · rw [if_neg c9] at H
            exact absurd H (by simp)
  case rest =>
    clear HC4
    try clear p2
    try clear c5
    try clear c5b0
    try clear c5b1
    try clear c6
    try clear c6b0
    try clear p6
    try clear c7
    try clear c7b0
    try clear c9
    try clear c9b0
    try clear c9b1
    obtain ⟨kq, x30_3, rfl, HA, HJ3, HB⟩ := hcut
    cases kq with
    | zero => exact absurd HA.out (by simp [norm_Counts.j0])
    | succ kj3 =>
      have H := HA.out
      clear HA
      simp only [norm_Counts.j0] at H
      by_cases c11 : x30_3 = true
      · subst c11
        have H1 : (some (([] : List Int), 1)) = some (r1, r2) := by rw [if_pos rfl] at H; exact H
        clear H
        have H := H1
        clear H1
        simp only [Option.some.injEq, Prod.mk.injEq] at H
        obtain ⟨rfl, rfl⟩ := H
        go_wp2
        repeat (go_quiet (fail); try go_wp2)
        go_ret2
        exact ⟨_, by first | rfl | (simp [errW_none, errW_some] <;> rfl) | (simp [*, errW_none, errW_some] <;> rfl), by first | exact Kd.R_nil _ _ _ _ _ | exact Kd.N_nil _ _ _ _ _ | exact Kd.V_nil _ _ _ _ _ | exact Kd.Q_nil _ _ _ _ _ | exact Kd.S_nil _ _ _ _ _, by repeat (first | (with_reducible first | exact HB.out | apply below_alloc | apply pw_below_drewN | apply below_drew1) | exact HB.out)⟩
      · replace c11 := Bool.eq_false_iff.mpr c11
        subst c11
        have H1 : (if 256 ≤ 35184372088832 then (norm_Counts.l0 kj3 l0 a1 t128 (List.replicate 256 0) ([] : List (S71)) 0 l0 (l0.length : Int) 0) else (none)) = some (r1, r2) := by rw [if_neg (show ¬ (false = true) by decide)] at H; exact H
        clear H
        have H := H1
        clear H1
        by_cases c12 : 256 ≤ 35184372088832
        · rw [if_pos c12] at H
          have c12b0 := eq_true c12
          have c12b1 : decide (256 ≤ 35184372088832) = true := decide_eq_true c12
          clear c12
          obtain ⟨y130, hy130⟩ : ∃ y_ : List Int, y_ = (List.replicate 256 0) := ⟨_, rfl⟩
          replace H : (norm_Counts.l0 kj3 l0 a1 t128 y130 ([] : List (S71)) 0 l0 (l0.length : Int) 0) = some (r1, r2) := by first | (rw [hy130]; with_reducible exact H) | (have H2_ := (Option.bind_some _ _).symm.trans H; rw [hy130]; with_reducible exact H2_) | (have H2_ := (Option.bind_some _ _).symm.trans H; with_reducible exact H2_) | with_reducible exact H | (rw [hy130]; exact H) | exact H
          have Ny130 := Aside0.mk hy130
          clear hy130
          have H' := Aside0.mk H
          clear H
          go_wp2_with (first | ((with_reducible refine gate_dst (N := 31) rfl ?_); refine Kd.R_make (Kd.int .i64) _ 3 rfl (N := 31) rfl 29 _ _ rfl 256 rfl rfl Try.underlying29 (.int .i64 0) 8 info3 rfl (by decide) (by omega) 0 (ok := fun _ => True) (okp := fun _ => True) rfl (fun _ hk => hk) trivial (by omega) (by omega) (Below.refl _ _) (Nat.le_refl _) ?_; intro v131 w13 ho14 hb hg_ hnew_; clear hg_ hnew_; (first | rw [← Ny130.out] at ho14 | (simp only [Int.reduceToNat] at ho14; rw [← Ny130.out] at ho14)); have n0_ := Aside0.mk (Kd.R_lower ho14 (below_size (by repeat (first | (with_reducible first | exact HB.out | apply below_alloc | apply pw_below_drewN | apply below_drew1) | exact HB.out)))); have n1_ := Aside0.mk (below_step (by repeat (first | (with_reducible first | exact HB.out | apply below_alloc | apply pw_below_drewN | apply below_drew1) | exact HB.out)) hb); clear HB; have HO132 := n0_; have HB := n1_; clear n0_ n1_; clear hb ho14))
          repeat (go_quiet (first | ((with_reducible refine gate_dst (N := 31) rfl ?_); refine Kd.R_make (Kd.int .i64) _ 3 rfl (N := 31) rfl 29 _ _ rfl 256 rfl rfl Try.underlying29 (.int .i64 0) 8 info3 rfl (by decide) (by omega) 0 (ok := fun _ => True) (okp := fun _ => True) rfl (fun _ hk => hk) trivial (by omega) (by omega) (Below.refl _ _) (Nat.le_refl _) ?_; intro v131 w13 ho14 hb hg_ hnew_; clear hg_ hnew_; (first | rw [← Ny130.out] at ho14 | (simp only [Int.reduceToNat] at ho14; rw [← Ny130.out] at ho14)); have n0_ := Aside0.mk (Kd.R_lower ho14 (below_size (by repeat (first | (with_reducible first | exact HB.out | apply below_alloc | apply pw_below_drewN | apply below_drew1) | exact HB.out)))); have n1_ := Aside0.mk (below_step (by repeat (first | (with_reducible first | exact HB.out | apply below_alloc | apply pw_below_drewN | apply below_drew1) | exact HB.out)) hb); clear HB; have HO132 := n0_; have HB := n1_; clear n0_ n1_; clear hb ho14)); try go_wp2_with (first | ((with_reducible refine gate_dst (N := 31) rfl ?_); refine Kd.R_make (Kd.int .i64) _ 3 rfl (N := 31) rfl 29 _ _ rfl 256 rfl rfl Try.underlying29 (.int .i64 0) 8 info3 rfl (by decide) (by omega) 0 (ok := fun _ => True) (okp := fun _ => True) rfl (fun _ hk => hk) trivial (by omega) (by omega) (Below.refl _ _) (Nat.le_refl _) ?_; intro v131 w13 ho14 hb hg_ hnew_; clear hg_ hnew_; (first | rw [← Ny130.out] at ho14 | (simp only [Int.reduceToNat] at ho14; rw [← Ny130.out] at ho14)); have n0_ := Aside0.mk (Kd.R_lower ho14 (below_size (by repeat (first | (with_reducible first | exact HB.out | apply below_alloc | apply pw_below_drewN | apply below_drew1) | exact HB.out)))); have n1_ := Aside0.mk (below_step (by repeat (first | (with_reducible first | exact HB.out | apply below_alloc | apply pw_below_drewN | apply below_drew1) | exact HB.out)) hb); clear HB; have HO132 := n0_; have HB := n1_; clear n0_ n1_; clear hb ho14)))
          go_loopg [8, 9, 34] kj3 (fun kq v8 v9 v34 w' => ∃ (x7_2 : List Int) (x8_2 : List (S71)) (x9_2 : Int) (x34_2 : Int), v9 = .int .i64 x9_2 ∧ v34 = .int .i64 x34_2 ∧ Aside0 (norm_Counts.l0 kq l0 a1 t128 x7_2 x8_2 x9_2 l0 (l0.length : Int) x34_2 = some (r1, r2)) ∧ Aside0 (kq ≤ kj3) ∧ Aside0 (Kd.R (Kd.int .i64) 3 w' w.heap.size (fun _ => True) v131 x7_2) ∧ Aside0 (Kd.R k71 71 w' w.heap.size (fun _ => True) v8 x8_2) ∧ Aside0 (Below w.heap.size w w'))
          case atStart => exact ⟨(y130), (([] : List (S71))), (0), (0), (by first | rfl | (simp; done) | (simp [*]; done)), (by first | rfl | (simp; done) | (simp [*]; done)), H', ⟨Nat.le_refl _⟩, ⟨by (with_reducible repeat (first | apply Kd.R_alloc | apply Kd.R_drewN | apply Kd.R_drew)); exact HO132.out⟩, ⟨by first | exact Kd.R_nil _ _ _ _ _ | exact Kd.N_nil _ _ _ _ _ | exact Kd.V_nil _ _ _ _ _ | exact Kd.Q_nil _ _ _ _ _ | exact Kd.S_nil _ _ _ _ _⟩, ⟨by repeat (first | (with_reducible first | exact HB.out | apply below_alloc | apply pw_below_drewN | apply below_drew1) | exact HB.out)⟩⟩
          case round =>
            clear H'
            try clear c1
            try clear p2
            try clear c5
            try clear c5b0
            try clear c5b1
            try clear c6
            try clear c6b0
            try clear p6
            try clear c7
            try clear c7b0
            try clear c9
            try clear c9b0
            try clear c9b1
            try clear c11
            try clear c12
            try clear c12b0
            try clear c12b1
            try clear p2
            try clear p6
            obtain ⟨x7_2, x8_2, x9_2, x34_2, rfl, rfl, HA, HK2, HO_7, HO_8, HB⟩ := hrel
            cases gk with
            | zero => exact absurd HA.out (by simp [norm_Counts.l0])
            | succ k2 =>
              have H := HA.out
              clear HA
              simp only [norm_Counts.l0] at H
              by_cases c15 : x34_2 < (l0.length : Int)
              · rw [if_pos c15] at H
                have c15b0 : decide (x34_2 < (l0.length : Int)) = true := decide_eq_true c15
                clear c15
                by_cases c16 : 0 ≤ x34_2
                · rw [if_pos c16] at H
                  have c16b0 : decide (0 ≤ x34_2) = true := decide_eq_true c16
                  clear c16
                  by_cases c17 : x34_2 < (l0.length : Int)
                  · rw [if_pos c17] at H
                    have c17b0 : decide (x34_2 < (l0.length : Int)) = true := decide_eq_true c17
                    clear c17
                    by_cases c18 : 0 ≤ a1
                    · rw [if_pos c18] at H
                      have c18b0 := eq_true c18
                      have c18b1 : decide (0 ≤ a1) = true := decide_eq_true c18
                      clear c18
                      obtain ⟨ji19, hji19⟩ : ∃ j_ : Int, (shl .i64 (rd l0 x34_2) a1) = j_ := ⟨_, rfl⟩
                      replace H : (if t128 = 0 then (none) else (if x34_2 < (x7_2.length : Int) then ((some (x7_2.set (x34_2 : Int).toNat (wrap64 (Int.tdiv (ji19) t128)) : List Int)).bind fun y136 => (if (rd y136 x34_2) > 0 then (if x8_2.length < 5864062014805 then (norm_Counts.l0 k2 l0 a1 t128 y136 (x8_2 ++ [(⟨x34_2, Int.tmod (ji19) t128, 0⟩ : S71)]) (wrap64 (x9_2 + (rd y136 x34_2))) l0 (l0.length : Int) (wrap64 (x34_2 + 1))) else (none)) else (if (rd l0 x34_2) > 0 then ((some (y136.set (x34_2 : Int).toNat 1 : List Int)).bind fun y142 => (norm_Counts.l0 k2 l0 a1 t128 y142 x8_2 (wrap64 (x9_2 + (rd y142 x34_2))) l0 (l0.length : Int) (wrap64 (x34_2 + 1)))) else (norm_Counts.l0 k2 l0 a1 t128 y136 x8_2 (wrap64 (x9_2 + (rd y136 x34_2))) l0 (l0.length : Int) (wrap64 (x34_2 + 1)))))) else (none))) = some (r1, r2) := by first | (rw [hji19] at H; exact H) | (simp only [hji19] at H ⊢; exact H)
                      have hji19_ : (IntKind.i64.wrap ((rd l0 x34_2) * 2 ^ min a1.toNat 64)) = ji19 := hji19
                      have hji19z : a1 ≤ 64 → (IntKind.i64.wrap ((rd l0 x34_2) * 2 ^ a1.toNat)) = ji19 := shl_small hji19
                      have hji19y : (wrap64 ((rd l0 x34_2) * 2 ^ min a1.toNat 64)) = ji19 := (i64_w _).symm.trans hji19_
                      have hji19x : a1 ≤ 64 → (wrap64 ((rd l0 x34_2) * 2 ^ a1.toNat)) = ji19 := fun h_ => (i64_w _).symm.trans (hji19z h_)
                      by_cases c20 : t128 = 0
                      · rw [if_pos c20] at H
                        exact absurd H (by simp)
                      · rw [if_neg c20] at H
                        have c20b0 : (t128 == 0) = false := beq_eq_false_iff_ne.mpr c20
                        have c20b1 : (t128 != 0) = true := bne_iff_ne.mpr c20
                        by_cases c21 : x34_2 < (x7_2.length : Int)
                        · rw [if_pos c21] at H
                          have c21b0 : decide (x34_2 < (x7_2.length : Int)) = true := decide_eq_true c21
                          clear c21
                          obtain ⟨y136, hy136⟩ : ∃ y_ : List Int, y_ = (x7_2.set (x34_2 : Int).toNat (wrap64 (Int.tdiv (ji19) t128))) := ⟨_, rfl⟩
                          replace H : (if (rd y136 x34_2) > 0 then (if x8_2.length < 5864062014805 then (norm_Counts.l0 k2 l0 a1 t128 y136 (x8_2 ++ [(⟨x34_2, Int.tmod (ji19) t128, 0⟩ : S71)]) (wrap64 (x9_2 + (rd y136 x34_2))) l0 (l0.length : Int) (wrap64 (x34_2 + 1))) else (none)) else (if (rd l0 x34_2) > 0 then ((some (y136.set (x34_2 : Int).toNat 1 : List Int)).bind fun y142 => (norm_Counts.l0 k2 l0 a1 t128 y142 x8_2 (wrap64 (x9_2 + (rd y142 x34_2))) l0 (l0.length : Int) (wrap64 (x34_2 + 1)))) else (norm_Counts.l0 k2 l0 a1 t128 y136 x8_2 (wrap64 (x9_2 + (rd y136 x34_2))) l0 (l0.length : Int) (wrap64 (x34_2 + 1))))) = some (r1, r2) := by first | (rw [hy136]; with_reducible exact H) | (have H2_ := (Option.bind_some _ _).symm.trans H; rw [hy136]; with_reducible exact H2_) | (have H2_ := (Option.bind_some _ _).symm.trans H; with_reducible exact H2_) | with_reducible exact H | (rw [hy136]; exact H) | exact H
                          have Ny136 := Aside0.mk hy136
                          clear hy136
                          by_cases c23 : (rd y136 x34_2) > 0
                          · rw [if_pos c23] at H
                            have c23b0 : decide (0 < (rd y136 x34_2)) = true := decide_eq_true c23
                            clear c23
                            have c24b0 := eq_true (of_decide_eq_true (by first | (with_reducible assumption) | assumption) : 0 ≤ a1)
                            by_cases c25 : x8_2.length < 5864062014805
                            · rw [if_pos c25] at H
                              have LMc25 := Aside0.mk c25
                              clear c25
                              obtain ⟨y138, hy138⟩ : ∃ y_ : List (S71), y_ = (x8_2 ++ [(⟨x34_2, Int.tmod (ji19) t128, 0⟩ : S71)]) := ⟨_, rfl⟩
                              replace H : (norm_Counts.l0 k2 l0 a1 t128 y136 y138 (wrap64 (x9_2 + (rd y136 x34_2))) l0 (l0.length : Int) (wrap64 (x34_2 + 1))) = some (r1, r2) := by first | (rw [hy138]; with_reducible exact H) | (have H2_ := (Option.bind_some _ _).symm.trans H; rw [hy138]; with_reducible exact H2_) | (have H2_ := (Option.bind_some _ _).symm.trans H; with_reducible exact H2_) | with_reducible exact H | (rw [hy138]; exact H) | exact H
                              have Ny138 := Aside0.mk hy138
                              clear hy138
                              have H' := Aside0.mk H
                              clear H
                              have p135 : 0 ≤ (x34_2 : Int) := of_decide_eq_true (by first | (with_reducible assumption) | assumption)
                              have q135 : x34_2 < (l0.length : Int) := of_decide_eq_true (by first | (with_reducible assumption) | assumption)
                              obtain ⟨ad135, e135, hx135_0⟩ := Kd.at_int HR0.out x34_2 p135 q135
                              cases e135
                              replace hx135_0 := (HB.out.cell (World.block_lt_of_cell? w _ hx135_0)).trans hx135_0
                              replace p135 := eq_true p135
                              replace q135 := eq_true q135
                              have p22 : 0 ≤ (x34_2 : Int) := of_decide_eq_true (by first | (with_reducible assumption) | assumption)
                              have q22 : (x34_2 : Int) < ((x7_2.length : Int) : Int) := of_decide_eq_true (by first | (with_reducible assumption) | assumption)
                              obtain ⟨go22, co22, eo22, gb22, gl22, cl22, HG22⟩ := Kd.R_form HO_7.out (by omega)
                              (first | cases eo22 | (injection eo22 with ea_ en_ ec_; (first | subst ea_ | (injection ea_ with ea_; subst ea_)); subst ec_; clear en_))
                              have GB22 := Aside0.mk gb22
                              have GG22 := Aside0.mk HG22
                              clear gb22 gl22 HG22
                              obtain ⟨hx22_0, hf22_0⟩ := Kd.R_celln 0 HO_7.out (x34_2 : Int) p22 q22
                              replace p22 := eq_true p22
                              replace q22 := eq_true q22
                              have HP26 := Kd.R_putg HO_7.out (x34_2 : Int) (wrap64 (Int.tdiv (ji19) t128))
                              go_wp2_with (first | ((with_reducible refine gate_store (t := 3) (p := 46) rfl ?_); (try (rw [drewN_self wr]; generalize hq_ : World.drewN wr _ = wr; have n0_ := Aside0.mk (Kd.R_at hq_ HO_7.out); have n1_ := Aside0.mk (Kd.R_at hq_ HO_8.out); have n2_ := Aside0.mk (below_at hq_ HB.out); clear hq_ HO_7 HO_8 HB; have HO_7 := n0_; have HO_8 := n1_; have HB := n2_; clear n0_ n1_ n2_; (try (have HP26 := Kd.R_putg HO_7.out (x34_2 : Int) (wrap64 (Int.tdiv (ji19) t128)))))); refine store_event (t := 3) (p := 46) (v := ?vo_w27) (w1 := (wr.setCell ⟨go22, (x34_2 : Int).toNat, none⟩ (.int .i64 (wrap64 (Int.tdiv (ji19) t128))))) ?hg ?ho ?hn ?hr ?_; (case ho => rfl); (case hg => rfl); (case hn => rfl); (case hr => first | (go_simp; done) | (go_simp; rfl)); intro w27 hw; have hg : wr.grownBy w27 (some go22) := (by rw [hw]; exact HP26.2); have hp_ : Kd.R (Kd.int .i64) 3 w27 w.heap.size (fun _ => True) (.slice (some ⟨go22, 0, none⟩) x7_2.length co22) y136 := (by rw [hw, Ny136.out]; exact HP26.1); clear HP26; have n0_ := Aside0.mk (hp_); have n1_ := Aside0.mk (Kd.R_over' (v := (.slice (some ⟨go22, 0, none⟩) x7_2.length co22)) (by (with_reducible repeat (first | apply Kd.R_alloc | apply Kd.R_drewN | apply Kd.R_drew)); exact HO_8.out) (Kd.R_typed HO_7.out) (by decide) hg); have n2_ := Aside0.mk ((by rw [hw]; exact below_set (HB.out) GB22.out : Below w.heap.size w w27)); clear HO_7; clear HO_8; clear HB; have HO_7 := n0_; have HO_8 := n1_; have HB := n2_; clear n0_ n1_ n2_; clear hg hw hp_; have p137 : 0 ≤ (x34_2 : Int) := of_decide_eq_true (by first | (with_reducible assumption) | assumption); have q137 : x34_2 < (y136.length : Int) := (by have h_ : (x34_2 : Int) < ((x7_2.length : Int) : Int) := of_decide_eq_true (by first | (with_reducible assumption) | assumption); first | (have e_ := (Kd.R_reads' HO_7.out).1; omega) | simpa only [Ny136.out, List.length_set] using h_); have ql137 : ((x34_2 : Int) < ((x7_2.length : Int) : Int)) = True := eq_true (of_decide_eq_true (by first | (with_reducible assumption) | assumption)); obtain ⟨ad137, e137, hx137_0⟩ := Kd.at_int (Kd.R_reads' HO_7.out).2.2 x34_2 p137 q137; obtain rfl : (⟨go22, 0, none⟩ : Addr) = ad137 := (by injection e137); (first | simp only [add_plain] at hx137_0 | simp only [add_at] at hx137_0 | simp only [Addr.add, Nat.zero_add] at hx137_0 | skip); replace p137 := eq_true p137; replace q137 := eq_true q137) | ((with_reducible refine gate_builtin (b := .append) (xs := #[.tmp 53, .tmp 61]) rfl ?_); at_builtin; refine Kd.R_append k71 (w0 := w) w.heap.size rfl (.tmp 53) (.tmp 61) 69 71 (.agg #[(.int .i64 0), (.int .i64 0), (.int .i64 0)]) 24 rfl Try.underlying69 info71 rfl (by decide) (by omega) u8 x8_2 (⟨x34_2, Int.tmod (ji19) t128, 0⟩ : S71) [.int .i64 x34_2, .int .i64 (Int.tmod (ji19) t128), .int .i64 0] (fun _ => True) (fun _ => False) rfl rfl ?aP (fun _ hk => hk.elim) ?aF ?aO ?aB ?aS ?aL ?_; (case aP => exact k71_mkM _ _ _ (⟨x34_2, Int.tmod (ji19) t128, 0⟩ : S71)); (case aB => exact (by repeat (first | (with_reducible first | exact HB.out | apply below_alloc | apply pw_below_drewN | apply below_drew1) | exact HB.out))); (case aF => exact (fun _ _ => trivial)); (case aO => exact (by (with_reducible repeat (first | apply Kd.R_alloc | apply Kd.R_drewN | apply Kd.R_drew)); exact HO_8.out)); (case aS => exact (below_size (by repeat (first | (with_reducible first | exact HB.out | apply below_alloc | apply pw_below_drewN | apply below_drew1) | exact HB.out)))); (case aL => have := LMc25.out; omega); intro v139 w28 ho hb hg hat; rw [← Ny138.out] at ho; have n0_ := Aside0.mk (Kd.R_over' (by (with_reducible repeat (first | apply Kd.R_alloc | apply Kd.R_drewN | apply Kd.R_drew)); exact HO_7.out) (Kd.R_typed (by (with_reducible repeat (first | apply Kd.R_alloc | apply Kd.R_drewN | apply Kd.R_drew)); exact HO_8.out)) (by decide) hg); have n1_ := Aside0.mk (hb); have n2_ := Aside0.mk (ho); clear HO_7; clear HB; clear HO_8; have HO_7 := n0_; have HB := n1_; have HO140 := n2_; clear n0_ n1_ n2_; clear ho hb hg hat; have p141 : 0 ≤ (x34_2 : Int) := of_decide_eq_true (by first | (with_reducible assumption) | assumption); have q141 : x34_2 < (y136.length : Int) := (by have h_ : (x34_2 : Int) < ((x7_2.length : Int) : Int) := of_decide_eq_true (by first | (with_reducible assumption) | assumption); first | (have e_ := (Kd.R_reads' HO_7.out).1; omega) | simpa only [Ny136.out, List.length_set] using h_); have ql141 : ((x34_2 : Int) < ((x7_2.length : Int) : Int)) = True := eq_true (of_decide_eq_true (by first | (with_reducible assumption) | assumption)); obtain ⟨ad141, e141, hx141_0⟩ := Kd.at_int (Kd.R_reads' HO_7.out).2.2 x34_2 p141 q141; obtain rfl : (⟨go22, 0, none⟩ : Addr) = ad141 := (by injection e141); (first | simp only [add_plain] at hx141_0 | simp only [add_at] at hx141_0 | simp only [Addr.add, Nat.zero_add] at hx141_0 | skip); replace p141 := eq_true p141; replace q141 := eq_true q141))
                              repeat (go_quiet (first | ((with_reducible refine gate_store (t := 3) (p := 46) rfl ?_); (try (rw [drewN_self wr]; generalize hq_ : World.drewN wr _ = wr; have n0_ := Aside0.mk (Kd.R_at hq_ HO_7.out); have n1_ := Aside0.mk (Kd.R_at hq_ HO_8.out); have n2_ := Aside0.mk (below_at hq_ HB.out); clear hq_ HO_7 HO_8 HB; have HO_7 := n0_; have HO_8 := n1_; have HB := n2_; clear n0_ n1_ n2_; (try (have HP26 := Kd.R_putg HO_7.out (x34_2 : Int) (wrap64 (Int.tdiv (ji19) t128)))))); refine store_event (t := 3) (p := 46) (v := ?vo_w27) (w1 := (wr.setCell ⟨go22, (x34_2 : Int).toNat, none⟩ (.int .i64 (wrap64 (Int.tdiv (ji19) t128))))) ?hg ?ho ?hn ?hr ?_; (case ho => rfl); (case hg => rfl); (case hn => rfl); (case hr => first | (go_simp; done) | (go_simp; rfl)); intro w27 hw; have hg : wr.grownBy w27 (some go22) := (by rw [hw]; exact HP26.2); have hp_ : Kd.R (Kd.int .i64) 3 w27 w.heap.size (fun _ => True) (.slice (some ⟨go22, 0, none⟩) x7_2.length co22) y136 := (by rw [hw, Ny136.out]; exact HP26.1); clear HP26; have n0_ := Aside0.mk (hp_); have n1_ := Aside0.mk (Kd.R_over' (v := (.slice (some ⟨go22, 0, none⟩) x7_2.length co22)) (by (with_reducible repeat (first | apply Kd.R_alloc | apply Kd.R_drewN | apply Kd.R_drew)); exact HO_8.out) (Kd.R_typed HO_7.out) (by decide) hg); have n2_ := Aside0.mk ((by rw [hw]; exact below_set (HB.out) GB22.out : Below w.heap.size w w27)); clear HO_7; clear HO_8; clear HB; have HO_7 := n0_; have HO_8 := n1_; have HB := n2_; clear n0_ n1_ n2_; clear hg hw hp_; have p137 : 0 ≤ (x34_2 : Int) := of_decide_eq_true (by first | (with_reducible assumption) | assumption); have q137 : x34_2 < (y136.length : Int) := (by have h_ : (x34_2 : Int) < ((x7_2.length : Int) : Int) := of_decide_eq_true (by first | (with_reducible assumption) | assumption); first | (have e_ := (Kd.R_reads' HO_7.out).1; omega) | simpa only [Ny136.out, List.length_set] using h_); have ql137 : ((x34_2 : Int) < ((x7_2.length : Int) : Int)) = True := eq_true (of_decide_eq_true (by first | (with_reducible assumption) | assumption)); obtain ⟨ad137, e137, hx137_0⟩ := Kd.at_int (Kd.R_reads' HO_7.out).2.2 x34_2 p137 q137; obtain rfl : (⟨go22, 0, none⟩ : Addr) = ad137 := (by injection e137); (first | simp only [add_plain] at hx137_0 | simp only [add_at] at hx137_0 | simp only [Addr.add, Nat.zero_add] at hx137_0 | skip); replace p137 := eq_true p137; replace q137 := eq_true q137) | ((with_reducible refine gate_builtin (b := .append) (xs := #[.tmp 53, .tmp 61]) rfl ?_); at_builtin; refine Kd.R_append k71 (w0 := w) w.heap.size rfl (.tmp 53) (.tmp 61) 69 71 (.agg #[(.int .i64 0), (.int .i64 0), (.int .i64 0)]) 24 rfl Try.underlying69 info71 rfl (by decide) (by omega) u8 x8_2 (⟨x34_2, Int.tmod (ji19) t128, 0⟩ : S71) [.int .i64 x34_2, .int .i64 (Int.tmod (ji19) t128), .int .i64 0] (fun _ => True) (fun _ => False) rfl rfl ?aP (fun _ hk => hk.elim) ?aF ?aO ?aB ?aS ?aL ?_; (case aP => exact k71_mkM _ _ _ (⟨x34_2, Int.tmod (ji19) t128, 0⟩ : S71)); (case aB => exact (by repeat (first | (with_reducible first | exact HB.out | apply below_alloc | apply pw_below_drewN | apply below_drew1) | exact HB.out))); (case aF => exact (fun _ _ => trivial)); (case aO => exact (by (with_reducible repeat (first | apply Kd.R_alloc | apply Kd.R_drewN | apply Kd.R_drew)); exact HO_8.out)); (case aS => exact (below_size (by repeat (first | (with_reducible first | exact HB.out | apply below_alloc | apply pw_below_drewN | apply below_drew1) | exact HB.out)))); (case aL => have := LMc25.out; omega); intro v139 w28 ho hb hg hat; rw [← Ny138.out] at ho; have n0_ := Aside0.mk (Kd.R_over' (by (with_reducible repeat (first | apply Kd.R_alloc | apply Kd.R_drewN | apply Kd.R_drew)); exact HO_7.out) (Kd.R_typed (by (with_reducible repeat (first | apply Kd.R_alloc | apply Kd.R_drewN | apply Kd.R_drew)); exact HO_8.out)) (by decide) hg); have n1_ := Aside0.mk (hb); have n2_ := Aside0.mk (ho); clear HO_7; clear HB; clear HO_8; have HO_7 := n0_; have HB := n1_; have HO140 := n2_; clear n0_ n1_ n2_; clear ho hb hg hat; have p141 : 0 ≤ (x34_2 : Int) := of_decide_eq_true (by first | (with_reducible assumption) | assumption); have q141 : x34_2 < (y136.length : Int) := (by have h_ : (x34_2 : Int) < ((x7_2.length : Int) : Int) := of_decide_eq_true (by first | (with_reducible assumption) | assumption); first | (have e_ := (Kd.R_reads' HO_7.out).1; omega) | simpa only [Ny136.out, List.length_set] using h_); have ql141 : ((x34_2 : Int) < ((x7_2.length : Int) : Int)) = True := eq_true (of_decide_eq_true (by first | (with_reducible assumption) | assumption)); obtain ⟨ad141, e141, hx141_0⟩ := Kd.at_int (Kd.R_reads' HO_7.out).2.2 x34_2 p141 q141; obtain rfl : (⟨go22, 0, none⟩ : Addr) = ad141 := (by injection e141); (first | simp only [add_plain] at hx141_0 | simp only [add_at] at hx141_0 | simp only [Addr.add, Nat.zero_add] at hx141_0 | skip); replace p141 := eq_true p141; replace q141 := eq_true q141)); try go_wp2_with (first | ((with_reducible refine gate_store (t := 3) (p := 46) rfl ?_); (try (rw [drewN_self wr]; generalize hq_ : World.drewN wr _ = wr; have n0_ := Aside0.mk (Kd.R_at hq_ HO_7.out); have n1_ := Aside0.mk (Kd.R_at hq_ HO_8.out); have n2_ := Aside0.mk (below_at hq_ HB.out); clear hq_ HO_7 HO_8 HB; have HO_7 := n0_; have HO_8 := n1_; have HB := n2_; clear n0_ n1_ n2_; (try (have HP26 := Kd.R_putg HO_7.out (x34_2 : Int) (wrap64 (Int.tdiv (ji19) t128)))))); refine store_event (t := 3) (p := 46) (v := ?vo_w27) (w1 := (wr.setCell ⟨go22, (x34_2 : Int).toNat, none⟩ (.int .i64 (wrap64 (Int.tdiv (ji19) t128))))) ?hg ?ho ?hn ?hr ?_; (case ho => rfl); (case hg => rfl); (case hn => rfl); (case hr => first | (go_simp; done) | (go_simp; rfl)); intro w27 hw; have hg : wr.grownBy w27 (some go22) := (by rw [hw]; exact HP26.2); have hp_ : Kd.R (Kd.int .i64) 3 w27 w.heap.size (fun _ => True) (.slice (some ⟨go22, 0, none⟩) x7_2.length co22) y136 := (by rw [hw, Ny136.out]; exact HP26.1); clear HP26; have n0_ := Aside0.mk (hp_); have n1_ := Aside0.mk (Kd.R_over' (v := (.slice (some ⟨go22, 0, none⟩) x7_2.length co22)) (by (with_reducible repeat (first | apply Kd.R_alloc | apply Kd.R_drewN | apply Kd.R_drew)); exact HO_8.out) (Kd.R_typed HO_7.out) (by decide) hg); have n2_ := Aside0.mk ((by rw [hw]; exact below_set (HB.out) GB22.out : Below w.heap.size w w27)); clear HO_7; clear HO_8; clear HB; have HO_7 := n0_; have HO_8 := n1_; have HB := n2_; clear n0_ n1_ n2_; clear hg hw hp_; have p137 : 0 ≤ (x34_2 : Int) := of_decide_eq_true (by first | (with_reducible assumption) | assumption); have q137 : x34_2 < (y136.length : Int) := (by have h_ : (x34_2 : Int) < ((x7_2.length : Int) : Int) := of_decide_eq_true (by first | (with_reducible assumption) | assumption); first | (have e_ := (Kd.R_reads' HO_7.out).1; omega) | simpa only [Ny136.out, List.length_set] using h_); have ql137 : ((x34_2 : Int) < ((x7_2.length : Int) : Int)) = True := eq_true (of_decide_eq_true (by first | (with_reducible assumption) | assumption)); obtain ⟨ad137, e137, hx137_0⟩ := Kd.at_int (Kd.R_reads' HO_7.out).2.2 x34_2 p137 q137; obtain rfl : (⟨go22, 0, none⟩ : Addr) = ad137 := (by injection e137); (first | simp only [add_plain] at hx137_0 | simp only [add_at] at hx137_0 | simp only [Addr.add, Nat.zero_add] at hx137_0 | skip); replace p137 := eq_true p137; replace q137 := eq_true q137) | ((with_reducible refine gate_builtin (b := .append) (xs := #[.tmp 53, .tmp 61]) rfl ?_); at_builtin; refine Kd.R_append k71 (w0 := w) w.heap.size rfl (.tmp 53) (.tmp 61) 69 71 (.agg #[(.int .i64 0), (.int .i64 0), (.int .i64 0)]) 24 rfl Try.underlying69 info71 rfl (by decide) (by omega) u8 x8_2 (⟨x34_2, Int.tmod (ji19) t128, 0⟩ : S71) [.int .i64 x34_2, .int .i64 (Int.tmod (ji19) t128), .int .i64 0] (fun _ => True) (fun _ => False) rfl rfl ?aP (fun _ hk => hk.elim) ?aF ?aO ?aB ?aS ?aL ?_; (case aP => exact k71_mkM _ _ _ (⟨x34_2, Int.tmod (ji19) t128, 0⟩ : S71)); (case aB => exact (by repeat (first | (with_reducible first | exact HB.out | apply below_alloc | apply pw_below_drewN | apply below_drew1) | exact HB.out))); (case aF => exact (fun _ _ => trivial)); (case aO => exact (by (with_reducible repeat (first | apply Kd.R_alloc | apply Kd.R_drewN | apply Kd.R_drew)); exact HO_8.out)); (case aS => exact (below_size (by repeat (first | (with_reducible first | exact HB.out | apply below_alloc | apply pw_below_drewN | apply below_drew1) | exact HB.out)))); (case aL => have := LMc25.out; omega); intro v139 w28 ho hb hg hat; rw [← Ny138.out] at ho; have n0_ := Aside0.mk (Kd.R_over' (by (with_reducible repeat (first | apply Kd.R_alloc | apply Kd.R_drewN | apply Kd.R_drew)); exact HO_7.out) (Kd.R_typed (by (with_reducible repeat (first | apply Kd.R_alloc | apply Kd.R_drewN | apply Kd.R_drew)); exact HO_8.out)) (by decide) hg); have n1_ := Aside0.mk (hb); have n2_ := Aside0.mk (ho); clear HO_7; clear HB; clear HO_8; have HO_7 := n0_; have HB := n1_; have HO140 := n2_; clear n0_ n1_ n2_; clear ho hb hg hat; have p141 : 0 ≤ (x34_2 : Int) := of_decide_eq_true (by first | (with_reducible assumption) | assumption); have q141 : x34_2 < (y136.length : Int) := (by have h_ : (x34_2 : Int) < ((x7_2.length : Int) : Int) := of_decide_eq_true (by first | (with_reducible assumption) | assumption); first | (have e_ := (Kd.R_reads' HO_7.out).1; omega) | simpa only [Ny136.out, List.length_set] using h_); have ql141 : ((x34_2 : Int) < ((x7_2.length : Int) : Int)) = True := eq_true (of_decide_eq_true (by first | (with_reducible assumption) | assumption)); obtain ⟨ad141, e141, hx141_0⟩ := Kd.at_int (Kd.R_reads' HO_7.out).2.2 x34_2 p141 q141; obtain rfl : (⟨go22, 0, none⟩ : Addr) = ad141 := (by injection e141); (first | simp only [add_plain] at hx141_0 | simp only [add_at] at hx141_0 | simp only [Addr.add, Nat.zero_add] at hx141_0 | skip); replace p141 := eq_true p141; replace q141 := eq_true q141)))
                              subst hji19
                              go_roundg k2
                              case measure => have := HJ3.out; have := HK2.out; omega
                              case rel => exact ⟨(y136), (y138), (wrap64 (x9_2 + (rd y136 x34_2))), (wrap64 (x34_2 + 1)), (by first | rfl | (simp; done) | (simp [*]; done)), (by first | rfl | (simp; done) | (simp [*]; done)), H', ⟨by have := HJ3.out; have := HK2.out; omega⟩, ⟨by (with_reducible repeat (first | apply Kd.R_alloc | apply Kd.R_drewN | apply Kd.R_drew)); exact HO_7.out⟩, ⟨by (with_reducible repeat (first | apply Kd.R_alloc | apply Kd.R_drewN | apply Kd.R_drew)); exact HO140.out⟩, ⟨by repeat (first | (with_reducible first | exact HB.out | apply below_alloc | apply pw_below_drewN | apply below_drew1) | exact HB.out)⟩⟩
                            · rw [if_neg c25] at H
                              exact absurd H (by simp)
                          · rw [if_neg c23] at H
                            have c23b0 : decide (0 < (rd y136 x34_2)) = false := decide_eq_false c23
                            clear c23
                            by_cases c29 : (rd l0 x34_2) > 0
                            · rw [if_pos c29] at H
                              have c29b0 : decide (0 < (rd l0 x34_2)) = true := decide_eq_true c29
                              clear c29
                              obtain ⟨y142, hy142⟩ : ∃ y_ : List Int, y_ = (y136.set (x34_2 : Int).toNat 1) := ⟨_, rfl⟩
                              replace H : (norm_Counts.l0 k2 l0 a1 t128 y142 x8_2 (wrap64 (x9_2 + (rd y142 x34_2))) l0 (l0.length : Int) (wrap64 (x34_2 + 1))) = some (r1, r2) := by first | (rw [hy142]; with_reducible exact H) | (have H2_ := (Option.bind_some _ _).symm.trans H; rw [hy142]; with_reducible exact H2_) | (have H2_ := (Option.bind_some _ _).symm.trans H; with_reducible exact H2_) | with_reducible exact H | (rw [hy142]; exact H) | exact H
                              have Ny142 := Aside0.mk hy142
                              clear hy142
                              have H' := Aside0.mk H
                              clear H
                              have p135 : 0 ≤ (x34_2 : Int) := of_decide_eq_true (by first | (with_reducible assumption) | assumption)
                              have q135 : x34_2 < (l0.length : Int) := of_decide_eq_true (by first | (with_reducible assumption) | assumption)
                              obtain ⟨ad135, e135, hx135_0⟩ := Kd.at_int HR0.out x34_2 p135 q135
                              cases e135
                              replace hx135_0 := (HB.out.cell (World.block_lt_of_cell? w _ hx135_0)).trans hx135_0
                              replace p135 := eq_true p135
                              replace q135 := eq_true q135
                              have p22 : 0 ≤ (x34_2 : Int) := of_decide_eq_true (by first | (with_reducible assumption) | assumption)
                              have q22 : (x34_2 : Int) < ((x7_2.length : Int) : Int) := of_decide_eq_true (by first | (with_reducible assumption) | assumption)
                              obtain ⟨go22, co22, eo22, gb22, gl22, cl22, HG22⟩ := Kd.R_form HO_7.out (by omega)
                              (first | cases eo22 | (injection eo22 with ea_ en_ ec_; (first | subst ea_ | (injection ea_ with ea_; subst ea_)); subst ec_; clear en_))
                              have GB22 := Aside0.mk gb22
                              have GG22 := Aside0.mk HG22
                              clear gb22 gl22 HG22
                              obtain ⟨hx22_0, hf22_0⟩ := Kd.R_celln 0 HO_7.out (x34_2 : Int) p22 q22
                              replace p22 := eq_true p22
                              replace q22 := eq_true q22
                              have HP31 := Kd.R_putg HO_7.out (x34_2 : Int) (wrap64 (Int.tdiv (ji19) t128))
                              go_wp2_with (first | ((with_reducible refine gate_store (t := 3) (p := 46) rfl ?_); (try (rw [drewN_self wr]; generalize hq_ : World.drewN wr _ = wr; have n0_ := Aside0.mk (Kd.R_at hq_ HO_7.out); have n1_ := Aside0.mk (Kd.R_at hq_ HO_8.out); have n2_ := Aside0.mk (below_at hq_ HB.out); clear hq_ HO_7 HO_8 HB; have HO_7 := n0_; have HO_8 := n1_; have HB := n2_; clear n0_ n1_ n2_; (try (have HP31 := Kd.R_putg HO_7.out (x34_2 : Int) (wrap64 (Int.tdiv (ji19) t128)))))); refine store_event (t := 3) (p := 46) (v := ?vo_w32) (w1 := (wr.setCell ⟨go22, (x34_2 : Int).toNat, none⟩ (.int .i64 (wrap64 (Int.tdiv (ji19) t128))))) ?hg ?ho ?hn ?hr ?_; (case ho => rfl); (case hg => rfl); (case hn => rfl); (case hr => first | (go_simp; done) | (go_simp; rfl)); intro w32 hw; have hg : wr.grownBy w32 (some go22) := (by rw [hw]; exact HP31.2); have hp_ : Kd.R (Kd.int .i64) 3 w32 w.heap.size (fun _ => True) (.slice (some ⟨go22, 0, none⟩) x7_2.length co22) y136 := (by rw [hw, Ny136.out]; exact HP31.1); clear HP31; have n0_ := Aside0.mk (hp_); have n1_ := Aside0.mk (Kd.R_over' (v := (.slice (some ⟨go22, 0, none⟩) x7_2.length co22)) (by (with_reducible repeat (first | apply Kd.R_alloc | apply Kd.R_drewN | apply Kd.R_drew)); exact HO_8.out) (Kd.R_typed HO_7.out) (by decide) hg); have n2_ := Aside0.mk ((by rw [hw]; exact below_set (HB.out) GB22.out : Below w.heap.size w w32)); clear HO_7; clear HO_8; clear HB; have HO_7 := n0_; have HO_8 := n1_; have HB := n2_; clear n0_ n1_ n2_; clear hg hw hp_; have p137 : 0 ≤ (x34_2 : Int) := of_decide_eq_true (by first | (with_reducible assumption) | assumption); have q137 : x34_2 < (y136.length : Int) := (by have h_ : (x34_2 : Int) < ((x7_2.length : Int) : Int) := of_decide_eq_true (by first | (with_reducible assumption) | assumption); first | (have e_ := (Kd.R_reads' HO_7.out).1; omega) | simpa only [Ny136.out, List.length_set] using h_); have ql137 : ((x34_2 : Int) < ((x7_2.length : Int) : Int)) = True := eq_true (of_decide_eq_true (by first | (with_reducible assumption) | assumption)); obtain ⟨ad137, e137, hx137_0⟩ := Kd.at_int (Kd.R_reads' HO_7.out).2.2 x34_2 p137 q137; obtain rfl : (⟨go22, 0, none⟩ : Addr) = ad137 := (by injection e137); (first | simp only [add_plain] at hx137_0 | simp only [add_at] at hx137_0 | simp only [Addr.add, Nat.zero_add] at hx137_0 | skip); replace p137 := eq_true p137; replace q137 := eq_true q137; have p30 : 0 ≤ (x34_2 : Int) := of_decide_eq_true (by first | (with_reducible assumption) | assumption); have q30 : (x34_2 : Int) < ((x7_2.length : Int) : Int) := of_decide_eq_true (by first | (with_reducible assumption) | assumption); obtain ⟨hx30_0, hf30_0⟩ := Kd.R_celln 0 HO_7.out (x34_2 : Int) p30 q30; replace p30 := eq_true p30; replace q30 := eq_true q30; obtain ⟨hy33_, hz33_⟩ := Kd.R_celln 0 HO_7.out (x34_2 : Int) (of_decide_eq_true (by first | (with_reducible assumption) | assumption)) (of_decide_eq_true (by first | (with_reducible assumption) | assumption)); have HP33 := Kd.R_putg HO_7.out (x34_2 : Int) 1) | ((with_reducible refine gate_store (t := 3) (p := 68) rfl ?_); (try (rw [drewN_self w32]; generalize hq_ : World.drewN w32 _ = w32; have n0_ := Aside0.mk (Kd.R_at hq_ HO_7.out); have n1_ := Aside0.mk (Kd.R_at hq_ HO_8.out); have n2_ := Aside0.mk (below_at hq_ HB.out); clear hq_ HO_7 HO_8 HB; have HO_7 := n0_; have HO_8 := n1_; have HB := n2_; clear n0_ n1_ n2_; (try (obtain ⟨hy33_, hz33_⟩ := Kd.R_celln 0 HO_7.out (x34_2 : Int) (of_decide_eq_true (by first | (with_reducible assumption) | assumption)) (of_decide_eq_true (by first | (with_reducible assumption) | assumption)))); (try (have HP33 := Kd.R_putg HO_7.out (x34_2 : Int) 1)))); refine store_event (t := 3) (p := 68) (v := ?vo_w34) (w1 := (w32.setCell ⟨go22, (x34_2 : Int).toNat, none⟩ (.int .i64 1))) ?hg ?ho ?hn ?hr ?_; (case ho => rfl); (case hg => rfl); (case hn => rfl); (case hr => first | (go_simp; done) | (go_simp; rfl)); intro w34 hw; have hg : w32.grownBy w34 (some go22) := (by rw [hw]; exact HP33.2); have hp_ : Kd.R (Kd.int .i64) 3 w34 w.heap.size (fun _ => True) (.slice (some ⟨go22, 0, none⟩) x7_2.length co22) y142 := (by rw [hw, Ny142.out]; exact HP33.1); clear HP33; have n0_ := Aside0.mk (hp_); have n1_ := Aside0.mk (Kd.R_over' (v := (.slice (some ⟨go22, 0, none⟩) x7_2.length co22)) (by (with_reducible repeat (first | apply Kd.R_alloc | apply Kd.R_drewN | apply Kd.R_drew)); exact HO_8.out) (Kd.R_typed HO_7.out) (by decide) hg); have n2_ := Aside0.mk ((by rw [hw]; exact below_set (HB.out) GB22.out : Below w.heap.size w w34)); clear HO_7; clear HO_8; clear HB; have HO_7 := n0_; have HO_8 := n1_; have HB := n2_; clear n0_ n1_ n2_; clear hg hw hp_; have p143 : 0 ≤ (x34_2 : Int) := of_decide_eq_true (by first | (with_reducible assumption) | assumption); have q143 : x34_2 < (y142.length : Int) := (by have h_ : (x34_2 : Int) < ((x7_2.length : Int) : Int) := of_decide_eq_true (by first | (with_reducible assumption) | assumption); first | (have e_ := (Kd.R_reads' HO_7.out).1; omega) | simpa only [Ny136.out, Ny142.out, List.length_set] using h_); have ql143 : ((x34_2 : Int) < ((x7_2.length : Int) : Int)) = True := eq_true (of_decide_eq_true (by first | (with_reducible assumption) | assumption)); obtain ⟨ad143, e143, hx143_0⟩ := Kd.at_int (Kd.R_reads' HO_7.out).2.2 x34_2 p143 q143; obtain rfl : (⟨go22, 0, none⟩ : Addr) = ad143 := (by injection e143); (first | simp only [add_plain] at hx143_0 | simp only [add_at] at hx143_0 | simp only [Addr.add, Nat.zero_add] at hx143_0 | skip); replace p143 := eq_true p143; replace q143 := eq_true q143))
                              repeat (go_quiet (first | ((with_reducible refine gate_store (t := 3) (p := 46) rfl ?_); (try (rw [drewN_self wr]; generalize hq_ : World.drewN wr _ = wr; have n0_ := Aside0.mk (Kd.R_at hq_ HO_7.out); have n1_ := Aside0.mk (Kd.R_at hq_ HO_8.out); have n2_ := Aside0.mk (below_at hq_ HB.out); clear hq_ HO_7 HO_8 HB; have HO_7 := n0_; have HO_8 := n1_; have HB := n2_; clear n0_ n1_ n2_; (try (have HP31 := Kd.R_putg HO_7.out (x34_2 : Int) (wrap64 (Int.tdiv (ji19) t128)))))); refine store_event (t := 3) (p := 46) (v := ?vo_w32) (w1 := (wr.setCell ⟨go22, (x34_2 : Int).toNat, none⟩ (.int .i64 (wrap64 (Int.tdiv (ji19) t128))))) ?hg ?ho ?hn ?hr ?_; (case ho => rfl); (case hg => rfl); (case hn => rfl); (case hr => first | (go_simp; done) | (go_simp; rfl)); intro w32 hw; have hg : wr.grownBy w32 (some go22) := (by rw [hw]; exact HP31.2); have hp_ : Kd.R (Kd.int .i64) 3 w32 w.heap.size (fun _ => True) (.slice (some ⟨go22, 0, none⟩) x7_2.length co22) y136 := (by rw [hw, Ny136.out]; exact HP31.1); clear HP31; have n0_ := Aside0.mk (hp_); have n1_ := Aside0.mk (Kd.R_over' (v := (.slice (some ⟨go22, 0, none⟩) x7_2.length co22)) (by (with_reducible repeat (first | apply Kd.R_alloc | apply Kd.R_drewN | apply Kd.R_drew)); exact HO_8.out) (Kd.R_typed HO_7.out) (by decide) hg); have n2_ := Aside0.mk ((by rw [hw]; exact below_set (HB.out) GB22.out : Below w.heap.size w w32)); clear HO_7; clear HO_8; clear HB; have HO_7 := n0_; have HO_8 := n1_; have HB := n2_; clear n0_ n1_ n2_; clear hg hw hp_; have p137 : 0 ≤ (x34_2 : Int) := of_decide_eq_true (by first | (with_reducible assumption) | assumption); have q137 : x34_2 < (y136.length : Int) := (by have h_ : (x34_2 : Int) < ((x7_2.length : Int) : Int) := of_decide_eq_true (by first | (with_reducible assumption) | assumption); first | (have e_ := (Kd.R_reads' HO_7.out).1; omega) | simpa only [Ny136.out, List.length_set] using h_); have ql137 : ((x34_2 : Int) < ((x7_2.length : Int) : Int)) = True := eq_true (of_decide_eq_true (by first | (with_reducible assumption) | assumption)); obtain ⟨ad137, e137, hx137_0⟩ := Kd.at_int (Kd.R_reads' HO_7.out).2.2 x34_2 p137 q137; obtain rfl : (⟨go22, 0, none⟩ : Addr) = ad137 := (by injection e137); (first | simp only [add_plain] at hx137_0 | simp only [add_at] at hx137_0 | simp only [Addr.add, Nat.zero_add] at hx137_0 | skip); replace p137 := eq_true p137; replace q137 := eq_true q137; have p30 : 0 ≤ (x34_2 : Int) := of_decide_eq_true (by first | (with_reducible assumption) | assumption); have q30 : (x34_2 : Int) < ((x7_2.length : Int) : Int) := of_decide_eq_true (by first | (with_reducible assumption) | assumption); obtain ⟨hx30_0, hf30_0⟩ := Kd.R_celln 0 HO_7.out (x34_2 : Int) p30 q30; replace p30 := eq_true p30; replace q30 := eq_true q30; obtain ⟨hy33_, hz33_⟩ := Kd.R_celln 0 HO_7.out (x34_2 : Int) (of_decide_eq_true (by first | (with_reducible assumption) | assumption)) (of_decide_eq_true (by first | (with_reducible assumption) | assumption)); have HP33 := Kd.R_putg HO_7.out (x34_2 : Int) 1) | ((with_reducible refine gate_store (t := 3) (p := 68) rfl ?_); (try (rw [drewN_self w32]; generalize hq_ : World.drewN w32 _ = w32; have n0_ := Aside0.mk (Kd.R_at hq_ HO_7.out); have n1_ := Aside0.mk (Kd.R_at hq_ HO_8.out); have n2_ := Aside0.mk (below_at hq_ HB.out); clear hq_ HO_7 HO_8 HB; have HO_7 := n0_; have HO_8 := n1_; have HB := n2_; clear n0_ n1_ n2_; (try (obtain ⟨hy33_, hz33_⟩ := Kd.R_celln 0 HO_7.out (x34_2 : Int) (of_decide_eq_true (by first | (with_reducible assumption) | assumption)) (of_decide_eq_true (by first | (with_reducible assumption) | assumption)))); (try (have HP33 := Kd.R_putg HO_7.out (x34_2 : Int) 1)))); refine store_event (t := 3) (p := 68) (v := ?vo_w34) (w1 := (w32.setCell ⟨go22, (x34_2 : Int).toNat, none⟩ (.int .i64 1))) ?hg ?ho ?hn ?hr ?_; (case ho => rfl); (case hg => rfl); (case hn => rfl); (case hr => first | (go_simp; done) | (go_simp; rfl)); intro w34 hw; have hg : w32.grownBy w34 (some go22) := (by rw [hw]; exact HP33.2); have hp_ : Kd.R (Kd.int .i64) 3 w34 w.heap.size (fun _ => True) (.slice (some ⟨go22, 0, none⟩) x7_2.length co22) y142 := (by rw [hw, Ny142.out]; exact HP33.1); clear HP33; have n0_ := Aside0.mk (hp_); have n1_ := Aside0.mk (Kd.R_over' (v := (.slice (some ⟨go22, 0, none⟩) x7_2.length co22)) (by (with_reducible repeat (first | apply Kd.R_alloc | apply Kd.R_drewN | apply Kd.R_drew)); exact HO_8.out) (Kd.R_typed HO_7.out) (by decide) hg); have n2_ := Aside0.mk ((by rw [hw]; exact below_set (HB.out) GB22.out : Below w.heap.size w w34)); clear HO_7; clear HO_8; clear HB; have HO_7 := n0_; have HO_8 := n1_; have HB := n2_; clear n0_ n1_ n2_; clear hg hw hp_; have p143 : 0 ≤ (x34_2 : Int) := of_decide_eq_true (by first | (with_reducible assumption) | assumption); have q143 : x34_2 < (y142.length : Int) := (by have h_ : (x34_2 : Int) < ((x7_2.length : Int) : Int) := of_decide_eq_true (by first | (with_reducible assumption) | assumption); first | (have e_ := (Kd.R_reads' HO_7.out).1; omega) | simpa only [Ny136.out, Ny142.out, List.length_set] using h_); have ql143 : ((x34_2 : Int) < ((x7_2.length : Int) : Int)) = True := eq_true (of_decide_eq_true (by first | (with_reducible assumption) | assumption)); obtain ⟨ad143, e143, hx143_0⟩ := Kd.at_int (Kd.R_reads' HO_7.out).2.2 x34_2 p143 q143; obtain rfl : (⟨go22, 0, none⟩ : Addr) = ad143 := (by injection e143); (first | simp only [add_plain] at hx143_0 | simp only [add_at] at hx143_0 | simp only [Addr.add, Nat.zero_add] at hx143_0 | skip); replace p143 := eq_true p143; replace q143 := eq_true q143)); try go_wp2_with (first | ((with_reducible refine gate_store (t := 3) (p := 46) rfl ?_); (try (rw [drewN_self wr]; generalize hq_ : World.drewN wr _ = wr; have n0_ := Aside0.mk (Kd.R_at hq_ HO_7.out); have n1_ := Aside0.mk (Kd.R_at hq_ HO_8.out); have n2_ := Aside0.mk (below_at hq_ HB.out); clear hq_ HO_7 HO_8 HB; have HO_7 := n0_; have HO_8 := n1_; have HB := n2_; clear n0_ n1_ n2_; (try (have HP31 := Kd.R_putg HO_7.out (x34_2 : Int) (wrap64 (Int.tdiv (ji19) t128)))))); refine store_event (t := 3) (p := 46) (v := ?vo_w32) (w1 := (wr.setCell ⟨go22, (x34_2 : Int).toNat, none⟩ (.int .i64 (wrap64 (Int.tdiv (ji19) t128))))) ?hg ?ho ?hn ?hr ?_; (case ho => rfl); (case hg => rfl); (case hn => rfl); (case hr => first | (go_simp; done) | (go_simp; rfl)); intro w32 hw; have hg : wr.grownBy w32 (some go22) := (by rw [hw]; exact HP31.2); have hp_ : Kd.R (Kd.int .i64) 3 w32 w.heap.size (fun _ => True) (.slice (some ⟨go22, 0, none⟩) x7_2.length co22) y136 := (by rw [hw, Ny136.out]; exact HP31.1); clear HP31; have n0_ := Aside0.mk (hp_); have n1_ := Aside0.mk (Kd.R_over' (v := (.slice (some ⟨go22, 0, none⟩) x7_2.length co22)) (by (with_reducible repeat (first | apply Kd.R_alloc | apply Kd.R_drewN | apply Kd.R_drew)); exact HO_8.out) (Kd.R_typed HO_7.out) (by decide) hg); have n2_ := Aside0.mk ((by rw [hw]; exact below_set (HB.out) GB22.out : Below w.heap.size w w32)); clear HO_7; clear HO_8; clear HB; have HO_7 := n0_; have HO_8 := n1_; have HB := n2_; clear n0_ n1_ n2_; clear hg hw hp_; have p137 : 0 ≤ (x34_2 : Int) := of_decide_eq_true (by first | (with_reducible assumption) | assumption); have q137 : x34_2 < (y136.length : Int) := (by have h_ : (x34_2 : Int) < ((x7_2.length : Int) : Int) := of_decide_eq_true (by first | (with_reducible assumption) | assumption); first | (have e_ := (Kd.R_reads' HO_7.out).1; omega) | simpa only [Ny136.out, List.length_set] using h_); have ql137 : ((x34_2 : Int) < ((x7_2.length : Int) : Int)) = True := eq_true (of_decide_eq_true (by first | (with_reducible assumption) | assumption)); obtain ⟨ad137, e137, hx137_0⟩ := Kd.at_int (Kd.R_reads' HO_7.out).2.2 x34_2 p137 q137; obtain rfl : (⟨go22, 0, none⟩ : Addr) = ad137 := (by injection e137); (first | simp only [add_plain] at hx137_0 | simp only [add_at] at hx137_0 | simp only [Addr.add, Nat.zero_add] at hx137_0 | skip); replace p137 := eq_true p137; replace q137 := eq_true q137; have p30 : 0 ≤ (x34_2 : Int) := of_decide_eq_true (by first | (with_reducible assumption) | assumption); have q30 : (x34_2 : Int) < ((x7_2.length : Int) : Int) := of_decide_eq_true (by first | (with_reducible assumption) | assumption); obtain ⟨hx30_0, hf30_0⟩ := Kd.R_celln 0 HO_7.out (x34_2 : Int) p30 q30; replace p30 := eq_true p30; replace q30 := eq_true q30; obtain ⟨hy33_, hz33_⟩ := Kd.R_celln 0 HO_7.out (x34_2 : Int) (of_decide_eq_true (by first | (with_reducible assumption) | assumption)) (of_decide_eq_true (by first | (with_reducible assumption) | assumption)); have HP33 := Kd.R_putg HO_7.out (x34_2 : Int) 1) | ((with_reducible refine gate_store (t := 3) (p := 68) rfl ?_); (try (rw [drewN_self w32]; generalize hq_ : World.drewN w32 _ = w32; have n0_ := Aside0.mk (Kd.R_at hq_ HO_7.out); have n1_ := Aside0.mk (Kd.R_at hq_ HO_8.out); have n2_ := Aside0.mk (below_at hq_ HB.out); clear hq_ HO_7 HO_8 HB; have HO_7 := n0_; have HO_8 := n1_; have HB := n2_; clear n0_ n1_ n2_; (try (obtain ⟨hy33_, hz33_⟩ := Kd.R_celln 0 HO_7.out (x34_2 : Int) (of_decide_eq_true (by first | (with_reducible assumption) | assumption)) (of_decide_eq_true (by first | (with_reducible assumption) | assumption)))); (try (have HP33 := Kd.R_putg HO_7.out (x34_2 : Int) 1)))); refine store_event (t := 3) (p := 68) (v := ?vo_w34) (w1 := (w32.setCell ⟨go22, (x34_2 : Int).toNat, none⟩ (.int .i64 1))) ?hg ?ho ?hn ?hr ?_; (case ho => rfl); (case hg => rfl); (case hn => rfl); (case hr => first | (go_simp; done) | (go_simp; rfl)); intro w34 hw; have hg : w32.grownBy w34 (some go22) := (by rw [hw]; exact HP33.2); have hp_ : Kd.R (Kd.int .i64) 3 w34 w.heap.size (fun _ => True) (.slice (some ⟨go22, 0, none⟩) x7_2.length co22) y142 := (by rw [hw, Ny142.out]; exact HP33.1); clear HP33; have n0_ := Aside0.mk (hp_); have n1_ := Aside0.mk (Kd.R_over' (v := (.slice (some ⟨go22, 0, none⟩) x7_2.length co22)) (by (with_reducible repeat (first | apply Kd.R_alloc | apply Kd.R_drewN | apply Kd.R_drew)); exact HO_8.out) (Kd.R_typed HO_7.out) (by decide) hg); have n2_ := Aside0.mk ((by rw [hw]; exact below_set (HB.out) GB22.out : Below w.heap.size w w34)); clear HO_7; clear HO_8; clear HB; have HO_7 := n0_; have HO_8 := n1_; have HB := n2_; clear n0_ n1_ n2_; clear hg hw hp_; have p143 : 0 ≤ (x34_2 : Int) := of_decide_eq_true (by first | (with_reducible assumption) | assumption); have q143 : x34_2 < (y142.length : Int) := (by have h_ : (x34_2 : Int) < ((x7_2.length : Int) : Int) := of_decide_eq_true (by first | (with_reducible assumption) | assumption); first | (have e_ := (Kd.R_reads' HO_7.out).1; omega) | simpa only [Ny136.out, Ny142.out, List.length_set] using h_); have ql143 : ((x34_2 : Int) < ((x7_2.length : Int) : Int)) = True := eq_true (of_decide_eq_true (by first | (with_reducible assumption) | assumption)); obtain ⟨ad143, e143, hx143_0⟩ := Kd.at_int (Kd.R_reads' HO_7.out).2.2 x34_2 p143 q143; obtain rfl : (⟨go22, 0, none⟩ : Addr) = ad143 := (by injection e143); (first | simp only [add_plain] at hx143_0 | simp only [add_at] at hx143_0 | simp only [Addr.add, Nat.zero_add] at hx143_0 | skip); replace p143 := eq_true p143; replace q143 := eq_true q143)))
                              subst hji19
                              go_roundg k2
                              case measure => have := HJ3.out; have := HK2.out; omega
                              case rel => exact ⟨(y142), (x8_2), (wrap64 (x9_2 + (rd y142 x34_2))), (wrap64 (x34_2 + 1)), (by first | rfl | (simp; done) | (simp [*]; done)), (by first | rfl | (simp; done) | (simp [*]; done)), H', ⟨by have := HJ3.out; have := HK2.out; omega⟩, ⟨by (with_reducible repeat (first | apply Kd.R_alloc | apply Kd.R_drewN | apply Kd.R_drew)); exact HO_7.out⟩, ⟨by (with_reducible repeat (first | apply Kd.R_alloc | apply Kd.R_drewN | apply Kd.R_drew)); exact HO_8.out⟩, ⟨by repeat (first | (with_reducible first | exact HB.out | apply below_alloc | apply pw_below_drewN | apply below_drew1) | exact HB.out)⟩⟩
                            · rw [if_neg c29] at H
                              have c29b0 : decide (0 < (rd l0 x34_2)) = false := decide_eq_false c29
                              clear c29
                              have H' := Aside0.mk H
                              clear H
                              have p135 : 0 ≤ (x34_2 : Int) := of_decide_eq_true (by first | (with_reducible assumption) | assumption)
                              have q135 : x34_2 < (l0.length : Int) := of_decide_eq_true (by first | (with_reducible assumption) | assumption)
                              obtain ⟨ad135, e135, hx135_0⟩ := Kd.at_int HR0.out x34_2 p135 q135
                              cases e135
                              replace hx135_0 := (HB.out.cell (World.block_lt_of_cell? w _ hx135_0)).trans hx135_0
                              replace p135 := eq_true p135
                              replace q135 := eq_true q135
                              have p22 : 0 ≤ (x34_2 : Int) := of_decide_eq_true (by first | (with_reducible assumption) | assumption)
                              have q22 : (x34_2 : Int) < ((x7_2.length : Int) : Int) := of_decide_eq_true (by first | (with_reducible assumption) | assumption)
                              obtain ⟨go22, co22, eo22, gb22, gl22, cl22, HG22⟩ := Kd.R_form HO_7.out (by omega)
                              (first | cases eo22 | (injection eo22 with ea_ en_ ec_; (first | subst ea_ | (injection ea_ with ea_; subst ea_)); subst ec_; clear en_))
                              have GB22 := Aside0.mk gb22
                              have GG22 := Aside0.mk HG22
                              clear gb22 gl22 HG22
                              obtain ⟨hx22_0, hf22_0⟩ := Kd.R_celln 0 HO_7.out (x34_2 : Int) p22 q22
                              replace p22 := eq_true p22
                              replace q22 := eq_true q22
                              have HP35 := Kd.R_putg HO_7.out (x34_2 : Int) (wrap64 (Int.tdiv (ji19) t128))
                              go_wp2_with (first | ((with_reducible refine gate_store (t := 3) (p := 46) rfl ?_); (try (rw [drewN_self wr]; generalize hq_ : World.drewN wr _ = wr; have n0_ := Aside0.mk (Kd.R_at hq_ HO_7.out); have n1_ := Aside0.mk (Kd.R_at hq_ HO_8.out); have n2_ := Aside0.mk (below_at hq_ HB.out); clear hq_ HO_7 HO_8 HB; have HO_7 := n0_; have HO_8 := n1_; have HB := n2_; clear n0_ n1_ n2_; (try (have HP35 := Kd.R_putg HO_7.out (x34_2 : Int) (wrap64 (Int.tdiv (ji19) t128)))))); refine store_event (t := 3) (p := 46) (v := ?vo_w36) (w1 := (wr.setCell ⟨go22, (x34_2 : Int).toNat, none⟩ (.int .i64 (wrap64 (Int.tdiv (ji19) t128))))) ?hg ?ho ?hn ?hr ?_; (case ho => rfl); (case hg => rfl); (case hn => rfl); (case hr => first | (go_simp; done) | (go_simp; rfl)); intro w36 hw; have hg : wr.grownBy w36 (some go22) := (by rw [hw]; exact HP35.2); have hp_ : Kd.R (Kd.int .i64) 3 w36 w.heap.size (fun _ => True) (.slice (some ⟨go22, 0, none⟩) x7_2.length co22) y136 := (by rw [hw, Ny136.out]; exact HP35.1); clear HP35; have n0_ := Aside0.mk (hp_); have n1_ := Aside0.mk (Kd.R_over' (v := (.slice (some ⟨go22, 0, none⟩) x7_2.length co22)) (by (with_reducible repeat (first | apply Kd.R_alloc | apply Kd.R_drewN | apply Kd.R_drew)); exact HO_8.out) (Kd.R_typed HO_7.out) (by decide) hg); have n2_ := Aside0.mk ((by rw [hw]; exact below_set (HB.out) GB22.out : Below w.heap.size w w36)); clear HO_7; clear HO_8; clear HB; have HO_7 := n0_; have HO_8 := n1_; have HB := n2_; clear n0_ n1_ n2_; clear hg hw hp_; have p137 : 0 ≤ (x34_2 : Int) := of_decide_eq_true (by first | (with_reducible assumption) | assumption); have q137 : x34_2 < (y136.length : Int) := (by have h_ : (x34_2 : Int) < ((x7_2.length : Int) : Int) := of_decide_eq_true (by first | (with_reducible assumption) | assumption); first | (have e_ := (Kd.R_reads' HO_7.out).1; omega) | simpa only [Ny136.out, List.length_set] using h_); have ql137 : ((x34_2 : Int) < ((x7_2.length : Int) : Int)) = True := eq_true (of_decide_eq_true (by first | (with_reducible assumption) | assumption)); obtain ⟨ad137, e137, hx137_0⟩ := Kd.at_int (Kd.R_reads' HO_7.out).2.2 x34_2 p137 q137; obtain rfl : (⟨go22, 0, none⟩ : Addr) = ad137 := (by injection e137); (first | simp only [add_plain] at hx137_0 | simp only [add_at] at hx137_0 | simp only [Addr.add, Nat.zero_add] at hx137_0 | skip); replace p137 := eq_true p137; replace q137 := eq_true q137; have p144 : 0 ≤ (x34_2 : Int) := of_decide_eq_true (by first | (with_reducible assumption) | assumption); have q144 : x34_2 < (y136.length : Int) := (by have h_ : (x34_2 : Int) < ((x7_2.length : Int) : Int) := of_decide_eq_true (by first | (with_reducible assumption) | assumption); first | (have e_ := (Kd.R_reads' HO_7.out).1; omega) | simpa only [Ny136.out, List.length_set] using h_); have ql144 : ((x34_2 : Int) < ((x7_2.length : Int) : Int)) = True := eq_true (of_decide_eq_true (by first | (with_reducible assumption) | assumption)); obtain ⟨ad144, e144, hx144_0⟩ := Kd.at_int (Kd.R_reads' HO_7.out).2.2 x34_2 p144 q144; obtain rfl : (⟨go22, 0, none⟩ : Addr) = ad144 := (by injection e144); (first | simp only [add_plain] at hx144_0 | simp only [add_at] at hx144_0 | simp only [Addr.add, Nat.zero_add] at hx144_0 | skip); replace p144 := eq_true p144; replace q144 := eq_true q144))
                              repeat (go_quiet (first | ((with_reducible refine gate_store (t := 3) (p := 46) rfl ?_); (try (rw [drewN_self wr]; generalize hq_ : World.drewN wr _ = wr; have n0_ := Aside0.mk (Kd.R_at hq_ HO_7.out); have n1_ := Aside0.mk (Kd.R_at hq_ HO_8.out); have n2_ := Aside0.mk (below_at hq_ HB.out); clear hq_ HO_7 HO_8 HB; have HO_7 := n0_; have HO_8 := n1_; have HB := n2_; clear n0_ n1_ n2_; (try (have HP35 := Kd.R_putg HO_7.out (x34_2 : Int) (wrap64 (Int.tdiv (ji19) t128)))))); refine store_event (t := 3) (p := 46) (v := ?vo_w36) (w1 := (wr.setCell ⟨go22, (x34_2 : Int).toNat, none⟩ (.int .i64 (wrap64 (Int.tdiv (ji19) t128))))) ?hg ?ho ?hn ?hr ?_; (case ho => rfl); (case hg => rfl); (case hn => rfl); (case hr => first | (go_simp; done) | (go_simp; rfl)); intro w36 hw; have hg : wr.grownBy w36 (some go22) := (by rw [hw]; exact HP35.2); have hp_ : Kd.R (Kd.int .i64) 3 w36 w.heap.size (fun _ => True) (.slice (some ⟨go22, 0, none⟩) x7_2.length co22) y136 := (by rw [hw, Ny136.out]; exact HP35.1); clear HP35; have n0_ := Aside0.mk (hp_); have n1_ := Aside0.mk (Kd.R_over' (v := (.slice (some ⟨go22, 0, none⟩) x7_2.length co22)) (by (with_reducible repeat (first | apply Kd.R_alloc | apply Kd.R_drewN | apply Kd.R_drew)); exact HO_8.out) (Kd.R_typed HO_7.out) (by decide) hg); have n2_ := Aside0.mk ((by rw [hw]; exact below_set (HB.out) GB22.out : Below w.heap.size w w36)); clear HO_7; clear HO_8; clear HB; have HO_7 := n0_; have HO_8 := n1_; have HB := n2_; clear n0_ n1_ n2_; clear hg hw hp_; have p137 : 0 ≤ (x34_2 : Int) := of_decide_eq_true (by first | (with_reducible assumption) | assumption); have q137 : x34_2 < (y136.length : Int) := (by have h_ : (x34_2 : Int) < ((x7_2.length : Int) : Int) := of_decide_eq_true (by first | (with_reducible assumption) | assumption); first | (have e_ := (Kd.R_reads' HO_7.out).1; omega) | simpa only [Ny136.out, List.length_set] using h_); have ql137 : ((x34_2 : Int) < ((x7_2.length : Int) : Int)) = True := eq_true (of_decide_eq_true (by first | (with_reducible assumption) | assumption)); obtain ⟨ad137, e137, hx137_0⟩ := Kd.at_int (Kd.R_reads' HO_7.out).2.2 x34_2 p137 q137; obtain rfl : (⟨go22, 0, none⟩ : Addr) = ad137 := (by injection e137); (first | simp only [add_plain] at hx137_0 | simp only [add_at] at hx137_0 | simp only [Addr.add, Nat.zero_add] at hx137_0 | skip); replace p137 := eq_true p137; replace q137 := eq_true q137; have p144 : 0 ≤ (x34_2 : Int) := of_decide_eq_true (by first | (with_reducible assumption) | assumption); have q144 : x34_2 < (y136.length : Int) := (by have h_ : (x34_2 : Int) < ((x7_2.length : Int) : Int) := of_decide_eq_true (by first | (with_reducible assumption) | assumption); first | (have e_ := (Kd.R_reads' HO_7.out).1; omega) | simpa only [Ny136.out, List.length_set] using h_); have ql144 : ((x34_2 : Int) < ((x7_2.length : Int) : Int)) = True := eq_true (of_decide_eq_true (by first | (with_reducible assumption) | assumption)); obtain ⟨ad144, e144, hx144_0⟩ := Kd.at_int (Kd.R_reads' HO_7.out).2.2 x34_2 p144 q144; obtain rfl : (⟨go22, 0, none⟩ : Addr) = ad144 := (by injection e144); (first | simp only [add_plain] at hx144_0 | simp only [add_at] at hx144_0 | simp only [Addr.add, Nat.zero_add] at hx144_0 | skip); replace p144 := eq_true p144; replace q144 := eq_true q144)); try go_wp2_with (first | ((with_reducible refine gate_store (t := 3) (p := 46) rfl ?_); (try (rw [drewN_self wr]; generalize hq_ : World.drewN wr _ = wr; have n0_ := Aside0.mk (Kd.R_at hq_ HO_7.out); have n1_ := Aside0.mk (Kd.R_at hq_ HO_8.out); have n2_ := Aside0.mk (below_at hq_ HB.out); clear hq_ HO_7 HO_8 HB; have HO_7 := n0_; have HO_8 := n1_; have HB := n2_; clear n0_ n1_ n2_; (try (have HP35 := Kd.R_putg HO_7.out (x34_2 : Int) (wrap64 (Int.tdiv (ji19) t128)))))); refine store_event (t := 3) (p := 46) (v := ?vo_w36) (w1 := (wr.setCell ⟨go22, (x34_2 : Int).toNat, none⟩ (.int .i64 (wrap64 (Int.tdiv (ji19) t128))))) ?hg ?ho ?hn ?hr ?_; (case ho => rfl); (case hg => rfl); (case hn => rfl); (case hr => first | (go_simp; done) | (go_simp; rfl)); intro w36 hw; have hg : wr.grownBy w36 (some go22) := (by rw [hw]; exact HP35.2); have hp_ : Kd.R (Kd.int .i64) 3 w36 w.heap.size (fun _ => True) (.slice (some ⟨go22, 0, none⟩) x7_2.length co22) y136 := (by rw [hw, Ny136.out]; exact HP35.1); clear HP35; have n0_ := Aside0.mk (hp_); have n1_ := Aside0.mk (Kd.R_over' (v := (.slice (some ⟨go22, 0, none⟩) x7_2.length co22)) (by (with_reducible repeat (first | apply Kd.R_alloc | apply Kd.R_drewN | apply Kd.R_drew)); exact HO_8.out) (Kd.R_typed HO_7.out) (by decide) hg); have n2_ := Aside0.mk ((by rw [hw]; exact below_set (HB.out) GB22.out : Below w.heap.size w w36)); clear HO_7; clear HO_8; clear HB; have HO_7 := n0_; have HO_8 := n1_; have HB := n2_; clear n0_ n1_ n2_; clear hg hw hp_; have p137 : 0 ≤ (x34_2 : Int) := of_decide_eq_true (by first | (with_reducible assumption) | assumption); have q137 : x34_2 < (y136.length : Int) := (by have h_ : (x34_2 : Int) < ((x7_2.length : Int) : Int) := of_decide_eq_true (by first | (with_reducible assumption) | assumption); first | (have e_ := (Kd.R_reads' HO_7.out).1; omega) | simpa only [Ny136.out, List.length_set] using h_); have ql137 : ((x34_2 : Int) < ((x7_2.length : Int) : Int)) = True := eq_true (of_decide_eq_true (by first | (with_reducible assumption) | assumption)); obtain ⟨ad137, e137, hx137_0⟩ := Kd.at_int (Kd.R_reads' HO_7.out).2.2 x34_2 p137 q137; obtain rfl : (⟨go22, 0, none⟩ : Addr) = ad137 := (by injection e137); (first | simp only [add_plain] at hx137_0 | simp only [add_at] at hx137_0 | simp only [Addr.add, Nat.zero_add] at hx137_0 | skip); replace p137 := eq_true p137; replace q137 := eq_true q137; have p144 : 0 ≤ (x34_2 : Int) := of_decide_eq_true (by first | (with_reducible assumption) | assumption); have q144 : x34_2 < (y136.length : Int) := (by have h_ : (x34_2 : Int) < ((x7_2.length : Int) : Int) := of_decide_eq_true (by first | (with_reducible assumption) | assumption); first | (have e_ := (Kd.R_reads' HO_7.out).1; omega) | simpa only [Ny136.out, List.length_set] using h_); have ql144 : ((x34_2 : Int) < ((x7_2.length : Int) : Int)) = True := eq_true (of_decide_eq_true (by first | (with_reducible assumption) | assumption)); obtain ⟨ad144, e144, hx144_0⟩ := Kd.at_int (Kd.R_reads' HO_7.out).2.2 x34_2 p144 q144; obtain rfl : (⟨go22, 0, none⟩ : Addr) = ad144 := (by injection e144); (first | simp only [add_plain] at hx144_0 | simp only [add_at] at hx144_0 | simp only [Addr.add, Nat.zero_add] at hx144_0 | skip); replace p144 := eq_true p144; replace q144 := eq_true q144)))
                              subst hji19
                              go_roundg k2
                              case measure => have := HJ3.out; have := HK2.out; omega
                              case rel => exact ⟨(y136), (x8_2), (wrap64 (x9_2 + (rd y136 x34_2))), (wrap64 (x34_2 + 1)), (by first | rfl | (simp; done) | (simp [*]; done)), (by first | rfl | (simp; done) | (simp [*]; done)), H', ⟨by have := HJ3.out; have := HK2.out; omega⟩, ⟨by (with_reducible repeat (first | apply Kd.R_alloc | apply Kd.R_drewN | apply Kd.R_drew)); exact HO_7.out⟩, ⟨by (with_reducible repeat (first | apply Kd.R_alloc | apply Kd.R_drewN | apply Kd.R_drew)); exact HO_8.out⟩, ⟨by repeat (first | (with_reducible first | exact HB.out | apply below_alloc | apply pw_below_drewN | apply below_drew1) | exact HB.out)⟩⟩
                        · rw [if_neg c21] at H
                          exact absurd H (by simp)
                    · rw [if_neg c18] at H
                      exact absurd H (by simp)
                  · rw [if_neg c17] at H
                    exact absurd H (by simp)
                · rw [if_neg c16] at H
                  exact absurd H (by simp)
              · rw [if_neg c15] at H
                have c15b0 : decide (x34_2 < (l0.length : Int)) = false := decide_eq_false c15
                clear c15
                by_cases c37 : 0 ≤ a1
                · rw [if_pos c37] at H
                  have c37b0 := eq_true c37
                  have c37b1 : decide (0 ≤ a1) = true := decide_eq_true c37
                  clear c37
                  obtain ⟨ji38, hji38⟩ : ∃ j_ : Int, (shl .i64 1 a1) = j_ := ⟨_, rfl⟩
                  replace H : ((norm_give.f x7_2 x8_2 (mx 0 (wrap64 ((ji38) - x9_2)))).bind fun t133 => ((norm_take.f t133 l0 (mx 0 (wrap64 (x9_2 - (ji38))))).bind fun t134 => (some (t134, 0)))) = some (r1, r2) := by first | (rw [hji38] at H; exact H) | (simp only [hji38] at H ⊢; exact H)
                  have hji38_ : (IntKind.i64.wrap (1 * 2 ^ min a1.toNat 64)) = ji38 := hji38
                  have hji38z : a1 ≤ 64 → (IntKind.i64.wrap (1 * 2 ^ a1.toNat)) = ji38 := shl_small hji38
                  have hji38u : (IntKind.i64.wrap (2 ^ min a1.toNat 64)) = ji38 := by have h_ := hji38_; rw [Int.one_mul] at h_; exact h_
                  have hji38v : a1 ≤ 64 → (IntKind.i64.wrap (2 ^ a1.toNat)) = ji38 := fun hle_ => by have h_ := hji38z hle_; rw [Int.one_mul] at h_; exact h_
                  have hji38y : (wrap64 (1 * 2 ^ min a1.toNat 64)) = ji38 := (i64_w _).symm.trans hji38_
                  have hji38x : a1 ≤ 64 → (wrap64 (1 * 2 ^ a1.toNat)) = ji38 := fun h_ => (i64_w _).symm.trans (hji38z h_)
                  obtain ⟨ji39, hji39⟩ : ∃ j_ : Int, (mx 0 (wrap64 ((ji38) - x9_2))) = j_ := ⟨_, rfl⟩
                  replace H : ((norm_give.f x7_2 x8_2 (ji39)).bind fun t133 => ((norm_take.f t133 l0 (mx 0 (wrap64 (x9_2 - (ji38))))).bind fun t134 => (some (t134, 0)))) = some (r1, r2) := by first | (rw [hji39] at H; exact H) | (simp only [hji39] at H ⊢; exact H)
                  have hji39_ : (if 0 < (wrap64 ((ji38) - x9_2)) then (wrap64 ((ji38) - x9_2)) else 0) = ji39 := hji39
                  replace H := Option.bind_eq_some_iff.mp H
                  obtain ⟨t133, A400, H⟩ := H
                  replace H : ((norm_take.f t133 l0 (mx 0 (wrap64 (x9_2 - (ji38))))).bind fun t134 => (some (t134, 0))) = some (r1, r2) := H
                  have A40 := Aside0.mk A400
                  clear A400
                  have c41b0 := eq_true (of_decide_eq_true (by first | (with_reducible assumption) | assumption) : 0 ≤ a1)
                  obtain ⟨ji42, hji42⟩ : ∃ j_ : Int, (mx 0 (wrap64 (x9_2 - (ji38)))) = j_ := ⟨_, rfl⟩
                  replace H : ((norm_take.f t133 l0 (ji42)).bind fun t134 => (some (t134, 0))) = some (r1, r2) := by first | (rw [hji42] at H; exact H) | (simp only [hji42] at H ⊢; exact H)
                  (try rw [hji42] at A40)
                  have hji42_ : (if 0 < (wrap64 (x9_2 - (ji38))) then (wrap64 (x9_2 - (ji38))) else 0) = ji42 := hji42
                  replace H := Option.bind_eq_some_iff.mp H
                  obtain ⟨t134, A430, H⟩ := H
                  replace H : (some (t134, 0)) = some (r1, r2) := H
                  have A43 := Aside0.mk A430
                  clear A430
                  simp only [Option.some.injEq, Prod.mk.injEq] at H
                  obtain ⟨rfl, rfl⟩ := H
                  obtain ⟨Ao44, co44, eo44⟩ := Kd.R_slice HO_7.out
                  subst eo44
                  obtain ⟨Ao45, co45, eo45⟩ := Kd.R_slice HO_8.out
                  subst eo45
                  go_wp2_with (first | (go_at_call 63; (with_reducible refine (norm_give.calls (fun k_ => some k_ = (.slice Ao44 x7_2.length co44 : Value).ownBlock) (.slice Ao44 x7_2.length co44) x7_2 (fun k_ => some k_ = (.slice Ao45 x8_2.length co45 : Value).ownBlock) (.slice Ao45 x8_2.length co45) x8_2 ji39 t133 w _ ?side1 ?side2 ?side3 A40.out).mono ?_); (case side1 => repeat (first | (with_reducible first | exact HB.out | apply below_alloc | apply pw_below_drewN | apply below_drew1) | exact HB.out)); (case side2 => exact Kd.R_tight rfl HO_7.out); (case side3 => exact Kd.R_tight rfl HO_8.out); rintro e w46 ⟨rfl, hy0, hb, hkp⟩; have n0_ := Aside0.mk (Kd.R_reok rfl hy0 (fun k_ e_ => HO_7.out.1 k_ e_)); have n1_ := Aside0.mk (hb); clear HO_7; clear HB; clear HO_8; have HO_7 := n0_; have HB := n1_; clear n0_ n1_; (try clear hb); (try clear hkp); (try clear hy0)) | (go_at_call 64; (with_reducible refine (norm_take.calls (fun k_ => some k_ = (.slice Ao44 x7_2.length co44 : Value).ownBlock) (.slice Ao44 x7_2.length co44) t133 _ _ l0 ji42 t134 w _ ?side1 ?side2 ?side3 ?side4 A43.out).mono ?_); (case side1 => repeat (first | (with_reducible first | exact HB.out | apply below_alloc | apply pw_below_drewN | apply below_drew1) | exact HB.out)); (case side2 => exact Kd.R_tight rfl HO_7.out); (case side3 => exact Kd.C_kept_came (Kd.heap_int .i64) HR0.out (by repeat (first | (with_reducible first | exact HB.out | apply below_alloc | apply pw_below_drewN | apply below_drew1) | exact HB.out)) (fun k_ hs_ => (fun e_ => Kd.R_base HO_7.out k_ e_.symm) hs_)); (case side4 => exact HC0.out); rintro e w47 ⟨rfl, hy0, hb, hkp⟩; have n0_ := Aside0.mk (Kd.R_reok rfl hy0 (fun k_ e_ => HO_7.out.1 k_ e_)); have n1_ := Aside0.mk (hb); clear HO_7; clear HB; have HO_7 := n0_; have HB := n1_; clear n0_ n1_; (try clear hb); (try clear hkp); (try clear hy0)))
                  repeat (go_quiet (first | (go_at_call 63; (with_reducible refine (norm_give.calls (fun k_ => some k_ = (.slice Ao44 x7_2.length co44 : Value).ownBlock) (.slice Ao44 x7_2.length co44) x7_2 (fun k_ => some k_ = (.slice Ao45 x8_2.length co45 : Value).ownBlock) (.slice Ao45 x8_2.length co45) x8_2 ji39 t133 w _ ?side1 ?side2 ?side3 A40.out).mono ?_); (case side1 => repeat (first | (with_reducible first | exact HB.out | apply below_alloc | apply pw_below_drewN | apply below_drew1) | exact HB.out)); (case side2 => exact Kd.R_tight rfl HO_7.out); (case side3 => exact Kd.R_tight rfl HO_8.out); rintro e w46 ⟨rfl, hy0, hb, hkp⟩; have n0_ := Aside0.mk (Kd.R_reok rfl hy0 (fun k_ e_ => HO_7.out.1 k_ e_)); have n1_ := Aside0.mk (hb); clear HO_7; clear HB; clear HO_8; have HO_7 := n0_; have HB := n1_; clear n0_ n1_; (try clear hb); (try clear hkp); (try clear hy0)) | (go_at_call 64; (with_reducible refine (norm_take.calls (fun k_ => some k_ = (.slice Ao44 x7_2.length co44 : Value).ownBlock) (.slice Ao44 x7_2.length co44) t133 _ _ l0 ji42 t134 w _ ?side1 ?side2 ?side3 ?side4 A43.out).mono ?_); (case side1 => repeat (first | (with_reducible first | exact HB.out | apply below_alloc | apply pw_below_drewN | apply below_drew1) | exact HB.out)); (case side2 => exact Kd.R_tight rfl HO_7.out); (case side3 => exact Kd.C_kept_came (Kd.heap_int .i64) HR0.out (by repeat (first | (with_reducible first | exact HB.out | apply below_alloc | apply pw_below_drewN | apply below_drew1) | exact HB.out)) (fun k_ hs_ => (fun e_ => Kd.R_base HO_7.out k_ e_.symm) hs_)); (case side4 => exact HC0.out); rintro e w47 ⟨rfl, hy0, hb, hkp⟩; have n0_ := Aside0.mk (Kd.R_reok rfl hy0 (fun k_ e_ => HO_7.out.1 k_ e_)); have n1_ := Aside0.mk (hb); clear HO_7; clear HB; have HO_7 := n0_; have HB := n1_; clear n0_ n1_; (try clear hb); (try clear hkp); (try clear hy0))); try go_wp2_with (first | (go_at_call 63; (with_reducible refine (norm_give.calls (fun k_ => some k_ = (.slice Ao44 x7_2.length co44 : Value).ownBlock) (.slice Ao44 x7_2.length co44) x7_2 (fun k_ => some k_ = (.slice Ao45 x8_2.length co45 : Value).ownBlock) (.slice Ao45 x8_2.length co45) x8_2 ji39 t133 w _ ?side1 ?side2 ?side3 A40.out).mono ?_); (case side1 => repeat (first | (with_reducible first | exact HB.out | apply below_alloc | apply pw_below_drewN | apply below_drew1) | exact HB.out)); (case side2 => exact Kd.R_tight rfl HO_7.out); (case side3 => exact Kd.R_tight rfl HO_8.out); rintro e w46 ⟨rfl, hy0, hb, hkp⟩; have n0_ := Aside0.mk (Kd.R_reok rfl hy0 (fun k_ e_ => HO_7.out.1 k_ e_)); have n1_ := Aside0.mk (hb); clear HO_7; clear HB; clear HO_8; have HO_7 := n0_; have HB := n1_; clear n0_ n1_; (try clear hb); (try clear hkp); (try clear hy0)) | (go_at_call 64; (with_reducible refine (norm_take.calls (fun k_ => some k_ = (.slice Ao44 x7_2.length co44 : Value).ownBlock) (.slice Ao44 x7_2.length co44) t133 _ _ l0 ji42 t134 w _ ?side1 ?side2 ?side3 ?side4 A43.out).mono ?_); (case side1 => repeat (first | (with_reducible first | exact HB.out | apply below_alloc | apply pw_below_drewN | apply below_drew1) | exact HB.out)); (case side2 => exact Kd.R_tight rfl HO_7.out); (case side3 => exact Kd.C_kept_came (Kd.heap_int .i64) HR0.out (by repeat (first | (with_reducible first | exact HB.out | apply below_alloc | apply pw_below_drewN | apply below_drew1) | exact HB.out)) (fun k_ hs_ => (fun e_ => Kd.R_base HO_7.out k_ e_.symm) hs_)); (case side4 => exact HC0.out); rintro e w47 ⟨rfl, hy0, hb, hkp⟩; have n0_ := Aside0.mk (Kd.R_reok rfl hy0 (fun k_ e_ => HO_7.out.1 k_ e_)); have n1_ := Aside0.mk (hb); clear HO_7; clear HB; have HO_7 := n0_; have HB := n1_; clear n0_ n1_; (try clear hb); (try clear hkp); (try clear hy0))))
                  go_ret2
                  exact ⟨_, by first | rfl | (simp [errW_none, errW_some] <;> rfl) | (simp only [← hji38, ← hji39, ← hji42]; first | rfl | (simp [errW_none, errW_some] <;> rfl)) | (simp [*, errW_none, errW_some] <;> rfl), by (with_reducible repeat (first | apply Kd.R_alloc | apply Kd.R_drewN | apply Kd.R_drew)); exact HO_7.out, by repeat (first | (with_reducible first | exact HB.out | apply below_alloc | apply pw_below_drewN | apply below_drew1) | exact HB.out)⟩
                · rw [if_neg c37] at H
                  exact absurd H (by simp)
        · rw [if_neg c12] at H
          exact absurd H (by simp)

end Go.Proofs.Ytcffmmdgjifaaaa.PPr
