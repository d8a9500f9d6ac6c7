/- The machine's side of this seat's laws: what each function computes, and that its call computes it; written by a program (pr.py over the kit's print.py). -/
import Derived.Test.YtjbpmlpmfbeobaaPPrx0
import Derived.Test.YtjbpmlpmfbeobaaPPrx1
import Derived.Test.YtjbpmlpmfbeobaaPPrx8
import Derived.Test.YtjbpmlpmfbeobaaPPrx9
namespace Go.Proofs.Ytjbpmlpmfbeobaa.PPr
open Go.RowKit Go.Proofs.YtjbpmlpmfbeobaaW.PrintWords Go.Proofs.YtjbpmlpmfbeobaaW.PrintLast Go.Proofs.YtjbpmlpmfbeobaaW.PrintMore
attribute [local go_sem] max2_int min2_int max_two min_two max_three min_three max_four min_four   -- for this text's walks alone
set_option linter.unusedVariables false
set_option linter.unusedSimpArgs false

attribute [local go_sem high] eqA37
/-! ### dtab_Step: function 14 -/
def dtab_Step.f (l0 : List (S37)) (a1 : Int) (a2 : Int) : Option (Int × Int × Bool) := if a1 < 0 then (some (0, 0, false)) else (if a1 ≥ (l0.length : Int) then (some (0, 0, false)) else (if 0 ≤ a1 then (if a1 < (l0.length : Int) then (if ((rd_T37 l0 a1).f1) < 0 then (some (0, 0, false)) else (if ((rd_T37 l0 a1).f1) > 24 then (some (0, 0, false)) else (if 0 ≤ ((rd_T37 l0 a1).f1) then (if (shr .u32 a2 ((rd_T37 l0 a1).f1)) = 0 then (some ((rd_T37 l0 a1).f0, wrap64 (((rd_T37 l0 a1).f2) + (wrap64 (a2))), true)) else (some (0, 0, false))) else (none)))) else (none)) else (none)))
set_option maxHeartbeats 8000000 in
set_option maxRecDepth 100000 in
theorem dtab_Step.calls (A0 : Option Addr) (c0 : Nat) (l0 : List (S37)) (a1 : Int) (a2 : Int) (r1 : Int) (r2 : Int) (r3 : Bool) (w : World) (hr0 : Kd.C k37 w A0 l0.length l0) (hc0 : l0.length ≤ c0) (h : dtab_Step.f l0 a1 a2 = some (r1, r2, r3)) :
    Calls Try.prog 14 #[.slice A0 l0.length c0, .int .i64 a1, .int .u32 a2] w fun e w' => e = .returned (.tuple #[.int .u8 r1, .int .i64 r2, .bool r3]) ∧ Drawn0 w w' := by
  have HR0 := Aside0.mk hr0
  have HC0 := Aside0.mk hc0
  clear hr0 hc0
  have H : (if a1 < 0 then (some (0, 0, false)) else (if a1 ≥ (l0.length : Int) then (some (0, 0, false)) else (if 0 ≤ a1 then (if a1 < (l0.length : Int) then (if ((rd_T37 l0 a1).f1) < 0 then (some (0, 0, false)) else (if ((rd_T37 l0 a1).f1) > 24 then (some (0, 0, false)) else (if 0 ≤ ((rd_T37 l0 a1).f1) then (if (shr .u32 a2 ((rd_T37 l0 a1).f1)) = 0 then (some ((rd_T37 l0 a1).f0, wrap64 (((rd_T37 l0 a1).f2) + (wrap64 (a2))), true)) else (some (0, 0, false))) else (none)))) else (none)) else (none)))) = some (r1, r2, r3) := h
  clear h
  by_cases c4 : a1 < 0
  · rw [if_pos c4] at H
    have c4b0 : decide (a1 < 0) = true := decide_eq_true c4
    clear c4
    simp only [Option.some.injEq, Prod.mk.injEq] at H
    obtain ⟨rfl, rfl, rfl⟩ := H
    go_enter Try.func14, Try.ntmps14
    go_wp2
    repeat (go_quiet (fail); try go_wp2)
    go_ret3
    exact ⟨by first | rfl | (simp; done) | (simp [*]; done), by repeat (first | exact Drawn0.refl _ | apply Drawn0.step)⟩
  · rw [if_neg c4] at H
    have c4b0 : decide (a1 < 0) = false := decide_eq_false c4
    clear c4
    by_cases c5 : a1 ≥ (l0.length : Int)
    · rw [if_pos c5] at H
      have c5b0 : decide ((l0.length : Int) ≤ a1) = true := decide_eq_true c5
      clear c5
      simp only [Option.some.injEq, Prod.mk.injEq] at H
      obtain ⟨rfl, rfl, rfl⟩ := H
      go_enter Try.func14, Try.ntmps14
      go_wp2
      repeat (go_quiet (fail); try go_wp2)
      go_ret3
      exact ⟨by first | rfl | (simp; done) | (simp [*]; done), by repeat (first | exact Drawn0.refl _ | apply Drawn0.step)⟩
    · rw [if_neg c5] at H
      have c5b0 : decide ((l0.length : Int) ≤ a1) = false := decide_eq_false c5
      clear c5
      by_cases c6 : 0 ≤ a1
      · rw [if_pos c6] at H
        have c6b0 : decide (0 ≤ a1) = true := decide_eq_true c6
        clear c6
        by_cases c7 : a1 < (l0.length : Int)
        · rw [if_pos c7] at H
          have c7b0 : decide (a1 < (l0.length : Int)) = true := decide_eq_true c7
          clear c7
          by_cases c8 : ((rd_T37 l0 a1).f1) < 0
          · rw [if_pos c8] at H
            have c8b0 : decide (((rd_T37 l0 a1).f1) < 0) = true := decide_eq_true c8
            clear c8
            simp only [Option.some.injEq, Prod.mk.injEq] at H
            obtain ⟨rfl, rfl, rfl⟩ := H
            have p169 : 0 ≤ (a1 : Int) := of_decide_eq_true (by first | (with_reducible assumption) | assumption)
            have q169 : a1 < (l0.length : Int) := of_decide_eq_true (by first | (with_reducible assumption) | assumption)
            obtain ⟨ad169, e169, hx169_0, hx169_1, hx169_2⟩ := at_T37 HR0.out a1 p169 q169
            cases e169
            replace p169 := eq_true p169
            replace q169 := eq_true q169
            go_enter Try.func14, Try.ntmps14
            go_wp2
            repeat (go_quiet (fail); try go_wp2)
            go_ret3
            exact ⟨by first | rfl | (simp; done) | (simp [*]; done), by repeat (first | exact Drawn0.refl _ | apply Drawn0.step)⟩
          · rw [if_neg c8] at H
            have c8b0 : decide (((rd_T37 l0 a1).f1) < 0) = false := decide_eq_false c8
            clear c8
            by_cases c9 : ((rd_T37 l0 a1).f1) > 24
            · rw [if_pos c9] at H
              have c9b0 : decide (24 < ((rd_T37 l0 a1).f1)) = true := decide_eq_true c9
              clear c9
              simp only [Option.some.injEq, Prod.mk.injEq] at H
              obtain ⟨rfl, rfl, rfl⟩ := H
              have p169 : 0 ≤ (a1 : Int) := of_decide_eq_true (by first | (with_reducible assumption) | assumption)
              have q169 : a1 < (l0.length : Int) := of_decide_eq_true (by first | (with_reducible assumption) | assumption)
              obtain ⟨ad169, e169, hx169_0, hx169_1, hx169_2⟩ := at_T37 HR0.out a1 p169 q169
              cases e169
              replace p169 := eq_true p169
              replace q169 := eq_true q169
              have p170 : 0 ≤ (a1 : Int) := of_decide_eq_true (by first | (with_reducible assumption) | assumption)
              have q170 : a1 < (l0.length : Int) := of_decide_eq_true (by first | (with_reducible assumption) | assumption)
              obtain ⟨ad170, e170, hx170_0, hx170_1, hx170_2⟩ := at_T37 HR0.out a1 p170 q170
              obtain rfl : ad169 = ad170 := (by injection e170)
              replace p170 := eq_true p170
              replace q170 := eq_true q170
              go_enter Try.func14, Try.ntmps14
              go_wp2
              repeat (go_quiet (fail); try go_wp2)
              go_ret3
              exact ⟨by first | rfl | (simp; done) | (simp [*]; done), by repeat (first | exact Drawn0.refl _ | apply Drawn0.step)⟩
            · rw [if_neg c9] at H
              have c9b0 : decide (24 < ((rd_T37 l0 a1).f1)) = false := decide_eq_false c9
              clear c9
              by_cases c10 : 0 ≤ ((rd_T37 l0 a1).f1)
              · rw [if_pos c10] at H
                have c10b0 := eq_true c10
                have c10b1 : decide (0 ≤ ((rd_T37 l0 a1).f1)) = true := decide_eq_true c10
                clear c10
                obtain ⟨ji11, hji11⟩ : ∃ j_ : Int, (shr .u32 a2 ((rd_T37 l0 a1).f1)) = j_ := ⟨_, rfl⟩
                replace H : (if (ji11) = 0 then (some ((rd_T37 l0 a1).f0, wrap64 (((rd_T37 l0 a1).f2) + (wrap64 (a2))), true)) else (some (0, 0, false))) = some (r1, r2, r3) := by first | (rw [hji11] at H; exact H) | (simp only [hji11] at H ⊢; exact H)
                have hji11_ : (a2 / 2 ^ min ((rd_T37 l0 a1).f1).toNat 32) = ji11 := hji11
                have hji11z : ((rd_T37 l0 a1).f1) ≤ 32 → (a2 / 2 ^ ((rd_T37 l0 a1).f1).toNat) = ji11 := shr_small hji11
                by_cases c12 : (ji11) = 0
                · rw [if_pos c12] at H
                  have c12b0 : ((ji11) == 0) = true := beq_iff_eq.mpr c12
                  have c12b1 : ((ji11) != 0) = false := bne_eq_false_iff_eq.mpr c12
                  clear c12
                  simp only [Option.some.injEq, Prod.mk.injEq] at H
                  obtain ⟨rfl, rfl, rfl⟩ := H
                  have p169 : 0 ≤ (a1 : Int) := of_decide_eq_true (by first | (with_reducible assumption) | assumption)
                  have q169 : a1 < (l0.length : Int) := of_decide_eq_true (by first | (with_reducible assumption) | assumption)
                  obtain ⟨ad169, e169, hx169_0, hx169_1, hx169_2⟩ := at_T37 HR0.out a1 p169 q169
                  cases e169
                  replace p169 := eq_true p169
                  replace q169 := eq_true q169
                  have p170 : 0 ≤ (a1 : Int) := of_decide_eq_true (by first | (with_reducible assumption) | assumption)
                  have q170 : a1 < (l0.length : Int) := of_decide_eq_true (by first | (with_reducible assumption) | assumption)
                  obtain ⟨ad170, e170, hx170_0, hx170_1, hx170_2⟩ := at_T37 HR0.out a1 p170 q170
                  obtain rfl : ad169 = ad170 := (by injection e170)
                  replace p170 := eq_true p170
                  replace q170 := eq_true q170
                  have p171 : 0 ≤ (a1 : Int) := of_decide_eq_true (by first | (with_reducible assumption) | assumption)
                  have q171 : a1 < (l0.length : Int) := of_decide_eq_true (by first | (with_reducible assumption) | assumption)
                  obtain ⟨ad171, e171, hx171_0, hx171_1, hx171_2⟩ := at_T37 HR0.out a1 p171 q171
                  obtain rfl : ad169 = ad171 := (by injection e171)
                  replace p171 := eq_true p171
                  replace q171 := eq_true q171
                  have p172 : 0 ≤ (a1 : Int) := of_decide_eq_true (by first | (with_reducible assumption) | assumption)
                  have q172 : a1 < (l0.length : Int) := of_decide_eq_true (by first | (with_reducible assumption) | assumption)
                  obtain ⟨ad172, e172, hx172_0, hx172_1, hx172_2⟩ := at_T37 HR0.out a1 p172 q172
                  obtain rfl : ad169 = ad172 := (by injection e172)
                  replace p172 := eq_true p172
                  replace q172 := eq_true q172
                  have p173 : 0 ≤ (a1 : Int) := of_decide_eq_true (by first | (with_reducible assumption) | assumption)
                  have q173 : a1 < (l0.length : Int) := of_decide_eq_true (by first | (with_reducible assumption) | assumption)
                  obtain ⟨ad173, e173, hx173_0, hx173_1, hx173_2⟩ := at_T37 HR0.out a1 p173 q173
                  obtain rfl : ad169 = ad173 := (by injection e173)
                  replace p173 := eq_true p173
                  replace q173 := eq_true q173
                  go_enter Try.func14, Try.ntmps14
                  go_wp2
                  repeat (go_quiet (fail); try go_wp2)
                  go_ret3
                  exact ⟨by first | rfl | (simp; done) | (simp only [← hji11] <;> (first | rfl | simp)) | (simp [*]; done), by repeat (first | exact Drawn0.refl _ | apply Drawn0.step)⟩
                · rw [if_neg c12] at H
                  have c12b0 : ((ji11) == 0) = false := beq_eq_false_iff_ne.mpr c12
                  have c12b1 : ((ji11) != 0) = true := bne_iff_ne.mpr c12
                  simp only [Option.some.injEq, Prod.mk.injEq] at H
                  obtain ⟨rfl, rfl, rfl⟩ := H
                  have p169 : 0 ≤ (a1 : Int) := of_decide_eq_true (by first | (with_reducible assumption) | assumption)
                  have q169 : a1 < (l0.length : Int) := of_decide_eq_true (by first | (with_reducible assumption) | assumption)
                  obtain ⟨ad169, e169, hx169_0, hx169_1, hx169_2⟩ := at_T37 HR0.out a1 p169 q169
                  cases e169
                  replace p169 := eq_true p169
                  replace q169 := eq_true q169
                  have p170 : 0 ≤ (a1 : Int) := of_decide_eq_true (by first | (with_reducible assumption) | assumption)
                  have q170 : a1 < (l0.length : Int) := of_decide_eq_true (by first | (with_reducible assumption) | assumption)
                  obtain ⟨ad170, e170, hx170_0, hx170_1, hx170_2⟩ := at_T37 HR0.out a1 p170 q170
                  obtain rfl : ad169 = ad170 := (by injection e170)
                  replace p170 := eq_true p170
                  replace q170 := eq_true q170
                  have p171 : 0 ≤ (a1 : Int) := of_decide_eq_true (by first | (with_reducible assumption) | assumption)
                  have q171 : a1 < (l0.length : Int) := of_decide_eq_true (by first | (with_reducible assumption) | assumption)
                  obtain ⟨ad171, e171, hx171_0, hx171_1, hx171_2⟩ := at_T37 HR0.out a1 p171 q171
                  obtain rfl : ad169 = ad171 := (by injection e171)
                  replace p171 := eq_true p171
                  replace q171 := eq_true q171
                  go_enter Try.func14, Try.ntmps14
                  go_wp2
                  repeat (go_quiet (fail); try go_wp2)
                  go_ret3
                  exact ⟨by first | rfl | (simp; done) | (simp only [← hji11] <;> (first | rfl | simp)) | (simp [*]; done), by repeat (first | exact Drawn0.refl _ | apply Drawn0.step)⟩
              · rw [if_neg c10] at H
                exact absurd H (by simp)
        · rw [if_neg c7] at H
          exact absurd H (by simp)
      · rw [if_neg c6] at H
        exact absurd H (by simp)

/-! ### puncheonlaw11_awake: function 7 -/
def puncheonlaw11_awake.j0 : Nat → List (S37) → Bool → Option (Bool)
  | 0, _, _ => none
  | k + 1, x2, x25 => if x25 = true then (some false) else ((dtab_Step.f x2 5 3).bind fun bt184 => (if 5 < (x2.length : Int) then (if (((rd_T37 x2 5).f0) == 1 && (((rd_T37 x2 5).f1) == 2 && (((rd_T37 x2 5).f2) == 4))) = true then (if bt184.1 = 1 then (if bt184.2.1 = 7 then (if bt184.2.2 = true then ((dtab_Whole.f k x2).bind fun t188 => (some t188)) else (some false)) else (some false)) else (some false)) else (some false)) else (none)))
def puncheonlaw11_awake.f (k : Nat)  : Option (Bool) := if 256 ≤ 35184372088832 then ((some (List.replicate 256 0 : List Int)).bind fun y174 => (if 0 < (y174.length : Int) then (if 1 < (y174.length : Int) then (if 2 < (y174.length : Int) then ((dtab_Of.f k (((y174.set (0 : Int).toNat 5).set (1 : Int).toNat 2).set (2 : Int).toNat 1)).bind fun bt180 => (if bt180.2 = 0 then (puncheonlaw11_awake.j0 k bt180.1 ((bt180.1.length : Int) != 8)) else (puncheonlaw11_awake.j0 k bt180.1 true))) else (none)) else (none)) else (none))) else (none)
theorem puncheonlaw11_awake.mono_l : ∀ k, (∀ y0 y1, LeO (puncheonlaw11_awake.j0 k y0 y1) (puncheonlaw11_awake.j0 (k + 1) y0 y1))
  | 0 => fun _ _ r h => by simp [puncheonlaw11_awake.j0] at h
  | k + 1 => by
    have ih0 := puncheonlaw11_awake.mono_l k
    · intro y0 y1
      unfold puncheonlaw11_awake.j0
      repeat' first
      | (with_reducible exact ih0 _ _)
      | (with_reducible exact dtab_Of.mono _ _)
      | (with_reducible exact dtab_Whole.mono _ _)
      | (with_reducible exact LeO.refl _)
      | (with_reducible exact LeO.none _)
      | (with_reducible refine LeO.ite ?_ ?_)
      | (with_reducible refine LeO.bind ?_ (fun _ => ?_))
      | exact ih0 _ _
      | exact dtab_Of.mono _ _
      | exact dtab_Whole.mono _ _
      | exact LeO.none _
      | refine LeO.ite ?_ ?_
      | refine LeO.bind ?_ (fun _ => ?_)
theorem puncheonlaw11_awake.mono : ∀ k, LeO (puncheonlaw11_awake.f k ) (puncheonlaw11_awake.f (k + 1) ) := by
  intro  k
  have ih0 := puncheonlaw11_awake.mono_l k
  unfold puncheonlaw11_awake.f
  repeat' first
      | (with_reducible exact ih0 _ _)
      | (with_reducible exact dtab_Of.mono _ _)
      | (with_reducible exact dtab_Whole.mono _ _)
      | (with_reducible exact LeO.refl _)
      | (with_reducible exact LeO.none _)
      | (with_reducible refine LeO.ite ?_ ?_)
      | (with_reducible refine LeO.bind ?_ (fun _ => ?_))
      | exact ih0 _ _
      | exact dtab_Of.mono _ _
      | exact dtab_Whole.mono _ _
      | exact LeO.none _
      | refine LeO.ite ?_ ?_
      | refine LeO.bind ?_ (fun _ => ?_)
set_option maxHeartbeats 8000000 in
set_option maxRecDepth 100000 in
theorem puncheonlaw11_awake.calls (k : Nat)  (r : Bool) (w : World) (h : puncheonlaw11_awake.f k  = some r) :
    Calls Try.prog 7 #[] w fun e w' => e = .returned (.bool r) ∧ Below w.heap.size w w' := by
  have hu37 := Try.underlying37
  have HB := Aside0.mk (Below.refl w.heap.size w)
  have H : (if 256 ≤ 35184372088832 then ((some (List.replicate 256 0 : List Int)).bind fun y174 => (if 0 < (y174.length : Int) then (if 1 < (y174.length : Int) then (if 2 < (y174.length : Int) then ((dtab_Of.f k (((y174.set (0 : Int).toNat 5).set (1 : Int).toNat 2).set (2 : Int).toNat 1)).bind fun bt180 => (if bt180.2 = 0 then (puncheonlaw11_awake.j0 k bt180.1 ((bt180.1.length : Int) != 8)) else (puncheonlaw11_awake.j0 k bt180.1 true))) else (none)) else (none)) else (none))) else (none)) = some r := h
  clear h
  by_cases c1 : 256 ≤ 35184372088832
  · rw [if_pos c1] at H
    have c1b0 := eq_true c1
    have c1b1 : decide (256 ≤ 35184372088832) = true := decide_eq_true c1
    clear c1
    obtain ⟨y174, hy174⟩ : ∃ y_ : List Int, y_ = (List.replicate 256 0) := ⟨_, rfl⟩
    replace H : (if 0 < (y174.length : Int) then (if 1 < (y174.length : Int) then (if 2 < (y174.length : Int) then ((dtab_Of.f k (((y174.set (0 : Int).toNat 5).set (1 : Int).toNat 2).set (2 : Int).toNat 1)).bind fun bt180 => (if bt180.2 = 0 then (puncheonlaw11_awake.j0 k bt180.1 ((bt180.1.length : Int) != 8)) else (puncheonlaw11_awake.j0 k bt180.1 true))) else (none)) else (none)) else (none)) = some r := by first | (rw [hy174]; with_reducible exact H) | (have H2_ := (Option.bind_some _ _).symm.trans H; rw [hy174]; with_reducible exact H2_) | (have H2_ := (Option.bind_some _ _).symm.trans H; with_reducible exact H2_) | with_reducible exact H | (rw [hy174]; exact H) | exact H
    have Ny174 := Aside0.mk hy174
    clear hy174
    by_cases c2 : 0 < (y174.length : Int)
    · rw [if_pos c2] at H
      have c2b0 : decide (0 < (y174.length : Int)) = true := decide_eq_true c2
      have c2b1 : decide (0 < y174.length) = true := decide_eq_true (by omega)
      clear c2
      obtain ⟨y177, hy177⟩ : ∃ y_ : List Int, y_ = (y174.set (0 : Int).toNat 5) := ⟨_, rfl⟩
      replace H : (if 1 < (y174.length : Int) then (if 2 < (y174.length : Int) then ((dtab_Of.f k ((y177.set (1 : Int).toNat 2).set (2 : Int).toNat 1)).bind fun bt180 => (if bt180.2 = 0 then (puncheonlaw11_awake.j0 k bt180.1 ((bt180.1.length : Int) != 8)) else (puncheonlaw11_awake.j0 k bt180.1 true))) else (none)) else (none)) = some r := by first | (rw [hy177]; with_reducible exact H) | (have H2_ := (Option.bind_some _ _).symm.trans H; rw [hy177]; with_reducible exact H2_) | (have H2_ := (Option.bind_some _ _).symm.trans H; with_reducible exact H2_) | with_reducible exact H | (rw [hy177]; exact H) | exact H
      have Ny177 := Aside0.mk hy177
      clear hy177
      by_cases c4 : 1 < (y174.length : Int)
      · rw [if_pos c4] at H
        have c4b0 : decide (1 < (y174.length : Int)) = true := decide_eq_true c4
        have c4b1 : decide (1 < y174.length) = true := decide_eq_true (by omega)
        clear c4
        obtain ⟨y178, hy178⟩ : ∃ y_ : List Int, y_ = (y177.set (1 : Int).toNat 2) := ⟨_, rfl⟩
        replace H : (if 2 < (y174.length : Int) then ((dtab_Of.f k (y178.set (2 : Int).toNat 1)).bind fun bt180 => (if bt180.2 = 0 then (puncheonlaw11_awake.j0 k bt180.1 ((bt180.1.length : Int) != 8)) else (puncheonlaw11_awake.j0 k bt180.1 true))) else (none)) = some r := by first | (rw [hy178]; with_reducible exact H) | (have H2_ := (Option.bind_some _ _).symm.trans H; rw [hy178]; with_reducible exact H2_) | (have H2_ := (Option.bind_some _ _).symm.trans H; with_reducible exact H2_) | with_reducible exact H | (rw [hy178]; exact H) | exact H
        have Ny178 := Aside0.mk hy178
        clear hy178
        by_cases c6 : 2 < (y174.length : Int)
        · rw [if_pos c6] at H
          have c6b0 : decide (2 < (y174.length : Int)) = true := decide_eq_true c6
          have c6b1 : decide (2 < y174.length) = true := decide_eq_true (by omega)
          clear c6
          obtain ⟨y179, hy179⟩ : ∃ y_ : List Int, y_ = (y178.set (2 : Int).toNat 1) := ⟨_, rfl⟩
          replace H : ((dtab_Of.f k y179).bind fun bt180 => (if bt180.2 = 0 then (puncheonlaw11_awake.j0 k bt180.1 ((bt180.1.length : Int) != 8)) else (puncheonlaw11_awake.j0 k bt180.1 true))) = some r := by first | (rw [hy179]; with_reducible exact H) | (have H2_ := (Option.bind_some _ _).symm.trans H; rw [hy179]; with_reducible exact H2_) | (have H2_ := (Option.bind_some _ _).symm.trans H; with_reducible exact H2_) | with_reducible exact H | (rw [hy179]; exact H) | exact H
          have Ny179 := Aside0.mk hy179
          clear hy179
          replace H := Option.bind_eq_some_iff.mp H
          obtain ⟨⟨t180, t181⟩, A80, H⟩ := H
          replace H : (if t181 = 0 then (puncheonlaw11_awake.j0 k t180 ((t180.length : Int) != 8)) else (puncheonlaw11_awake.j0 k t180 true)) = some r := H
          have A8 := Aside0.mk A80
          clear A80
          have HC9 := Aside0.mk H
          clear H
          go_enter Try.func7, Try.ntmps7
          go_upto_region 6 with (first | ((with_reducible refine gate_dst (N := 7) rfl ?_); (try (refine gate_guard (by rfl) ?_; dsimp only)); refine Kd.R_make (Kd.int .i64) _ 3 rfl (N := 7) rfl 22 _ _ rfl 256 rfl rfl Try.underlying22 (.int .i64 0) 8 info3 rfl (by decide) (by omega) 0 (ok := fun _ => True) (okp := fun _ => True) rfl (fun _ hk => hk) trivial (by omega) (by omega) (Below.refl _ _) (Nat.le_refl _) ?_; intro v175 w10 ho11 hb hg_ hnew_; clear hg_ hnew_; (first | rw [← Ny174.out] at ho11 | (simp only [Int.reduceToNat] at ho11; rw [← Ny174.out] at ho11)); have n0_ := Aside0.mk (Kd.R_lower ho11 (below_size (by repeat (first | (with_reducible first | exact HB.out | apply below_alloc | apply pw_below_drewN | apply below_drew1) | exact HB.out)))); have n1_ := Aside0.mk (below_step (by repeat (first | (with_reducible first | exact HB.out | apply below_alloc | apply pw_below_drewN | apply below_drew1) | exact HB.out)) hb); clear HB; have HO176 := n0_; have HB := n1_; clear n0_ n1_; clear hb ho11; have p3 : 0 ≤ (0 : Int) := (by omega); have q3 : (0 : Int) < ((y174.length : Int) : Int) := of_decide_eq_true (by first | (with_reducible assumption) | assumption); have qi3 : (0 < y174.length) = True := eq_true (by omega); obtain ⟨go3, co3, eo3, gb3, gl3, cl3, HG3⟩ := Kd.R_form HO176.out (by omega); (first | cases eo3 | (injection eo3 with ea_ en_ ec_; (first | subst ea_ | (injection ea_ with ea_; subst ea_)); subst ec_; clear en_)); have GB3 := Aside0.mk gb3; have GG3 := Aside0.mk HG3; clear gb3 gl3 HG3; obtain ⟨hx3_0, hf3_0⟩ := Kd.R_celln 0 HO176.out (0 : Int) p3 q3; (try rw [show ((0 : Int)).toNat = 0 from rfl] at hx3_0); (try simp only [Nat.reduceMul, Nat.zero_mul, Nat.zero_add, Nat.reduceAdd] at hx3_0); (try rw [show ((0 : Int)).toNat = 0 from rfl] at hf3_0); (try simp only [Nat.reduceMul, Nat.zero_mul, Nat.zero_add, Nat.reduceAdd] at hf3_0); replace p3 := eq_true p3; replace q3 := eq_true q3; obtain ⟨hy12_, hz12_⟩ := Kd.R_celln 0 HO176.out (0 : Int) (by omega) (of_decide_eq_true (by first | (with_reducible assumption) | assumption)); (try simp only [Int.reduceToNat, Int.toNat_zero, Int.toNat_ofNat, Nat.reduceMul, Nat.zero_mul, Nat.zero_add] at hy12_ hz12_); (try rw [show ((0 : Int)).toNat = 0 from rfl] at hy12_); (try rw [show ((0 : Int)).toNat = 0 from rfl] at hz12_); have HP12 := Kd.R_putg HO176.out (0 : Int) 5) | ((with_reducible refine gate_store (t := 3) (p := 9) rfl ?_); refine store_event (t := 3) (p := 9) (v := ?vo_w13) (w1 := (w10.setCell ⟨go3, (0 : Int).toNat, none⟩ (.int .i64 5))) ?hg ?ho ?hn ?hr ?_; (case ho => rfl); (case hg => rfl); (case hn => rfl); (case hr => first | (go_simp; done) | (go_simp; rfl)); intro w13 hw; have hg : w10.grownBy w13 (some go3) := (by rw [hw]; exact HP12.2); have hp_ : Kd.R (Kd.int .i64) 3 w13 w.heap.size (fun _ => True) (.slice (some ⟨go3, 0, none⟩) y174.length co3) y177 := (by rw [hw, Ny177.out]; exact HP12.1); clear HP12; have n0_ := Aside0.mk (hp_); have n1_ := Aside0.mk ((by rw [hw]; exact below_set (HB.out) GB3.out : Below w.heap.size w w13)); clear HO176; clear HB; have HO176 := n0_; have HB := n1_; clear n0_ n1_; clear hg hw hp_; have p5 : 0 ≤ (1 : Int) := (by omega); have q5 : (1 : Int) < ((y174.length : Int) : Int) := of_decide_eq_true (by first | (with_reducible assumption) | assumption); have qi5 : (1 < y174.length) = True := eq_true (by omega); obtain ⟨hx5_0, hf5_0⟩ := Kd.R_celln 0 HO176.out (1 : Int) p5 q5; (try rw [show ((1 : Int)).toNat = 1 from rfl] at hx5_0); (try simp only [Nat.reduceMul, Nat.zero_mul, Nat.zero_add, Nat.reduceAdd] at hx5_0); (try rw [show ((1 : Int)).toNat = 1 from rfl] at hf5_0); (try simp only [Nat.reduceMul, Nat.zero_mul, Nat.zero_add, Nat.reduceAdd] at hf5_0); replace p5 := eq_true p5; replace q5 := eq_true q5; obtain ⟨hy14_, hz14_⟩ := Kd.R_celln 0 HO176.out (1 : Int) (by omega) (of_decide_eq_true (by first | (with_reducible assumption) | assumption)); (try simp only [Int.reduceToNat, Int.toNat_zero, Int.toNat_ofNat, Nat.reduceMul, Nat.zero_mul, Nat.zero_add] at hy14_ hz14_); (try rw [show ((1 : Int)).toNat = 1 from rfl] at hy14_); (try rw [show ((1 : Int)).toNat = 1 from rfl] at hz14_); have HP14 := Kd.R_putg HO176.out (1 : Int) 2) | ((with_reducible refine gate_store (t := 3) (p := 11) rfl ?_); refine store_event (t := 3) (p := 11) (v := ?vo_w15) (w1 := (w13.setCell ⟨go3, (1 : Int).toNat, none⟩ (.int .i64 2))) ?hg ?ho ?hn ?hr ?_; (case ho => rfl); (case hg => rfl); (case hn => rfl); (case hr => first | (go_simp; done) | (go_simp; rfl)); intro w15 hw; have hg : w13.grownBy w15 (some go3) := (by rw [hw]; exact HP14.2); have hp_ : Kd.R (Kd.int .i64) 3 w15 w.heap.size (fun _ => True) (.slice (some ⟨go3, 0, none⟩) y174.length co3) y178 := (by rw [hw, Ny178.out]; exact HP14.1); clear HP14; have n0_ := Aside0.mk (hp_); have n1_ := Aside0.mk ((by rw [hw]; exact below_set (HB.out) GB3.out : Below w.heap.size w w15)); clear HO176; clear HB; have HO176 := n0_; have HB := n1_; clear n0_ n1_; clear hg hw hp_; have p7 : 0 ≤ (2 : Int) := (by omega); have q7 : (2 : Int) < ((y174.length : Int) : Int) := of_decide_eq_true (by first | (with_reducible assumption) | assumption); have qi7 : (2 < y174.length) = True := eq_true (by omega); obtain ⟨hx7_0, hf7_0⟩ := Kd.R_celln 0 HO176.out (2 : Int) p7 q7; (try rw [show ((2 : Int)).toNat = 2 from rfl] at hx7_0); (try simp only [Nat.reduceMul, Nat.zero_mul, Nat.zero_add, Nat.reduceAdd] at hx7_0); (try rw [show ((2 : Int)).toNat = 2 from rfl] at hf7_0); (try simp only [Nat.reduceMul, Nat.zero_mul, Nat.zero_add, Nat.reduceAdd] at hf7_0); replace p7 := eq_true p7; replace q7 := eq_true q7; obtain ⟨hy16_, hz16_⟩ := Kd.R_celln 0 HO176.out (2 : Int) (by omega) (of_decide_eq_true (by first | (with_reducible assumption) | assumption)); (try simp only [Int.reduceToNat, Int.toNat_zero, Int.toNat_ofNat, Nat.reduceMul, Nat.zero_mul, Nat.zero_add] at hy16_ hz16_); (try rw [show ((2 : Int)).toNat = 2 from rfl] at hy16_); (try rw [show ((2 : Int)).toNat = 2 from rfl] at hz16_); have HP16 := Kd.R_putg HO176.out (2 : Int) 1) | ((with_reducible refine gate_store (t := 3) (p := 13) rfl ?_); refine store_event (t := 3) (p := 13) (v := ?vo_w17) (w1 := (w15.setCell ⟨go3, (2 : Int).toNat, none⟩ (.int .i64 1))) ?hg ?ho ?hn ?hr ?_; (case ho => rfl); (case hg => rfl); (case hn => rfl); (case hr => first | (go_simp; done) | (go_simp; rfl)); intro w17 hw; have hg : w15.grownBy w17 (some go3) := (by rw [hw]; exact HP16.2); have hp_ : Kd.R (Kd.int .i64) 3 w17 w.heap.size (fun _ => True) (.slice (some ⟨go3, 0, none⟩) y174.length co3) y179 := (by rw [hw, Ny179.out]; exact HP16.1); clear HP16; have n0_ := Aside0.mk (hp_); have n1_ := Aside0.mk ((by rw [hw]; exact below_set (HB.out) GB3.out : Below w.heap.size w w17)); clear HO176; clear HB; have HO176 := n0_; have HB := n1_; clear n0_ n1_; clear hg hw hp_) | ((with_reducible refine gate_callee (f := 9) rfl ?_); refine goesL_ (some 16) rfl rfl Try.func9 (by kernel_rfl) rfl #[.slice (some ⟨go3, 0, none⟩) y179.length co3] rfl (by (try simp only [List.map_toArray, List.map_cons, List.map_nil]); first | done | (rw [show y179.length = y174.length from (Kd.R_reads' HO176.out).1.symm] <;> rfl) | rfl | (simp only [List.length_drop, List.length_take]; rfl)) ?_; (with_reducible refine (dtab_Of.calls k _ _ y179 t180 t181 _ ?side1 ?side2 A8.out).mono ?_); (case side1 => repeat (first | exact (Kd.R_reads' HO176.out).2.2 | (with_reducible refine Kd.C_alloc ?_ _) | (with_reducible refine Kd.C_drewN ?_ _) | (with_reducible refine Kd.C_drew ?_))); (case side2 => rw [show y179.length = y174.length from (Kd.R_reads' HO176.out).1.symm]; exact (Kd.R_reads' HO176.out).2.1); rintro e w18 ⟨v182, rfl, ho0, hb⟩; refine ⟨_, rfl, ?_⟩; have n0_ := Aside0.mk (Kd.R_below (by (with_reducible repeat (first | apply Kd.R_alloc | apply Kd.R_drewN | apply Kd.R_drew)); exact HO176.out) hb); have n1_ := Aside0.mk (Kd.R_lower ho0 (below_size (by repeat (first | (with_reducible first | exact HB.out | apply below_alloc | apply pw_below_drewN | apply below_drew1) | exact HB.out)))); have n2_ := Aside0.mk (below_step (by repeat (first | (with_reducible first | exact HB.out | apply below_alloc | apply pw_below_drewN | apply below_drew1) | exact HB.out)) hb); clear HO176; clear HB; have HO176 := n0_; have HO183 := n1_; have HB := n2_; clear n0_ n1_ n2_; (try clear hb); (try clear hb2); (try clear hk); (try clear hi); (try clear ho0)))
          (try simp only [Act.put, List.setIfInBounds_toArray, List.set_cons_zero, List.set_cons_succ])
          go_cut [25] (fun v25 wc => ∃ (kq : Nat) (x25_8 : Bool), v25 = .bool x25_8 ∧ Aside0 (puncheonlaw11_awake.j0 kq t180 x25_8 = some r) ∧ Aside0 (kq ≤ k) ∧ Aside0 (Kd.R k37 37 wc w.heap.size (fun _ => True) v182 t180) ∧ Aside0 (Below w.heap.size w wc))
          case first =>
            have H := HC9.out
            clear HC9
            by_cases c19 : t181 = 0
            · rw [if_pos c19] at H
              have c19b0 : (t181 == 0) = true := beq_iff_eq.mpr c19
              have c19b1 : (t181 != 0) = false := bne_eq_false_iff_eq.mpr c19
              clear c19
              (first | rw [c19b0] | (simp only [i64_w, i32_w]; rw [c19b0]) | skip)
              have H' := Aside0.mk H
              clear H
              obtain ⟨Ao20, co20, eo20⟩ := Kd.R_slice HO183.out
              subst eo20
              go_wp2
              go_meet
              case rel => exact ⟨_, (((t180.length : Int) != 8)), (by first | rfl | (simp; done) | (simp [*]; done)), H', ⟨by first | omega | exact Nat.le_refl _⟩, ⟨by (with_reducible repeat (first | apply Kd.R_alloc | apply Kd.R_drewN | apply Kd.R_drew)); exact HO183.out⟩, ⟨by repeat (first | (with_reducible first | exact HB.out | apply below_alloc | apply pw_below_drewN | apply below_drew1) | exact HB.out)⟩⟩
            · rw [if_neg c19] at H
              have c19b0 : (t181 == 0) = false := beq_eq_false_iff_ne.mpr c19
              have c19b1 : (t181 != 0) = true := bne_iff_ne.mpr c19
              (first | rw [c19b0] | (simp only [i64_w, i32_w]; rw [c19b0]) | skip)
              have H' := Aside0.mk H
              clear H
              go_wp2
              go_meet
              case rel => exact ⟨_, (true), (by first | rfl | (simp; done) | (simp [*]; done)), H', ⟨by first | omega | exact Nat.le_refl _⟩, ⟨by (with_reducible repeat (first | apply Kd.R_alloc | apply Kd.R_drewN | apply Kd.R_drew)); exact HO183.out⟩, ⟨by repeat (first | (with_reducible first | exact HB.out | apply below_alloc | apply pw_below_drewN | apply below_drew1) | exact HB.out)⟩⟩
          case rest =>
            clear HC9
            try clear c1
            try clear c1b0
            try clear c1b1
            try clear c2
            try clear c2b0
            try clear c2b1
            try clear p2
            try clear p3
            try clear q3
            try clear hx3
            try clear qi3
            try clear hf3
            try clear c4
            try clear c4b0
            try clear c4b1
            try clear p5
            try clear q5
            try clear hx5
            try clear qi5
            try clear hf5
            try clear c6
            try clear c6b0
            try clear c6b1
            try clear c7
            try clear p7
            try clear q7
            try clear hx7
            try clear qi7
            try clear hf7
            try clear c9
            try clear c19
            try clear c19b0
            try clear c19b1
            try clear hx3_0
            try clear hx5_0
            try clear hx7_0
            try clear p3
            try clear p5
            try clear p7
            try clear q3
            try clear q5
            try clear q7
            obtain ⟨kq, x25_8, rfl, HA, HJ8, HO_2, HB⟩ := hcut
            cases kq with
            | zero => exact absurd HA.out (by simp [puncheonlaw11_awake.j0])
            | succ kj8 =>
              have H := HA.out
              clear HA
              simp only [puncheonlaw11_awake.j0] at H
              by_cases c21 : x25_8 = true
              · subst c21
                have H1 : (some false) = some r := by rw [if_pos rfl] at H; exact H
                clear H
                have H := H1
                clear H1
                obtain rfl := Option.some.inj H
                go_wp2
                go_ret
                exact ⟨by first | rfl | (simp [errW_none, errW_some] <;> rfl) | (simp [*, errW_none, errW_some] <;> rfl), by repeat (first | (with_reducible first | exact HB.out | apply below_alloc | apply pw_below_drewN | apply below_drew1) | exact HB.out)⟩
              · replace c21 := Bool.eq_false_iff.mpr c21
                subst c21
                have H1 : ((dtab_Step.f t180 5 3).bind fun bt184 => (if 5 < (t180.length : Int) then (if (((rd_T37 t180 5).f0) == 1 && (((rd_T37 t180 5).f1) == 2 && (((rd_T37 t180 5).f2) == 4))) = true then (if bt184.1 = 1 then (if bt184.2.1 = 7 then (if bt184.2.2 = true then ((dtab_Whole.f kj8 t180).bind fun t188 => (some t188)) else (some false)) else (some false)) else (some false)) else (some false)) else (none))) = some r := by rw [if_neg (show ¬ (false = true) by decide)] at H; exact H
                clear H
                have H := H1
                clear H1
                replace H := Option.bind_eq_some_iff.mp H
                obtain ⟨⟨t184, t185, t186⟩, A220, H⟩ := H
                replace H : (if 5 < (t180.length : Int) then (if (((rd_T37 t180 5).f0) == 1 && (((rd_T37 t180 5).f1) == 2 && (((rd_T37 t180 5).f2) == 4))) = true then (if t184 = 1 then (if t185 = 7 then (if t186 = true then ((dtab_Whole.f kj8 t180).bind fun t188 => (some t188)) else (some false)) else (some false)) else (some false)) else (some false)) else (none)) = some r := H
                have A22 := Aside0.mk A220
                clear A220
                by_cases c23 : 5 < (t180.length : Int)
                · rw [if_pos c23] at H
                  have c23b0 : decide (5 < (t180.length : Int)) = true := decide_eq_true c23
                  have c23b1 : decide (5 < t180.length) = true := decide_eq_true (by omega)
                  clear c23
                  by_cases c24 : (((rd_T37 t180 5).f0) == 1 && (((rd_T37 t180 5).f1) == 2 && (((rd_T37 t180 5).f2) == 4))) = true
                  · rw [if_pos c24] at H
                    have c24b0 : (((rd_T37 t180 5).f0) == 1 && (((rd_T37 t180 5).f1) == 2 && (((rd_T37 t180 5).f2) == 4))) = true := c24
                    (try (have c24b1 : decide (((rd_T37 t180 5).f0) = 1 && (((rd_T37 t180 5).f1) == 2 && (((rd_T37 t180 5).f2) == 4))) = true := by simpa using c24))
                    (try (have c24b2 : (((rd_T37 t180 5).f0) == 1 && (((rd_T37 t180 5).f1) == 2 && (((rd_T37 t180 5).f2) == 4))) = true := by simpa using c24))
                    clear c24
                    by_cases c25 : t184 = 1
                    · rw [if_pos c25] at H
                      have c25b0 : (t184 == 1) = true := beq_iff_eq.mpr c25
                      have c25b1 : (t184 != 1) = false := bne_eq_false_iff_eq.mpr c25
                      clear c25
                      by_cases c26 : t185 = 7
                      · rw [if_pos c26] at H
                        have c26b0 : (t185 == 7) = true := beq_iff_eq.mpr c26
                        have c26b1 : (t185 != 7) = false := bne_eq_false_iff_eq.mpr c26
                        clear c26
                        by_cases c27 : t186 = true
                        · subst c27
                          have H1 : ((dtab_Whole.f kj8 t180).bind fun t188 => (some t188)) = some r := by rw [if_pos rfl] at H; exact H
                          clear H
                          have H := H1
                          clear H1
                          replace H := Option.bind_eq_some_iff.mp H
                          obtain ⟨t188, A280, H⟩ := H
                          replace H : (some t188) = some r := H
                          have A28 := Aside0.mk A280
                          clear A280
                          obtain rfl := Option.some.inj H
                          obtain ⟨Ao29, co29, eo29⟩ := Kd.R_slice HO_2.out
                          subst eo29
                          go_wp2_with (first | ((with_reducible refine gate_callee (f := 14) rfl ?_); refine goesL_ (some 28) rfl rfl Try.func14 (by kernel_rfl) rfl #[.slice Ao29 t180.length co29, .int .i64 5, .int .u32 3] rfl (by (try simp only [List.map_toArray, List.map_cons, List.map_nil]); first | done | rfl | (simp only [List.length_drop, List.length_take]; rfl)) ?_; (with_reducible refine (dtab_Step.calls _ _ t180 5 3 t184 t185 true _ ?side1 ?side2 A22.out).mono ?_); (case side1 => repeat (first | exact (Kd.R_reads' HO_2.out).2.2 | (with_reducible refine Kd.C_alloc ?_ _) | (with_reducible refine Kd.C_drewN ?_ _) | (with_reducible refine Kd.C_drew ?_))); (case side2 => exact (Kd.R_reads' HO_2.out).2.1); rintro e w' ⟨rfl, ⟨nd, rfl⟩⟩; refine ⟨_, rfl, ?_⟩; have p187 : 0 ≤ (5 : Int) := (by omega); have q187 : 5 < (t180.length : Int) := of_decide_eq_true (by first | (with_reducible assumption) | assumption); obtain ⟨ad187, e187, hx187_0, hx187_1, hx187_2⟩ := at_T37 (Kd.R_reads' HO_2.out).2.2 5 p187 q187; cases e187; (try simp only [show (5 : Int).toNat = 5 from rfl, Nat.reduceMul, Nat.reduceEqDiff, Go.Addr.add, ↓reduceIte] at hx187_0); (try simp only [show (5 : Int).toNat = 5 from rfl, Nat.reduceMul, Nat.reduceEqDiff, Go.Addr.add, ↓reduceIte] at hx187_1); (try simp only [show (5 : Int).toNat = 5 from rfl, Nat.reduceMul, Nat.reduceEqDiff, Go.Addr.add, ↓reduceIte] at hx187_2); have qi187 : (5 < t180.length) = True := eq_true (by omega); (try rw [show ((5 : Int)).toNat = 5 from rfl] at hx187_0); (try rw [show 5 * 3 = 15 from rfl] at hx187_0); (try rw [show ((5 : Int)).toNat = 5 from rfl] at hx187_1); (try rw [show 5 * 3 = 15 from rfl] at hx187_1); (try rw [show ((5 : Int)).toNat = 5 from rfl] at hx187_2); (try rw [show 5 * 3 = 15 from rfl] at hx187_2); replace p187 := eq_true p187; replace q187 := eq_true q187) | (go_at_call 13; (with_reducible refine (dtab_Whole.calls kj8 _ _ t180 t188 _ ?side1 ?side2 A28.out).mono ?_); (case side1 => repeat (first | exact (Kd.R_reads' HO_2.out).2.2 | (with_reducible refine Kd.C_alloc ?_ _) | (with_reducible refine Kd.C_drewN ?_ _) | (with_reducible refine Kd.C_drew ?_))); (case side2 => exact (Kd.R_reads' HO_2.out).2.1); rintro e w30 ⟨rfl, hb⟩; have n0_ := Aside0.mk (Kd.R_below (by (with_reducible repeat (first | apply Kd.R_alloc | apply Kd.R_drewN | apply Kd.R_drew)); exact HO_2.out) hb); have n1_ := Aside0.mk (below_step (by repeat (first | (with_reducible first | exact HB.out | apply below_alloc | apply pw_below_drewN | apply below_drew1) | exact HB.out)) hb); clear HO_2; clear HB; have HO_2 := n0_; have HB := n1_; clear n0_ n1_; (try clear hb); (try clear hb2); (try clear hk); (try clear hi)))
                          go_ret
                          exact ⟨by first | rfl | (simp [errW_none, errW_some] <;> rfl) | (simp [*, errW_none, errW_some] <;> rfl), by repeat (first | (with_reducible first | exact HB.out | apply below_alloc | apply pw_below_drewN | apply below_drew1) | exact HB.out)⟩
                        · replace c27 := Bool.eq_false_iff.mpr c27
                          subst c27
                          have H1 : (some false) = some r := by rw [if_neg (show ¬ (false = true) by decide)] at H; exact H
                          clear H
                          have H := H1
                          clear H1
                          obtain rfl := Option.some.inj H
                          obtain ⟨Ao31, co31, eo31⟩ := Kd.R_slice HO_2.out
                          subst eo31
                          go_wp2_with (first | ((with_reducible refine gate_callee (f := 14) rfl ?_); refine goesL_ (some 28) rfl rfl Try.func14 (by kernel_rfl) rfl #[.slice Ao31 t180.length co31, .int .i64 5, .int .u32 3] rfl (by (try simp only [List.map_toArray, List.map_cons, List.map_nil]); first | done | rfl | (simp only [List.length_drop, List.length_take]; rfl)) ?_; (with_reducible refine (dtab_Step.calls _ _ t180 5 3 t184 t185 false _ ?side1 ?side2 A22.out).mono ?_); (case side1 => repeat (first | exact (Kd.R_reads' HO_2.out).2.2 | (with_reducible refine Kd.C_alloc ?_ _) | (with_reducible refine Kd.C_drewN ?_ _) | (with_reducible refine Kd.C_drew ?_))); (case side2 => exact (Kd.R_reads' HO_2.out).2.1); rintro e w' ⟨rfl, ⟨nd, rfl⟩⟩; refine ⟨_, rfl, ?_⟩; have p187 : 0 ≤ (5 : Int) := (by omega); have q187 : 5 < (t180.length : Int) := of_decide_eq_true (by first | (with_reducible assumption) | assumption); obtain ⟨ad187, e187, hx187_0, hx187_1, hx187_2⟩ := at_T37 (Kd.R_reads' HO_2.out).2.2 5 p187 q187; cases e187; (try simp only [show (5 : Int).toNat = 5 from rfl, Nat.reduceMul, Nat.reduceEqDiff, Go.Addr.add, ↓reduceIte] at hx187_0); (try simp only [show (5 : Int).toNat = 5 from rfl, Nat.reduceMul, Nat.reduceEqDiff, Go.Addr.add, ↓reduceIte] at hx187_1); (try simp only [show (5 : Int).toNat = 5 from rfl, Nat.reduceMul, Nat.reduceEqDiff, Go.Addr.add, ↓reduceIte] at hx187_2); have qi187 : (5 < t180.length) = True := eq_true (by omega); (try rw [show ((5 : Int)).toNat = 5 from rfl] at hx187_0); (try rw [show 5 * 3 = 15 from rfl] at hx187_0); (try rw [show ((5 : Int)).toNat = 5 from rfl] at hx187_1); (try rw [show 5 * 3 = 15 from rfl] at hx187_1); (try rw [show ((5 : Int)).toNat = 5 from rfl] at hx187_2); (try rw [show 5 * 3 = 15 from rfl] at hx187_2); replace p187 := eq_true p187; replace q187 := eq_true q187))
                          go_ret
                          exact ⟨by first | rfl | (simp [errW_none, errW_some] <;> rfl) | (simp [*, errW_none, errW_some] <;> rfl), by repeat (first | (with_reducible first | exact HB.out | apply below_alloc | apply pw_below_drewN | apply below_drew1) | exact HB.out)⟩
                      · rw [if_neg c26] at H
                        have c26b0 : (t185 == 7) = false := beq_eq_false_iff_ne.mpr c26
                        have c26b1 : (t185 != 7) = true := bne_iff_ne.mpr c26
                        obtain rfl := Option.some.inj H
                        obtain ⟨Ao32, co32, eo32⟩ := Kd.R_slice HO_2.out
                        subst eo32
                        go_wp2_with (first | ((with_reducible refine gate_callee (f := 14) rfl ?_); refine goesL_ (some 28) rfl rfl Try.func14 (by kernel_rfl) rfl #[.slice Ao32 t180.length co32, .int .i64 5, .int .u32 3] rfl (by (try simp only [List.map_toArray, List.map_cons, List.map_nil]); first | done | rfl | (simp only [List.length_drop, List.length_take]; rfl)) ?_; (with_reducible refine (dtab_Step.calls _ _ t180 5 3 t184 t185 t186 _ ?side1 ?side2 A22.out).mono ?_); (case side1 => repeat (first | exact (Kd.R_reads' HO_2.out).2.2 | (with_reducible refine Kd.C_alloc ?_ _) | (with_reducible refine Kd.C_drewN ?_ _) | (with_reducible refine Kd.C_drew ?_))); (case side2 => exact (Kd.R_reads' HO_2.out).2.1); rintro e w' ⟨rfl, ⟨nd, rfl⟩⟩; refine ⟨_, rfl, ?_⟩; have p187 : 0 ≤ (5 : Int) := (by omega); have q187 : 5 < (t180.length : Int) := of_decide_eq_true (by first | (with_reducible assumption) | assumption); obtain ⟨ad187, e187, hx187_0, hx187_1, hx187_2⟩ := at_T37 (Kd.R_reads' HO_2.out).2.2 5 p187 q187; cases e187; (try simp only [show (5 : Int).toNat = 5 from rfl, Nat.reduceMul, Nat.reduceEqDiff, Go.Addr.add, ↓reduceIte] at hx187_0); (try simp only [show (5 : Int).toNat = 5 from rfl, Nat.reduceMul, Nat.reduceEqDiff, Go.Addr.add, ↓reduceIte] at hx187_1); (try simp only [show (5 : Int).toNat = 5 from rfl, Nat.reduceMul, Nat.reduceEqDiff, Go.Addr.add, ↓reduceIte] at hx187_2); have qi187 : (5 < t180.length) = True := eq_true (by omega); (try rw [show ((5 : Int)).toNat = 5 from rfl] at hx187_0); (try rw [show 5 * 3 = 15 from rfl] at hx187_0); (try rw [show ((5 : Int)).toNat = 5 from rfl] at hx187_1); (try rw [show 5 * 3 = 15 from rfl] at hx187_1); (try rw [show ((5 : Int)).toNat = 5 from rfl] at hx187_2); (try rw [show 5 * 3 = 15 from rfl] at hx187_2); replace p187 := eq_true p187; replace q187 := eq_true q187))
                        go_ret
                        exact ⟨by first | rfl | (simp [errW_none, errW_some] <;> rfl) | (simp [*, errW_none, errW_some] <;> rfl), by repeat (first | (with_reducible first | exact HB.out | apply below_alloc | apply pw_below_drewN | apply below_drew1) | exact HB.out)⟩
                    · rw [if_neg c25] at H
                      have c25b0 : (t184 == 1) = false := beq_eq_false_iff_ne.mpr c25
                      have c25b1 : (t184 != 1) = true := bne_iff_ne.mpr c25
                      obtain rfl := Option.some.inj H
                      obtain ⟨Ao33, co33, eo33⟩ := Kd.R_slice HO_2.out
                      subst eo33
                      go_wp2_with (first | ((with_reducible refine gate_callee (f := 14) rfl ?_); refine goesL_ (some 28) rfl rfl Try.func14 (by kernel_rfl) rfl #[.slice Ao33 t180.length co33, .int .i64 5, .int .u32 3] rfl (by (try simp only [List.map_toArray, List.map_cons, List.map_nil]); first | done | rfl | (simp only [List.length_drop, List.length_take]; rfl)) ?_; (with_reducible refine (dtab_Step.calls _ _ t180 5 3 t184 t185 t186 _ ?side1 ?side2 A22.out).mono ?_); (case side1 => repeat (first | exact (Kd.R_reads' HO_2.out).2.2 | (with_reducible refine Kd.C_alloc ?_ _) | (with_reducible refine Kd.C_drewN ?_ _) | (with_reducible refine Kd.C_drew ?_))); (case side2 => exact (Kd.R_reads' HO_2.out).2.1); rintro e w' ⟨rfl, ⟨nd, rfl⟩⟩; refine ⟨_, rfl, ?_⟩; have p187 : 0 ≤ (5 : Int) := (by omega); have q187 : 5 < (t180.length : Int) := of_decide_eq_true (by first | (with_reducible assumption) | assumption); obtain ⟨ad187, e187, hx187_0, hx187_1, hx187_2⟩ := at_T37 (Kd.R_reads' HO_2.out).2.2 5 p187 q187; cases e187; (try simp only [show (5 : Int).toNat = 5 from rfl, Nat.reduceMul, Nat.reduceEqDiff, Go.Addr.add, ↓reduceIte] at hx187_0); (try simp only [show (5 : Int).toNat = 5 from rfl, Nat.reduceMul, Nat.reduceEqDiff, Go.Addr.add, ↓reduceIte] at hx187_1); (try simp only [show (5 : Int).toNat = 5 from rfl, Nat.reduceMul, Nat.reduceEqDiff, Go.Addr.add, ↓reduceIte] at hx187_2); have qi187 : (5 < t180.length) = True := eq_true (by omega); (try rw [show ((5 : Int)).toNat = 5 from rfl] at hx187_0); (try rw [show 5 * 3 = 15 from rfl] at hx187_0); (try rw [show ((5 : Int)).toNat = 5 from rfl] at hx187_1); (try rw [show 5 * 3 = 15 from rfl] at hx187_1); (try rw [show ((5 : Int)).toNat = 5 from rfl] at hx187_2); (try rw [show 5 * 3 = 15 from rfl] at hx187_2); replace p187 := eq_true p187; replace q187 := eq_true q187))
                      go_ret
                      exact ⟨by first | rfl | (simp [errW_none, errW_some] <;> rfl) | (simp [*, errW_none, errW_some] <;> rfl), by repeat (first | (with_reducible first | exact HB.out | apply below_alloc | apply pw_below_drewN | apply below_drew1) | exact HB.out)⟩
                  · rw [if_neg c24] at H
                    have c24b0 : (((rd_T37 t180 5).f0) == 1 && (((rd_T37 t180 5).f1) == 2 && (((rd_T37 t180 5).f2) == 4))) = false := by simpa using c24
                    (try (have c24b1 : decide (((rd_T37 t180 5).f0) = 1 && (((rd_T37 t180 5).f1) == 2 && (((rd_T37 t180 5).f2) == 4))) = false := by simpa using c24))
                    (try (have c24b2 : (((rd_T37 t180 5).f0) == 1 && (((rd_T37 t180 5).f1) == 2 && (((rd_T37 t180 5).f2) == 4))) = false := by simpa using c24))
                    (try (have c24b3 : ¬ (((rd_T37 t180 5).f0) = 1 && (((rd_T37 t180 5).f1) == 2 && (((rd_T37 t180 5).f2) == 4))) := by simpa using c24))
                    clear c24
                    obtain rfl := Option.some.inj H
                    obtain ⟨Ao34, co34, eo34⟩ := Kd.R_slice HO_2.out
                    subst eo34
                    go_wp2_with (first | ((with_reducible refine gate_callee (f := 14) rfl ?_); refine goesL_ (some 28) rfl rfl Try.func14 (by kernel_rfl) rfl #[.slice Ao34 t180.length co34, .int .i64 5, .int .u32 3] rfl (by (try simp only [List.map_toArray, List.map_cons, List.map_nil]); first | done | rfl | (simp only [List.length_drop, List.length_take]; rfl)) ?_; (with_reducible refine (dtab_Step.calls _ _ t180 5 3 t184 t185 t186 _ ?side1 ?side2 A22.out).mono ?_); (case side1 => repeat (first | exact (Kd.R_reads' HO_2.out).2.2 | (with_reducible refine Kd.C_alloc ?_ _) | (with_reducible refine Kd.C_drewN ?_ _) | (with_reducible refine Kd.C_drew ?_))); (case side2 => exact (Kd.R_reads' HO_2.out).2.1); rintro e w' ⟨rfl, ⟨nd, rfl⟩⟩; refine ⟨_, rfl, ?_⟩; have p187 : 0 ≤ (5 : Int) := (by omega); have q187 : 5 < (t180.length : Int) := of_decide_eq_true (by first | (with_reducible assumption) | assumption); obtain ⟨ad187, e187, hx187_0, hx187_1, hx187_2⟩ := at_T37 (Kd.R_reads' HO_2.out).2.2 5 p187 q187; cases e187; (try simp only [show (5 : Int).toNat = 5 from rfl, Nat.reduceMul, Nat.reduceEqDiff, Go.Addr.add, ↓reduceIte] at hx187_0); (try simp only [show (5 : Int).toNat = 5 from rfl, Nat.reduceMul, Nat.reduceEqDiff, Go.Addr.add, ↓reduceIte] at hx187_1); (try simp only [show (5 : Int).toNat = 5 from rfl, Nat.reduceMul, Nat.reduceEqDiff, Go.Addr.add, ↓reduceIte] at hx187_2); have qi187 : (5 < t180.length) = True := eq_true (by omega); (try rw [show ((5 : Int)).toNat = 5 from rfl] at hx187_0); (try rw [show 5 * 3 = 15 from rfl] at hx187_0); (try rw [show ((5 : Int)).toNat = 5 from rfl] at hx187_1); (try rw [show 5 * 3 = 15 from rfl] at hx187_1); (try rw [show ((5 : Int)).toNat = 5 from rfl] at hx187_2); (try rw [show 5 * 3 = 15 from rfl] at hx187_2); replace p187 := eq_true p187; replace q187 := eq_true q187))
                    go_ret
                    exact ⟨by first | rfl | (simp [errW_none, errW_some] <;> rfl) | (simp [*, errW_none, errW_some] <;> rfl), by repeat (first | (with_reducible first | exact HB.out | apply below_alloc | apply pw_below_drewN | apply below_drew1) | exact HB.out)⟩
                · rw [if_neg c23] at H
                  exact absurd H (by simp)
        · rw [if_neg c6] at H
          exact absurd H (by simp)
      · rw [if_neg c4] at H
        exact absurd H (by simp)
    · rw [if_neg c2] at H
      exact absurd H (by simp)
  · rw [if_neg c1] at H
    exact absurd H (by simp)

/-! ### puncheonref05_Some: function 21 -/
def puncheonref05_Some.l0 : Nat → List Int → List Int → Int → Option (List Int)
  | 0, _, _, _ => none
  | k + 1, x0, x3, x4 => if (wrap64 (x4 + 1)) < (x0.length : Int) then (if x4 < 80 then (if 0 ≤ x4 then (if x4 < (x0.length : Int) then (if 0 ≤ (wrap64 (x4 + 1)) then (if 0 ≤ (Int.tmod (rd x0 x4) 256) then (if (Int.tmod (rd x0 x4) 256) < (x3.length : Int) then (puncheonref05_Some.l0 k x0 (x3.set ((Int.tmod (rd x0 x4) 256) : Int).toNat (wrap64 (rd x0 (wrap64 (x4 + 1))))) (wrap64 (x4 + 2))) else (none)) else (none)) else (none)) else (none)) else (none)) else (some x3)) else (some x3)
def puncheonref05_Some.f (k : Nat) (l0 : List Int) : Option (List Int) := if 256 ≤ 35184372088832 then (puncheonref05_Some.l0 k l0 (List.replicate 256 0) 0) else (none)
theorem puncheonref05_Some.mono_l : ∀ k, (∀ y0 y1 y2, LeO (puncheonref05_Some.l0 k y0 y1 y2) (puncheonref05_Some.l0 (k + 1) y0 y1 y2))
  | 0 => fun _ _ _ r h => by simp [puncheonref05_Some.l0] at h
  | k + 1 => by
    have ih0 := puncheonref05_Some.mono_l k
    · intro y0 y1 y2
      unfold puncheonref05_Some.l0
      repeat' first
      | (with_reducible exact ih0 _ _ _)
      | (with_reducible exact LeO.refl _)
      | (with_reducible exact LeO.none _)
      | (with_reducible refine LeO.ite ?_ ?_)
      | (with_reducible refine LeO.bind ?_ (fun _ => ?_))
      | exact ih0 _ _ _
      | exact LeO.none _
      | refine LeO.ite ?_ ?_
      | refine LeO.bind ?_ (fun _ => ?_)
theorem puncheonref05_Some.mono : ∀ a0 k, LeO (puncheonref05_Some.f k a0) (puncheonref05_Some.f (k + 1) a0) := by
  intro a0 k
  have ih0 := puncheonref05_Some.mono_l k
  unfold puncheonref05_Some.f
  repeat' first
      | (with_reducible exact ih0 _ _ _)
      | (with_reducible exact LeO.refl _)
      | (with_reducible exact LeO.none _)
      | (with_reducible refine LeO.ite ?_ ?_)
      | (with_reducible refine LeO.bind ?_ (fun _ => ?_))
      | exact ih0 _ _ _
      | exact LeO.none _
      | refine LeO.ite ?_ ?_
      | refine LeO.bind ?_ (fun _ => ?_)
def puncheonref05_Some.T5 : Bool × List (List Nat × List Nat) := (true, [([], []), ([], []), ([], []), ([1, 2], [1, 2]), ([3], [3]), ([4], [4]), ([], []), ([], []), ([7], [7]), ([6, 8], [6, 8]), ([9], [9]), ([10], [10]), ([0, 5, 0, 1, 2, 3, 4, 5, 6, 7, 8, 9, 10, 11], [0, 5]), ([12, 11, 0, 1, 2, 3, 4, 5, 6, 7, 8, 9, 10, 11], [11, 12])])
def puncheonref05_Some.B5 : List Nat := [0, 0, 0, 6, 14, 30, 0, 0, 128, 448, 960, 1984, 4095, 8191]
theorem puncheonref05_Some.tab5 : rtab .any (opsOf Try.f21 5) = puncheonref05_Some.T5 := by kernel_rfl
theorem puncheonref05_Some.bits5 : waitsOk puncheonref05_Some.T5.2 puncheonref05_Some.B5 = true := by kernel_rfl
set_option maxHeartbeats 8000000 in
set_option maxRecDepth 100000 in
theorem puncheonref05_Some.calls (k : Nat) (A0 : Option Addr) (c0 : Nat) (l0 : List Int) (r : List Int) (w : World) (hr0 : Kd.C (Kd.int .u16) w A0 l0.length l0) (hc0 : l0.length ≤ c0) (h : puncheonref05_Some.f k l0 = some r) :
    Calls Try.prog 21 #[.slice A0 l0.length c0] w fun e w' => ∃ v0_ : Value, e = .returned (v0_) ∧ Kd.R (Kd.int .i64) 3 w' w.heap.size (fun _ => True) v0_ r ∧ Below w.heap.size w w' := by
  have HR0 := Aside0.mk hr0
  have HC0 := Aside0.mk hc0
  clear hr0 hc0
  have HB := Aside0.mk (Below.refl w.heap.size w)
  have H : (if 256 ≤ 35184372088832 then (puncheonref05_Some.l0 k l0 (List.replicate 256 0) 0) else (none)) = some r := h
  clear h
  by_cases c2 : 256 ≤ 35184372088832
  · rw [if_pos c2] at H
    have c2b0 := eq_true c2
    have c2b1 : decide (256 ≤ 35184372088832) = true := decide_eq_true c2
    clear c2
    obtain ⟨y189, hy189⟩ : ∃ y_ : List Int, y_ = (List.replicate 256 0) := ⟨_, rfl⟩
    replace H : (puncheonref05_Some.l0 k l0 y189 0) = some r := by first | (rw [hy189]; with_reducible exact H) | (have H2_ := (Option.bind_some _ _).symm.trans H; rw [hy189]; with_reducible exact H2_) | (have H2_ := (Option.bind_some _ _).symm.trans H; with_reducible exact H2_) | with_reducible exact H | (rw [hy189]; exact H) | exact H
    have Ny189 := Aside0.mk hy189
    clear hy189
    have H' := Aside0.mk H
    clear H
    go_enter Try.func21, Try.ntmps21
    go_wp2_with (first | ((with_reducible refine gate_dst (N := 5) rfl ?_); refine Kd.R_make (Kd.int .i64) _ 3 rfl (N := 5) rfl 22 _ _ rfl 256 rfl rfl Try.underlying22 (.int .i64 0) 8 info3 rfl (by decide) (by omega) 0 (ok := fun _ => True) (okp := fun _ => True) rfl (fun _ hk => hk) trivial (by omega) (by omega) (Below.refl _ _) (Nat.le_refl _) ?_; intro v190 w3 ho4 hb hg_ hnew_; clear hg_ hnew_; (first | rw [← Ny189.out] at ho4 | (simp only [Int.reduceToNat] at ho4; rw [← Ny189.out] at ho4)); have n0_ := Aside0.mk (Kd.R_lower ho4 (below_size (by repeat (first | (with_reducible first | exact HB.out | apply below_alloc | apply pw_below_drewN | apply below_drew1) | exact HB.out)))); have n1_ := Aside0.mk (below_step (by repeat (first | (with_reducible first | exact HB.out | apply below_alloc | apply pw_below_drewN | apply below_drew1) | exact HB.out)) hb); clear HB; have HO191 := n0_; have HB := n1_; clear n0_ n1_; clear hb ho4))
    go_loopg [4] k (fun kq v4 w' => ∃ (x3_1 : List Int) (x4_1 : Int), v4 = .int .i64 x4_1 ∧ Aside0 (puncheonref05_Some.l0 kq l0 x3_1 x4_1 = some r) ∧ Aside0 (kq ≤ k) ∧ Aside0 (Kd.R (Kd.int .i64) 3 w' w.heap.size (fun _ => True) v190 x3_1) ∧ Aside0 (Below w.heap.size w w'))
    case atStart => exact ⟨(y189), (0), (by first | rfl | (simp; done) | (simp [*]; done)), H', ⟨Nat.le_refl _⟩, ⟨by (with_reducible repeat (first | apply Kd.R_alloc | apply Kd.R_drewN | apply Kd.R_drew)); exact HO191.out⟩, ⟨by repeat (first | (with_reducible first | exact HB.out | apply below_alloc | apply pw_below_drewN | apply below_drew1) | exact HB.out)⟩⟩
    case round =>
      clear H'
      try clear c2
      try clear c2b0
      try clear c2b1
      try clear p2
      obtain ⟨x3_1, x4_1, rfl, HA, HK1, HO_3, HB⟩ := hrel
      cases gk with
      | zero => exact absurd HA.out (by simp [puncheonref05_Some.l0])
      | succ k1 =>
        have H := HA.out
        clear HA
        simp only [puncheonref05_Some.l0] at H
        by_cases c5 : (wrap64 (x4_1 + 1)) < (l0.length : Int)
        · rw [if_pos c5] at H
          have c5b0 : decide ((wrap64 (x4_1 + 1)) < (l0.length : Int)) = true := decide_eq_true c5
          clear c5
          by_cases c6 : x4_1 < 80
          · rw [if_pos c6] at H
            have c6b0 : decide (x4_1 < 80) = true := decide_eq_true c6
            clear c6
            by_cases c7 : 0 ≤ x4_1
            · rw [if_pos c7] at H
              have c7b0 : decide (0 ≤ x4_1) = true := decide_eq_true c7
              clear c7
              by_cases c8 : x4_1 < (l0.length : Int)
              · rw [if_pos c8] at H
                have c8b0 : decide (x4_1 < (l0.length : Int)) = true := decide_eq_true c8
                clear c8
                obtain ⟨ji9, hji9⟩ : ∃ j_ : Int, (wrap64 (x4_1 + 1)) = j_ := ⟨_, rfl⟩
                replace H : (if 0 ≤ (ji9) then (if 0 ≤ (Int.tmod (rd l0 x4_1) 256) then (if (Int.tmod (rd l0 x4_1) 256) < (x3_1.length : Int) then (puncheonref05_Some.l0 k1 l0 (x3_1.set ((Int.tmod (rd l0 x4_1) 256) : Int).toNat (wrap64 (rd l0 (ji9)))) (wrap64 (x4_1 + 2))) else (none)) else (none)) else (none)) = some r := by first | (rw [hji9] at H; exact H) | (simp only [hji9] at H ⊢; exact H)
                (try rw [hji9] at c5b0)
                have hji9w : (IntKind.i64.wrap (x4_1 + 1)) = ji9 := (i64_w _).trans hji9
                by_cases c10 : 0 ≤ (ji9)
                · rw [if_pos c10] at H
                  have c10b0 : decide (0 ≤ (ji9)) = true := decide_eq_true c10
                  clear c10
                  obtain ⟨ji11, hji11⟩ : ∃ j_ : Int, (Int.tmod (rd l0 x4_1) 256) = j_ := ⟨_, rfl⟩
                  replace H : (if 0 ≤ (ji11) then (if (ji11) < (x3_1.length : Int) then (puncheonref05_Some.l0 k1 l0 (x3_1.set ((ji11) : Int).toNat (wrap64 (rd l0 (ji9)))) (wrap64 (x4_1 + 2))) else (none)) else (none)) = some r := by first | (rw [hji11] at H; exact H) | (simp only [hji11] at H ⊢; exact H)
                  by_cases c12 : 0 ≤ (ji11)
                  · rw [if_pos c12] at H
                    have c12b0 : decide (0 ≤ (ji11)) = true := decide_eq_true c12
                    clear c12
                    by_cases c13 : (ji11) < (x3_1.length : Int)
                    · rw [if_pos c13] at H
                      have c13b0 : decide ((ji11) < (x3_1.length : Int)) = true := decide_eq_true c13
                      clear c13
                      obtain ⟨y194, hy194⟩ : ∃ y_ : List Int, y_ = (x3_1.set ((ji11) : Int).toNat (wrap64 (rd l0 (ji9)))) := ⟨_, rfl⟩
                      replace H : (puncheonref05_Some.l0 k1 l0 y194 (wrap64 (x4_1 + 2))) = some r := by first | (rw [hy194]; with_reducible exact H) | (have H2_ := (Option.bind_some _ _).symm.trans H; rw [hy194]; with_reducible exact H2_) | (have H2_ := (Option.bind_some _ _).symm.trans H; with_reducible exact H2_) | with_reducible exact H | (rw [hy194]; exact H) | exact H
                      have Ny194 := Aside0.mk hy194
                      clear hy194
                      have H' := Aside0.mk H
                      clear H
                      try go_wp2
                      have n0_ := Aside0.mk (Kd.R_drew HO_3.out)
                      have n1_ := Aside0.mk (below_drew1 HB.out)
                      clear HO_3
                      clear HB
                      have HO_3 := n0_
                      have HB := n1_
                      clear n0_ n1_
                      have p192 : 0 ≤ (x4_1 : Int) := of_decide_eq_true (by first | (with_reducible assumption) | assumption)
                      have q192 : x4_1 < (l0.length : Int) := of_decide_eq_true (by first | (with_reducible assumption) | assumption)
                      obtain ⟨ad192, e192, hx192_0⟩ := Kd.at_int HR0.out x4_1 p192 q192
                      have hw192_0 := hx192_0
                      cases e192
                      replace hx192_0 := (HB.out.cell (World.block_lt_of_cell? w _ hx192_0)).trans hx192_0
                      replace p192 := eq_true p192
                      replace q192 := eq_true q192
                      have p193 : 0 ≤ ((ji9) : Int) := of_decide_eq_true (by first | (with_reducible assumption) | assumption)
                      have q193 : (ji9) < (l0.length : Int) := of_decide_eq_true (by first | (with_reducible assumption) | assumption)
                      obtain ⟨ad193, e193, hx193_0⟩ := Kd.at_int HR0.out (ji9) p193 q193
                      have hw193_0 := hx193_0
                      obtain rfl : ad192 = ad193 := (by injection e193)
                      replace hx193_0 := (HB.out.cell (World.block_lt_of_cell? w _ hx193_0)).trans hx193_0
                      replace p193 := eq_true p193
                      replace q193 := eq_true q193
                      have p14 : 0 ≤ ((ji11) : Int) := of_decide_eq_true (by first | (with_reducible assumption) | assumption)
                      have q14 : ((ji11) : Int) < ((x3_1.length : Int) : Int) := of_decide_eq_true (by first | (with_reducible assumption) | assumption)
                      obtain ⟨go14, co14, eo14, gb14, gl14, cl14, HG14⟩ := Kd.R_form HO_3.out (by omega)
                      (first | cases eo14 | (injection eo14 with ea_ en_ ec_; (first | subst ea_ | (injection ea_ with ea_; subst ea_)); subst ec_; clear en_))
                      have GB14 := Aside0.mk gb14
                      have GG14 := Aside0.mk HG14
                      clear gb14 gl14 HG14
                      obtain ⟨hx14_0, hf14_0⟩ := Kd.R_celln 0 HO_3.out ((ji11) : Int) p14 q14
                      replace p14 := eq_true p14
                      replace q14 := eq_true q14
                      have HP16 := Kd.R_putn HO_3.out ((ji11) : Int) (wrap64 (rd l0 (ji9)))
                      rw [← Ny194.out] at HP16
                      have HQ16 := Aside0.mk HP16
                      clear HP16
                      refine start_ (n := 14) (S := fun w' => w'.cell? (ad192.add (x4_1).toNat) = some (.int .u16 (rd l0 x4_1)) ∧ w'.cell? (ad192.add ((ji9)).toNat) = some (.int .u16 (rd l0 (ji9)))) (ds := [13]) #[false, false, false, false, false, false, false, false, false, false, false, false, false, false] (by kernel_rfl) rfl rfl ⟨((HB.out.cell (World.block_lt_of_cell? w _ hw192_0)).trans hw192_0), ((HB.out.cell (World.block_lt_of_cell? w _ hw193_0)).trans hw193_0)⟩ (fun hHeld => ?_); refine with_tabW puncheonref05_Some.tab5 puncheonref05_Some.bits5 (fun HT_ HW_ => ?_)
                      generalize wr.drew = w15 at HO_3 HB GG14 HQ16 hf14_0 hx14_0 hx192_0 hx193_0 hHeld ⊢
                      refine pure_ (i := 0) (N := some 17) (v := ?_) (a' := ?_) #[true, false, false, false, false, false, false, false, false, false, false, false, false, false] rfl rfl (any_of HT_.out (by kernel_rfl)) (fun _ _ _ h => h) (Or.inl ⟨by rfl, ?_⟩) ?_ ?_
                      rotate_left
                      · intro w'
                        go_simp
                        with_reducible rfl
                      rotate_left
                      · simp only [Act.put, List.setIfInBounds_toArray, List.set_cons_zero, List.set_cons_succ, i64_w, i32_w]
                        rfl
                      refine pure_ (i := 1) (N := some 18) (v := ?_) (a' := ?_) #[true, true, false, false, false, false, false, false, false, false, false, false, false, false] rfl rfl (any_of HT_.out (by kernel_rfl)) (fun _ _ _ h => h) (Or.inl ⟨by rfl, ?_⟩) ?_ ?_
                      rotate_left
                      · intro w'
                        go_simp
                        with_reducible rfl
                      rotate_left
                      · simp only [Act.put, List.setIfInBounds_toArray, List.set_cons_zero, List.set_cons_succ, i64_w, i32_w]
                        rfl
                      refine pure_ (i := 2) (N := some 19) (v := ?_) (a' := ?_) #[true, true, true, false, false, false, false, false, false, false, false, false, false, false] rfl rfl (any_of HT_.out (by kernel_rfl)) (fun _ _ _ h => h) (Or.inl ⟨by rfl, ?_⟩) ?_ ?_
                      rotate_left
                      · intro w'
                        go_simp
                        with_reducible rfl
                      rotate_left
                      · simp only [Act.put, List.setIfInBounds_toArray, List.set_cons_zero, List.set_cons_succ, i64_w, i32_w]
                        rfl
                      refine pure_ (i := 3) (N := some 20) (v := ?_) (a' := ?_) #[true, true, true, true, false, false, false, false, false, false, false, false, false, false] rfl rfl (any_of HT_.out (by kernel_rfl)) (fun _ _ _ h => h) (Or.inl ⟨by rfl, ?_⟩) ?_ ?_
                      rotate_left
                      · intro w'
                        go_simp
                        with_reducible rfl
                      rotate_left
                      · simp only [Act.put, List.setIfInBounds_toArray, List.set_cons_zero, List.set_cons_succ, i64_w, i32_w]
                        rfl
                      refine pure_ (i := 6) (N := some 23) (v := ?_) (a' := ?_) #[true, true, true, true, false, false, true, false, false, false, false, false, false, false] rfl rfl (any_of HT_.out (by kernel_rfl)) (fun _ _ _ h => h) (Or.inl ⟨by rfl, ?_⟩) ?_ ?_
                      rotate_left
                      · intro w'
                        go_simp
                        with_reducible rfl
                      rotate_left
                      · simp only [Act.put, List.setIfInBounds_toArray, List.set_cons_zero, List.set_cons_succ, i64_w, i32_w]
                        rfl
                      refine pure_ (i := 7) (N := some 24) (v := ?_) (a' := ?_) #[true, true, true, true, false, false, true, true, false, false, false, false, false, false] rfl rfl (any_of HT_.out (by kernel_rfl)) (fun _ _ _ h => h) (Or.inl ⟨by rfl, ?_⟩) ?_ ?_
                      rotate_left
                      · intro w'
                        go_simp
                        with_reducible rfl
                      rotate_left
                      · simp only [Act.put, List.setIfInBounds_toArray, List.set_cons_zero, List.set_cons_succ, i64_w, i32_w]
                        rfl
                      refine pure_ (i := 8) (N := some 25) (v := ?_) (a' := ?_) #[true, true, true, true, false, false, true, true, true, false, false, false, false, false] rfl rfl (any_of HT_.out (by kernel_rfl)) (fun _ _ _ h => h) (Or.inl ⟨by rfl, ?_⟩) ?_ ?_
                      rotate_left
                      · intro w'
                        go_simp
                        with_reducible rfl
                      rotate_left
                      · simp only [Act.put, List.setIfInBounds_toArray, List.set_cons_zero, List.set_cons_succ, i64_w, i32_w]
                        rfl
                      refine pure_ (i := 9) (N := some 26) (v := ?_) (a' := ?_) #[true, true, true, true, false, false, true, true, true, true, false, false, false, false] rfl rfl (any_of HT_.out (by kernel_rfl)) (fun _ _ _ h => h) (Or.inl ⟨by rfl, ?_⟩) ?_ ?_
                      rotate_left
                      · intro w'
                        go_simp
                        with_reducible rfl
                      rotate_left
                      · simp only [Act.put, List.setIfInBounds_toArray, List.set_cons_zero, List.set_cons_succ, i64_w, i32_w]
                        rfl
                      refine take_ (i := 4) (N := some 21) (v := ?_) (a' := ?_) #[true, true, true, true, true, false, true, true, true, true, false, false, false, false] rfl rfl (take_ofW HT_.out HW_.out (by kernel_rfl)) (fun _ _ _ h => h) (Or.inl ⟨by rfl, ?_⟩) hHeld ?_ ?_
                      rotate_left
                      · rintro w' ⟨s0, s1⟩
                        go_simp
                        with_reducible rfl
                      rotate_left
                      · simp only [Act.put, List.setIfInBounds_toArray, List.set_cons_zero, List.set_cons_succ, i64_w, i32_w]
                        rfl
                      refine pure_ (i := 5) (N := some 22) (v := ?_) (a' := ?_) #[true, true, true, true, true, true, true, true, true, true, false, false, false, false] rfl rfl (any_of HT_.out (by kernel_rfl)) (fun _ _ _ h => h) (Or.inl ⟨by rfl, ?_⟩) ?_ ?_
                      rotate_left
                      · intro w'
                        go_simp
                        with_reducible rfl
                      rotate_left
                      · simp only [Act.put, List.setIfInBounds_toArray, List.set_cons_zero, List.set_cons_succ, i64_w, i32_w]
                        rfl
                      refine take_ (i := 10) (N := some 27) (v := ?_) (a' := ?_) #[true, true, true, true, true, true, true, true, true, true, true, false, false, false] rfl rfl (take_ofW HT_.out HW_.out (by kernel_rfl)) (fun _ _ _ h => h) (Or.inl ⟨by rfl, ?_⟩) hHeld ?_ ?_
                      rotate_left
                      · rintro w' ⟨s0, s1⟩
                        go_simp
                        with_reducible rfl
                      rotate_left
                      · simp only [Act.put, List.setIfInBounds_toArray, List.set_cons_zero, List.set_cons_succ, i64_w, i32_w]
                        rfl
                      refine pure_ (i := 11) (N := some 28) (v := ?_) (a' := ?_) #[true, true, true, true, true, true, true, true, true, true, true, true, false, false] rfl rfl (any_of HT_.out (by kernel_rfl)) (fun _ _ _ h => h) (Or.inl ⟨by rfl, ?_⟩) ?_ ?_
                      rotate_left
                      · intro w'
                        go_simp
                        with_reducible rfl
                      rotate_left
                      · simp only [Act.put, List.setIfInBounds_toArray, List.set_cons_zero, List.set_cons_succ, i64_w, i32_w]
                        rfl
                      refine pure_ (i := 12) (N := some 29) (v := ?_) (a' := ?_) #[true, true, true, true, true, true, true, true, true, true, true, true, true, false] rfl rfl (any_of HT_.out (by kernel_rfl)) (fun _ _ _ h => h) (Or.inl ⟨by rfl, ?_⟩) ?_ ?_
                      rotate_left
                      · intro w'
                        go_simp
                        with_reducible rfl
                      rotate_left
                      · simp only [Act.put, List.setIfInBounds_toArray, List.set_cons_zero, List.set_cons_succ, i64_w, i32_w]
                        rfl
                      refine last_ (i := 13) (N := none) #[true, true, true, true, true, true, true, true, true, true, true, true, true, true] rfl rfl (one_of HT_.out (by kernel_rfl)) (by decide) (fun K hK => ?_)
                      refine skip_ (w1 := ?_) (by rfl) rfl ?_ ?_
                      rotate_left
                      · go_simp
                        rfl
                      refine hK.out _ _ ?_
                      clear hK K
                      refine done_ (done_of HT_.out (by kernel_rfl)) ?_
                      try go_wp2
                      subst hji11; subst hji9
                      go_roundg k1
                      case measure => have := HK1.out; omega
                      case rel => exact ⟨(y194), (wrap64 (x4_1 + 2)), (by first | rfl | (simp; done) | (simp [*]; done)), H', ⟨by have := HK1.out; omega⟩, ⟨by (with_reducible repeat (first | apply Kd.R_alloc | apply Kd.R_drewN | apply Kd.R_drew)); exact HQ16.out⟩, ⟨by repeat (first | (with_reducible first | exact HB.out | apply below_alloc | apply pw_below_drewN | apply below_drew1 | refine below_set ?_ GB14.out) | exact HB.out)⟩⟩
                    · rw [if_neg c13] at H
                      exact absurd H (by simp)
                  · rw [if_neg c12] at H
                    exact absurd H (by simp)
                · rw [if_neg c10] at H
                  exact absurd H (by simp)
              · rw [if_neg c8] at H
                exact absurd H (by simp)
            · rw [if_neg c7] at H
              exact absurd H (by simp)
          · rw [if_neg c6] at H
            have c6b0 : decide (x4_1 < 80) = false := decide_eq_false c6
            clear c6
            obtain rfl := Option.some.inj H
            go_wp2
            go_ret
            exact ⟨_, by first | rfl | (simp [errW_none, errW_some] <;> rfl) | (simp [*, errW_none, errW_some] <;> rfl), by (with_reducible repeat (first | apply Kd.R_alloc | apply Kd.R_drewN | apply Kd.R_drew)); exact HO_3.out, by repeat (first | (with_reducible first | exact HB.out | apply below_alloc | apply pw_below_drewN | apply below_drew1) | exact HB.out)⟩
        · rw [if_neg c5] at H
          have c5b0 : decide ((wrap64 (x4_1 + 1)) < (l0.length : Int)) = false := decide_eq_false c5
          clear c5
          obtain rfl := Option.some.inj H
          go_wp2
          go_ret
          exact ⟨_, by first | rfl | (simp [errW_none, errW_some] <;> rfl) | (simp [*, errW_none, errW_some] <;> rfl), by (with_reducible repeat (first | apply Kd.R_alloc | apply Kd.R_drewN | apply Kd.R_drew)); exact HO_3.out, by repeat (first | (with_reducible first | exact HB.out | apply below_alloc | apply pw_below_drewN | apply below_drew1) | exact HB.out)⟩
  · rw [if_neg c2] at H
    exact absurd H (by simp)

end Go.Proofs.Ytjbpmlpmfbeobaa.PPr
