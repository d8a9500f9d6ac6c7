/- The machine's side of this seat's laws: what each function computes, and that its call computes it; written by a program (pr.py over the kit's print.py). -/
import Derived.Test.YtjbpmlpmfbeobaaPPrx0
import Derived.Test.YtjbpmlpmfbeobaaPPrx8
namespace Go.Proofs.Ytjbpmlpmfbeobaa.PPr
open Go.RowKit Go.Proofs.YtjbpmlpmfbeobaaW.PrintWords Go.Proofs.YtjbpmlpmfbeobaaW.PrintLast Go.Proofs.YtjbpmlpmfbeobaaW.PrintMore
attribute [local go_sem] max2_int min2_int max_two min_two max_three min_three max_four min_four   -- for this text's walks alone
set_option linter.unusedVariables false
set_option linter.unusedSimpArgs false

/-! ### dtab_Whole: function 13 -/
mutual
def dtab_Whole.j0 : Nat → List (S37) → Int → Bool → Option (Bool)
  | 0, _, _, _ => none
  | k + 1, x0, x3, x27 => if x27 = true then (some false) else (if 0 ≤ (wrap64 (256 * x3)) then (if (wrap64 (256 * x3) : Int).toNat ≤ 35184372088832 then (dtab_Whole.l0 k x0 x3 true (List.replicate (wrap64 (256 * x3) : Int).toNat 0) x0 (x0.length : Int) 0) else (none)) else (none))
def dtab_Whole.j3 : Nat → List (S37) → Int → Bool → List Int → Option (Bool)
  | 0, _, _, _, _ => none
  | k + 1, x0, x3, x4, x5 => dtab_Whole.l2 k x3 x4 x5 x0 (x0.length : Int) 0
def dtab_Whole.l2 : Nat → Int → Bool → List Int → List (S37) → Int → Int → Option (Bool)
  | 0, _, _, _, _, _, _ => none
  | k + 1, x3, x4, x5, x67, x68, x69 => if x69 < x68 then (if 0 ≤ x69 then (if x69 < (x67.length : Int) then (dtab_Whole.l3 k x3 x4 x5 0 x67 x68 x69 ((rd_T37 x67 x69).f0) ((rd_T37 x67 x69).f1) ((rd_T37 x67 x69).f2)) else (none)) else (none)) else (some x4)
def dtab_Whole.l3 : Nat → Int → Bool → List Int → Int → List (S37) → Int → Int → Int → Int → Int → Option (Bool)
  | 0, _, _, _, _, _, _, _, _, _, _ => none
  | k + 1, x3, x4, x5, x12, x67, x68, x69, x168000, x168001, x168002 => if x12 < x3 then (if x4 = true then (if 0 ≤ (wrap64 ((wrap64 ((wrap64 (x168000)) * x3)) + x12)) then (if (wrap64 ((wrap64 ((wrap64 (x168000)) * x3)) + x12)) < (x5.length : Int) then (dtab_Whole.l3 k x3 ((rd x5 (wrap64 ((wrap64 ((wrap64 (x168000)) * x3)) + x12))) == 1) x5 (wrap64 (x12 + 1)) x67 x68 x69 x168000 x168001 x168002) else (none)) else (none)) else (dtab_Whole.l2 k x3 x4 x5 x67 x68 (wrap64 (x69 + 1)))) else (dtab_Whole.l2 k x3 x4 x5 x67 x68 (wrap64 (x69 + 1)))
def dtab_Whole.l0 : Nat → List (S37) → Int → Bool → List Int → List (S37) → Int → Int → Option (Bool)
  | 0, _, _, _, _, _, _, _ => none
  | k + 1, x0, x3, x4, x5, x31, x32, x33 => if x33 < x32 then (if 0 ≤ x33 then (if x33 < (x31.length : Int) then ((dtab_fits.f ((rd_T37 x31 x33).f0) ((rd_T37 x31 x33).f1) ((rd_T37 x31 x33).f2) x3).bind fun t163 => (if t163 = true then (if 0 ≤ ((rd_T37 x31 x33).f1) then (dtab_Whole.l1 k x0 x3 x4 x5 x31 x32 x33 (shl .i64 1 ((rd_T37 x31 x33).f1)) 0 ((rd_T37 x31 x33).f0) ((rd_T37 x31 x33).f1) ((rd_T37 x31 x33).f2)) else (none)) else (dtab_Whole.j3 k x0 x3 false x5))) else (none)) else (none)) else (dtab_Whole.j3 k x0 x3 x4 x5)
def dtab_Whole.l1 : Nat → List (S37) → Int → Bool → List Int → List (S37) → Int → Int → Int → Int → Int → Int → Int → Option (Bool)
  | 0, _, _, _, _, _, _, _, _, _, _, _, _ => none
  | k + 1, x0, x3, x4, x5, x31, x32, x33, x43, x44, x163000, x163001, x163002 => if x44 < x43 then (if 0 ≤ (wrap64 ((wrap64 ((wrap64 ((wrap64 (x163000)) * x3)) + x163002)) + x44)) then (if (wrap64 ((wrap64 ((wrap64 ((wrap64 (x163000)) * x3)) + x163002)) + x44)) < (x5.length : Int) then (if (rd x5 (wrap64 ((wrap64 ((wrap64 ((wrap64 (x163000)) * x3)) + x163002)) + x44))) = 0 then (dtab_Whole.l1 k x0 x3 x4 (x5.set ((wrap64 ((wrap64 ((wrap64 ((wrap64 (x163000)) * x3)) + x163002)) + x44)) : Int).toNat 1) x31 x32 x33 x43 (wrap64 (x44 + 1)) x163000 x163001 x163002) else (dtab_Whole.j3 k x0 x3 false x5)) else (none)) else (none)) else (dtab_Whole.l0 k x0 x3 x4 x5 x31 x32 (wrap64 (x33 + 1)))
end
def dtab_Whole.f (k : Nat) (l0 : List (S37)) : Option (Bool) := if (l0.length : Int) < 2 then (dtab_Whole.j0 k l0 (l0.length : Int) true) else (if (l0.length : Int) > 4096 then (dtab_Whole.j0 k l0 (l0.length : Int) true) else (dtab_Whole.j0 k l0 (l0.length : Int) ((Go.bits .and .i64 (l0.length : Int) (wrap64 ((l0.length : Int) - 1))) != 0)))
theorem dtab_Whole.mono_l : ∀ k, (∀ y0 y1 y2, LeO (dtab_Whole.j0 k y0 y1 y2) (dtab_Whole.j0 (k + 1) y0 y1 y2)) ∧ (∀ y0 y1 y2 y3, LeO (dtab_Whole.j3 k y0 y1 y2 y3) (dtab_Whole.j3 (k + 1) y0 y1 y2 y3)) ∧ (∀ y0 y1 y2 y3 y4 y5, LeO (dtab_Whole.l2 k y0 y1 y2 y3 y4 y5) (dtab_Whole.l2 (k + 1) y0 y1 y2 y3 y4 y5)) ∧ (∀ y0 y1 y2 y3 y4 y5 y6 y7 y8 y9, LeO (dtab_Whole.l3 k y0 y1 y2 y3 y4 y5 y6 y7 y8 y9) (dtab_Whole.l3 (k + 1) y0 y1 y2 y3 y4 y5 y6 y7 y8 y9)) ∧ (∀ y0 y1 y2 y3 y4 y5 y6, LeO (dtab_Whole.l0 k y0 y1 y2 y3 y4 y5 y6) (dtab_Whole.l0 (k + 1) y0 y1 y2 y3 y4 y5 y6)) ∧ (∀ y0 y1 y2 y3 y4 y5 y6 y7 y8 y9 y10 y11, LeO (dtab_Whole.l1 k y0 y1 y2 y3 y4 y5 y6 y7 y8 y9 y10 y11) (dtab_Whole.l1 (k + 1) y0 y1 y2 y3 y4 y5 y6 y7 y8 y9 y10 y11))
  | 0 => ⟨fun _ _ _ r h => by simp [dtab_Whole.j0] at h, fun _ _ _ _ r h => by simp [dtab_Whole.j3] at h, fun _ _ _ _ _ _ r h => by simp [dtab_Whole.l2] at h, fun _ _ _ _ _ _ _ _ _ _ r h => by simp [dtab_Whole.l3] at h, fun _ _ _ _ _ _ _ r h => by simp [dtab_Whole.l0] at h, fun _ _ _ _ _ _ _ _ _ _ _ _ r h => by simp [dtab_Whole.l1] at h⟩
  | k + 1 => by
    obtain ⟨ih0, ih1, ih2, ih3, ih4, ih5⟩ := dtab_Whole.mono_l k
    refine ⟨?_, ?_, ?_, ?_, ?_, ?_⟩
    · intro y0 y1 y2
      unfold dtab_Whole.j0
      repeat' first
      | (with_reducible exact ih0 _ _ _)
      | (with_reducible exact ih1 _ _ _ _)
      | (with_reducible exact ih2 _ _ _ _ _ _)
      | (with_reducible exact ih3 _ _ _ _ _ _ _ _ _ _)
      | (with_reducible exact ih4 _ _ _ _ _ _ _)
      | (with_reducible exact ih5 _ _ _ _ _ _ _ _ _ _ _ _)
      | (with_reducible exact LeO.refl _)
      | (with_reducible exact LeO.none _)
      | (with_reducible refine LeO.ite ?_ ?_)
      | (with_reducible refine LeO.bind ?_ (fun _ => ?_))
      | exact ih0 _ _ _
      | exact ih1 _ _ _ _
      | exact ih2 _ _ _ _ _ _
      | exact ih3 _ _ _ _ _ _ _ _ _ _
      | exact ih4 _ _ _ _ _ _ _
      | exact ih5 _ _ _ _ _ _ _ _ _ _ _ _
      | exact LeO.none _
      | refine LeO.ite ?_ ?_
      | refine LeO.bind ?_ (fun _ => ?_)
    · intro y0 y1 y2 y3
      unfold dtab_Whole.j3
      repeat' first
      | (with_reducible exact ih0 _ _ _)
      | (with_reducible exact ih1 _ _ _ _)
      | (with_reducible exact ih2 _ _ _ _ _ _)
      | (with_reducible exact ih3 _ _ _ _ _ _ _ _ _ _)
      | (with_reducible exact ih4 _ _ _ _ _ _ _)
      | (with_reducible exact ih5 _ _ _ _ _ _ _ _ _ _ _ _)
      | (with_reducible exact LeO.refl _)
      | (with_reducible exact LeO.none _)
      | (with_reducible refine LeO.ite ?_ ?_)
      | (with_reducible refine LeO.bind ?_ (fun _ => ?_))
      | exact ih0 _ _ _
      | exact ih1 _ _ _ _
      | exact ih2 _ _ _ _ _ _
      | exact ih3 _ _ _ _ _ _ _ _ _ _
      | exact ih4 _ _ _ _ _ _ _
      | exact ih5 _ _ _ _ _ _ _ _ _ _ _ _
      | exact LeO.none _
      | refine LeO.ite ?_ ?_
      | refine LeO.bind ?_ (fun _ => ?_)
    · intro y0 y1 y2 y3 y4 y5
      unfold dtab_Whole.l2
      repeat' first
      | (with_reducible exact ih0 _ _ _)
      | (with_reducible exact ih1 _ _ _ _)
      | (with_reducible exact ih2 _ _ _ _ _ _)
      | (with_reducible exact ih3 _ _ _ _ _ _ _ _ _ _)
      | (with_reducible exact ih4 _ _ _ _ _ _ _)
      | (with_reducible exact ih5 _ _ _ _ _ _ _ _ _ _ _ _)
      | (with_reducible exact LeO.refl _)
      | (with_reducible exact LeO.none _)
      | (with_reducible refine LeO.ite ?_ ?_)
      | (with_reducible refine LeO.bind ?_ (fun _ => ?_))
      | exact ih0 _ _ _
      | exact ih1 _ _ _ _
      | exact ih2 _ _ _ _ _ _
      | exact ih3 _ _ _ _ _ _ _ _ _ _
      | exact ih4 _ _ _ _ _ _ _
      | exact ih5 _ _ _ _ _ _ _ _ _ _ _ _
      | exact LeO.none _
      | refine LeO.ite ?_ ?_
      | refine LeO.bind ?_ (fun _ => ?_)
    · intro y0 y1 y2 y3 y4 y5 y6 y7 y8 y9
      unfold dtab_Whole.l3
      repeat' first
      | (with_reducible exact ih0 _ _ _)
      | (with_reducible exact ih1 _ _ _ _)
      | (with_reducible exact ih2 _ _ _ _ _ _)
      | (with_reducible exact ih3 _ _ _ _ _ _ _ _ _ _)
      | (with_reducible exact ih4 _ _ _ _ _ _ _)
      | (with_reducible exact ih5 _ _ _ _ _ _ _ _ _ _ _ _)
      | (with_reducible exact LeO.refl _)
      | (with_reducible exact LeO.none _)
      | (with_reducible refine LeO.ite ?_ ?_)
      | (with_reducible refine LeO.bind ?_ (fun _ => ?_))
      | exact ih0 _ _ _
      | exact ih1 _ _ _ _
      | exact ih2 _ _ _ _ _ _
      | exact ih3 _ _ _ _ _ _ _ _ _ _
      | exact ih4 _ _ _ _ _ _ _
      | exact ih5 _ _ _ _ _ _ _ _ _ _ _ _
      | exact LeO.none _
      | refine LeO.ite ?_ ?_
      | refine LeO.bind ?_ (fun _ => ?_)
    · intro y0 y1 y2 y3 y4 y5 y6
      unfold dtab_Whole.l0
      repeat' first
      | (with_reducible exact ih0 _ _ _)
      | (with_reducible exact ih1 _ _ _ _)
      | (with_reducible exact ih2 _ _ _ _ _ _)
      | (with_reducible exact ih3 _ _ _ _ _ _ _ _ _ _)
      | (with_reducible exact ih4 _ _ _ _ _ _ _)
      | (with_reducible exact ih5 _ _ _ _ _ _ _ _ _ _ _ _)
      | (with_reducible exact LeO.refl _)
      | (with_reducible exact LeO.none _)
      | (with_reducible refine LeO.ite ?_ ?_)
      | (with_reducible refine LeO.bind ?_ (fun _ => ?_))
      | exact ih0 _ _ _
      | exact ih1 _ _ _ _
      | exact ih2 _ _ _ _ _ _
      | exact ih3 _ _ _ _ _ _ _ _ _ _
      | exact ih4 _ _ _ _ _ _ _
      | exact ih5 _ _ _ _ _ _ _ _ _ _ _ _
      | exact LeO.none _
      | refine LeO.ite ?_ ?_
      | refine LeO.bind ?_ (fun _ => ?_)
    · intro y0 y1 y2 y3 y4 y5 y6 y7 y8 y9 y10 y11
      unfold dtab_Whole.l1
      repeat' first
      | (with_reducible exact ih0 _ _ _)
      | (with_reducible exact ih1 _ _ _ _)
      | (with_reducible exact ih2 _ _ _ _ _ _)
      | (with_reducible exact ih3 _ _ _ _ _ _ _ _ _ _)
      | (with_reducible exact ih4 _ _ _ _ _ _ _)
      | (with_reducible exact ih5 _ _ _ _ _ _ _ _ _ _ _ _)
      | (with_reducible exact LeO.refl _)
      | (with_reducible exact LeO.none _)
      | (with_reducible refine LeO.ite ?_ ?_)
      | (with_reducible refine LeO.bind ?_ (fun _ => ?_))
      | exact ih0 _ _ _
      | exact ih1 _ _ _ _
      | exact ih2 _ _ _ _ _ _
      | exact ih3 _ _ _ _ _ _ _ _ _ _
      | exact ih4 _ _ _ _ _ _ _
      | exact ih5 _ _ _ _ _ _ _ _ _ _ _ _
      | exact LeO.none _
      | refine LeO.ite ?_ ?_
      | refine LeO.bind ?_ (fun _ => ?_)
theorem dtab_Whole.mono : ∀ a0 k, LeO (dtab_Whole.f k a0) (dtab_Whole.f (k + 1) a0) := by
  intro a0 k
  obtain ⟨ih0, ih1, ih2, ih3, ih4, ih5⟩ := dtab_Whole.mono_l k
  unfold dtab_Whole.f
  repeat' first
      | (with_reducible exact ih0 _ _ _)
      | (with_reducible exact ih1 _ _ _ _)
      | (with_reducible exact ih2 _ _ _ _ _ _)
      | (with_reducible exact ih3 _ _ _ _ _ _ _ _ _ _)
      | (with_reducible exact ih4 _ _ _ _ _ _ _)
      | (with_reducible exact ih5 _ _ _ _ _ _ _ _ _ _ _ _)
      | (with_reducible exact LeO.refl _)
      | (with_reducible exact LeO.none _)
      | (with_reducible refine LeO.ite ?_ ?_)
      | (with_reducible refine LeO.bind ?_ (fun _ => ?_))
      | exact ih0 _ _ _
      | exact ih1 _ _ _ _
      | exact ih2 _ _ _ _ _ _
      | exact ih3 _ _ _ _ _ _ _ _ _ _
      | exact ih4 _ _ _ _ _ _ _
      | exact ih5 _ _ _ _ _ _ _ _ _ _ _ _
      | exact LeO.none _
      | refine LeO.ite ?_ ?_
      | refine LeO.bind ?_ (fun _ => ?_)
set_option maxHeartbeats 8000000 in
set_option maxRecDepth 100000 in
theorem dtab_Whole.calls (k : Nat) (A0 : Option Addr) (c0 : Nat) (l0 : List (S37)) (r : Bool) (w : World) (hr0 : Kd.C k37 w A0 l0.length l0) (hc0 : l0.length ≤ c0) (h : dtab_Whole.f k l0 = some r) :
    Calls Try.prog 13 #[.slice A0 l0.length c0] w fun e w' => e = .returned (.bool r) ∧ Below w.heap.size w w' := by
  have hu37 := Try.underlying37
  have HR0 := Aside0.mk hr0
  have HC0 := Aside0.mk hc0
  clear hr0 hc0
  have HB := Aside0.mk (Below.refl w.heap.size w)
  have H : (if (l0.length : Int) < 2 then (dtab_Whole.j0 k l0 (l0.length : Int) true) else (if (l0.length : Int) > 4096 then (dtab_Whole.j0 k l0 (l0.length : Int) true) else (dtab_Whole.j0 k l0 (l0.length : Int) ((Go.bits .and .i64 (l0.length : Int) (wrap64 ((l0.length : Int) - 1))) != 0)))) = some r := h
  clear h
  have HC2 := Aside0.mk H
  clear H
  go_enter Try.func13, Try.ntmps13
  go_upto_region 2 with (go_step3)
  go_cut [27] (fun v27 wc => ∃ (kq : Nat) (x27_1 : Bool), v27 = .bool x27_1 ∧ Aside0 (dtab_Whole.j0 kq l0 (l0.length : Int) x27_1 = some r) ∧ Aside0 (kq ≤ k) ∧ Aside0 (Below w.heap.size w wc))
  case first =>
    have H := HC2.out
    clear HC2
    by_cases c3 : (l0.length : Int) < 2
    · rw [if_pos c3] at H
      have c3b0 : decide ((l0.length : Int) < 2) = true := decide_eq_true c3
      have c3b1 : decide (l0.length < 2) = true := decide_eq_true (by omega)
      clear c3
      (first | rw [c3b0] | (simp only [i64_w, i32_w]; rw [c3b0]) | skip)
      have H' := Aside0.mk H
      clear H
      go_wp2
      go_meet
      case rel => exact ⟨_, (true), (by first | rfl | (simp; done) | (simp [*]; done)), H', ⟨by first | omega | exact Nat.le_refl _⟩, ⟨by repeat (first | (with_reducible first | exact HB.out | apply below_alloc | apply pw_below_drewN | apply below_drew1) | exact HB.out)⟩⟩
    · rw [if_neg c3] at H
      have c3b0 : decide ((l0.length : Int) < 2) = false := decide_eq_false c3
      have c3b1 : decide (l0.length < 2) = false := decide_eq_false (by omega)
      clear c3
      (first | rw [c3b0] | (simp only [i64_w, i32_w]; rw [c3b0]) | skip)
      by_cases c4 : (l0.length : Int) > 4096
      · rw [if_pos c4] at H
        have c4b0 : decide (4096 < (l0.length : Int)) = true := decide_eq_true c4
        have c4b1 : decide (4096 < l0.length) = true := decide_eq_true (by omega)
        clear c4
        have H' := Aside0.mk H
        clear H
        go_wp2
        go_meet
        case rel => exact ⟨_, (true), (by first | rfl | (simp; done) | (simp [*]; done)), H', ⟨by first | omega | exact Nat.le_refl _⟩, ⟨by repeat (first | (with_reducible first | exact HB.out | apply below_alloc | apply pw_below_drewN | apply below_drew1) | exact HB.out)⟩⟩
      · rw [if_neg c4] at H
        have c4b0 : decide (4096 < (l0.length : Int)) = false := decide_eq_false c4
        have c4b1 : decide (4096 < l0.length) = false := decide_eq_false (by omega)
        clear c4
        have H' := Aside0.mk H
        clear H
        go_wp2
        go_meet
        case rel => exact ⟨_, (((Go.bits .and .i64 (l0.length : Int) (wrap64 ((l0.length : Int) - 1))) != 0)), (by first | rfl | (simp; done) | (simp [*]; done)), H', ⟨by first | omega | exact Nat.le_refl _⟩, ⟨by repeat (first | (with_reducible first | exact HB.out | apply below_alloc | apply pw_below_drewN | apply below_drew1) | exact HB.out)⟩⟩
  case rest =>
    clear HC2
    try clear c1
    try clear p2
    try clear c3
    try clear c3b0
    try clear c3b1
    try clear c4
    try clear c4b0
    try clear c4b1
    obtain ⟨kq, x27_1, rfl, HA, HJ1, HB⟩ := hcut
    cases kq with
    | zero => exact absurd HA.out (by simp [dtab_Whole.j0])
    | succ kj1 =>
      have H := HA.out
      clear HA
      simp only [dtab_Whole.j0] at H
      by_cases c5 : x27_1 = true
      · subst c5
        have H1 : (some false) = some r := by rw [if_pos rfl] at H; exact H
        clear H
        have H := H1
        clear H1
        obtain rfl := Option.some.inj H
        go_wp2
        go_ret
        exact ⟨by first | rfl | (simp [errW_none, errW_some] <;> rfl) | (simp [*, errW_none, errW_some] <;> rfl), by repeat (first | (with_reducible first | exact HB.out | apply below_alloc | apply pw_below_drewN | apply below_drew1) | exact HB.out)⟩
      · replace c5 := Bool.eq_false_iff.mpr c5
        subst c5
        have H1 : (if 0 ≤ (wrap64 (256 * (l0.length : Int))) then (if (wrap64 (256 * (l0.length : Int)) : Int).toNat ≤ 35184372088832 then (dtab_Whole.l0 kj1 l0 (l0.length : Int) true (List.replicate (wrap64 (256 * (l0.length : Int)) : Int).toNat 0) l0 (l0.length : Int) 0) else (none)) else (none)) = some r := by rw [if_neg (show ¬ (false = true) by decide)] at H; exact H
        clear H
        have H := H1
        clear H1
        obtain ⟨ji6, hji6⟩ : ∃ j_ : Int, (wrap64 (256 * (l0.length : Int))) = j_ := ⟨_, rfl⟩
        replace H : (if 0 ≤ (ji6) then (if (ji6 : Int).toNat ≤ 35184372088832 then (dtab_Whole.l0 kj1 l0 (l0.length : Int) true (List.replicate (ji6 : Int).toNat 0) l0 (l0.length : Int) 0) else (none)) else (none)) = some r := by first | (rw [hji6] at H; exact H) | (simp only [hji6] at H ⊢; exact H)
        have hji6w : (IntKind.i64.wrap (256 * (l0.length : Int))) = ji6 := (i64_w _).trans hji6
        by_cases c7 : 0 ≤ (ji6)
        · rw [if_pos c7] at H
          have c7b0 := eq_true c7
          have c7b1 : decide (0 ≤ (ji6)) = true := decide_eq_true c7
          clear c7
          by_cases c8 : (ji6 : Int).toNat ≤ 35184372088832
          · rw [if_pos c8] at H
            have c8b0 := eq_true c8
            have c8b1 : decide ((ji6 : Int).toNat ≤ 35184372088832) = true := decide_eq_true c8
            clear c8
            obtain ⟨y158, hy158⟩ : ∃ y_ : List Int, y_ = (List.replicate (ji6 : Int).toNat 0) := ⟨_, rfl⟩
            replace H : (dtab_Whole.l0 kj1 l0 (l0.length : Int) true y158 l0 (l0.length : Int) 0) = some r := by first | (rw [hy158]; with_reducible exact H) | (have H2_ := (Option.bind_some _ _).symm.trans H; rw [hy158]; with_reducible exact H2_) | (have H2_ := (Option.bind_some _ _).symm.trans H; with_reducible exact H2_) | with_reducible exact H | (rw [hy158]; exact H) | exact H
            have Ny158 := Aside0.mk hy158
            clear hy158
            have HC9 := Aside0.mk H
            clear H
            go_upto_block 0 with (first | go_step3 | ((with_reducible refine gate_dst (N := 30) rfl ?_); refine Kd.R_make (Kd.int .i64) _ 3 rfl (N := 30) rfl 22 _ _ rfl ji6 rfl rfl Try.underlying22 (.int .i64 0) 8 info3 rfl (by decide) (by omega) 0 (ok := fun _ => True) (okp := fun _ => True) rfl (fun _ hk => hk) trivial (of_decide_eq_true (by first | (with_reducible assumption) | assumption)) (Nat.le_trans (Nat.mul_le_mul_right _ (of_decide_eq_true (by first | (with_reducible assumption) | assumption) : ji6.toNat ≤ 35184372088832)) (by omega)) (Below.refl _ _) (Nat.le_refl _) ?_; intro v159 w10 ho11 hb hg_ hnew_; clear hg_ hnew_; (first | rw [← Ny158.out] at ho11 | (simp only [Int.reduceToNat] at ho11; rw [← Ny158.out] at ho11)); have n0_ := Aside0.mk (Kd.R_lower ho11 (below_size (by repeat (first | (with_reducible first | exact HB.out | apply below_alloc | apply pw_below_drewN | apply below_drew1) | exact HB.out)))); have n1_ := Aside0.mk (below_step (by repeat (first | (with_reducible first | exact HB.out | apply below_alloc | apply pw_below_drewN | apply below_drew1) | exact HB.out)) hb); clear HB; have HO160 := n0_; have HB := n1_; clear n0_ n1_; clear hb ho11))
            (try simp only [Act.put, List.setIfInBounds_toArray, List.set_cons_zero, List.set_cons_succ])
            go_cut [4] (fun v4 wc => ∃ (kq : Nat) (x4_8 : Bool) (x5_8 : List Int), v4 = .bool x4_8 ∧ Aside0 (dtab_Whole.j3 kq l0 (l0.length : Int) x4_8 x5_8 = some r) ∧ Aside0 (kq ≤ kj1) ∧ Aside0 (Kd.R (Kd.int .i64) 3 wc w.heap.size (fun _ => True) v159 x5_8) ∧ Aside0 (Below w.heap.size w wc))
            case first =>
              have H := HC9.out
              clear HC9
              have H' := Aside0.mk H
              clear H
              go_wp2
              go_loopg [4, 33] kj1 (fun kq v4 v33 w' => ∃ (x4_2 : Bool) (x5_2 : List Int) (x33_2 : Int), v4 = .bool x4_2 ∧ v33 = .int .i64 x33_2 ∧ Aside0 (dtab_Whole.l0 kq l0 (l0.length : Int) x4_2 x5_2 l0 (l0.length : Int) x33_2 = some r) ∧ Aside0 (kq ≤ kj1) ∧ Aside0 (Kd.R (Kd.int .i64) 3 w' w.heap.size (fun _ => True) v159 x5_2) ∧ Aside0 (Below w.heap.size w w'))
              case atStart => exact ⟨(true), (y158), (0), (by first | rfl | (simp; done) | (simp [*]; done)), (by first | rfl | (simp; done) | (simp [*]; done)), H', ⟨Nat.le_refl _⟩, ⟨by (with_reducible repeat (first | apply Kd.R_alloc | apply Kd.R_drewN | apply Kd.R_drew)); exact HO160.out⟩, ⟨by repeat (first | (with_reducible first | exact HB.out | apply below_alloc | apply pw_below_drewN | apply below_drew1) | exact HB.out)⟩⟩
              case round =>
                clear H'
                try clear c1
                try clear p2
                try clear c3
                try clear c3b0
                try clear c3b1
                try clear c4
                try clear c4b0
                try clear c4b1
                try clear c5
                try clear p6
                try clear c7
                try clear c7b0
                try clear c7b1
                try clear c8
                try clear c8b0
                try clear c8b1
                try clear p2
                obtain ⟨x4_2, x5_2, x33_2, rfl, rfl, HA, HK2, HO_5, HB⟩ := hrel
                cases gk with
                | zero => exact absurd HA.out (by simp [dtab_Whole.l0])
                | succ k2 =>
                  have H := HA.out
                  clear HA
                  simp only [dtab_Whole.l0] at H
                  by_cases c12 : x33_2 < (l0.length : Int)
                  · rw [if_pos c12] at H
                    have c12b0 : decide (x33_2 < (l0.length : Int)) = true := decide_eq_true c12
                    clear c12
                    (first | rw [c12b0] | (simp only [i64_w, i32_w]; rw [c12b0]) | skip)
                    by_cases c13 : 0 ≤ x33_2
                    · rw [if_pos c13] at H
                      have c13b0 : decide (0 ≤ x33_2) = true := decide_eq_true c13
                      clear c13
                      by_cases c14 : x33_2 < (l0.length : Int)
                      · rw [if_pos c14] at H
                        have c14b0 : decide (x33_2 < (l0.length : Int)) = true := decide_eq_true c14
                        clear c14
                        replace H := Option.bind_eq_some_iff.mp H
                        obtain ⟨t163, A150, H⟩ := H
                        replace H : (if t163 = true then (if 0 ≤ ((rd_T37 l0 x33_2).f1) then (dtab_Whole.l1 k2 l0 (l0.length : Int) x4_2 x5_2 l0 (l0.length : Int) x33_2 (shl .i64 1 ((rd_T37 l0 x33_2).f1)) 0 ((rd_T37 l0 x33_2).f0) ((rd_T37 l0 x33_2).f1) ((rd_T37 l0 x33_2).f2)) else (none)) else (dtab_Whole.j3 k2 l0 (l0.length : Int) false x5_2)) = some r := H
                        have A15 := Aside0.mk A150
                        clear A150
                        by_cases c16 : t163 = true
                        · subst c16
                          have H1 : (if 0 ≤ ((rd_T37 l0 x33_2).f1) then (dtab_Whole.l1 k2 l0 (l0.length : Int) x4_2 x5_2 l0 (l0.length : Int) x33_2 (shl .i64 1 ((rd_T37 l0 x33_2).f1)) 0 ((rd_T37 l0 x33_2).f0) ((rd_T37 l0 x33_2).f1) ((rd_T37 l0 x33_2).f2)) else (none)) = some r := by rw [if_pos rfl] at H; exact H
                          clear H
                          have H := H1
                          clear H1
                          by_cases c17 : 0 ≤ ((rd_T37 l0 x33_2).f1)
                          · rw [if_pos c17] at H
                            have c17b0 := eq_true c17
                            have c17b1 : decide (0 ≤ ((rd_T37 l0 x33_2).f1)) = true := decide_eq_true c17
                            clear c17
                            obtain ⟨ji18, hji18⟩ : ∃ j_ : Int, (shl .i64 1 ((rd_T37 l0 x33_2).f1)) = j_ := ⟨_, rfl⟩
                            replace H : (dtab_Whole.l1 k2 l0 (l0.length : Int) x4_2 x5_2 l0 (l0.length : Int) x33_2 ji18 0 ((rd_T37 l0 x33_2).f0) ((rd_T37 l0 x33_2).f1) ((rd_T37 l0 x33_2).f2)) = some r := by first | (rw [hji18] at H; exact H) | (simp only [hji18] at H ⊢; exact H)
                            (try rw [hji18] at A15)
                            have hji18_ : (IntKind.i64.wrap (1 * 2 ^ min ((rd_T37 l0 x33_2).f1).toNat 64)) = ji18 := hji18
                            have hji18z : ((rd_T37 l0 x33_2).f1) ≤ 64 → (IntKind.i64.wrap (1 * 2 ^ ((rd_T37 l0 x33_2).f1).toNat)) = ji18 := shl_small hji18
                            have hji18u : (IntKind.i64.wrap (2 ^ min ((rd_T37 l0 x33_2).f1).toNat 64)) = ji18 := by have h_ := hji18_; rw [Int.one_mul] at h_; exact h_
                            have hji18v : ((rd_T37 l0 x33_2).f1) ≤ 64 → (IntKind.i64.wrap (2 ^ ((rd_T37 l0 x33_2).f1).toNat)) = ji18 := fun hle_ => by have h_ := hji18z hle_; rw [Int.one_mul] at h_; exact h_
                            have hji18y : (wrap64 (1 * 2 ^ min ((rd_T37 l0 x33_2).f1).toNat 64)) = ji18 := (i64_w _).symm.trans hji18_
                            have hji18x : ((rd_T37 l0 x33_2).f1) ≤ 64 → (wrap64 (1 * 2 ^ ((rd_T37 l0 x33_2).f1).toNat)) = ji18 := fun h_ => (i64_w _).symm.trans (hji18z h_)
                            have H' := Aside0.mk H
                            clear H
                            have p161 : 0 ≤ (x33_2 : Int) := of_decide_eq_true (by first | (with_reducible assumption) | assumption)
                            have q161 : x33_2 < (l0.length : Int) := of_decide_eq_true (by first | (with_reducible assumption) | assumption)
                            obtain ⟨ad161, e161, hx161_0, hx161_1, hx161_2⟩ := at_T37 HR0.out x33_2 p161 q161
                            cases e161
                            replace hx161_0 := (HB.out.cell (World.block_lt_of_cell? w _ hx161_0)).trans hx161_0
                            replace hx161_1 := (HB.out.cell (World.block_lt_of_cell? w _ hx161_1)).trans hx161_1
                            replace hx161_2 := (HB.out.cell (World.block_lt_of_cell? w _ hx161_2)).trans hx161_2
                            replace p161 := eq_true p161
                            replace q161 := eq_true q161
                            go_wp2_with (first | go_step3 | ((with_reducible refine gate_dst (N := 7) rfl ?_); refine box_event ?hg (N := 7) ?hd (cs := #[.int .u8 0, .int .i64 0, .int .i64 0]) (t := 37) ?hr ?_; (case hd => rfl); (case hg => rfl); (case hr => first | (go_simp; done) | (go_simp; rfl)); intro gb162 hg w19 hbox hb; have n0_ := Aside0.mk (Kd.R_below (by (with_reducible repeat (first | apply Kd.R_alloc | apply Kd.R_drewN | apply Kd.R_drew)); exact HO_5.out) hb); have n1_ := Aside0.mk (below_step (by repeat (first | (with_reducible first | exact HB.out | apply below_alloc | apply pw_below_drewN | apply below_drew1) | exact HB.out)) hb); have n2_ := Aside0.mk (hbox); have n3_ := Aside0.mk ((by rw [hg]; exact (below_size (by repeat (first | (with_reducible first | exact HB.out | apply below_alloc | apply pw_below_drewN | apply below_drew1) | exact HB.out))) : w.heap.size ≤ gb162)); have n4_ := Aside0.mk ((by rw [hg]; exact (below_size (by repeat (first | (with_reducible first | exact HB.out | apply below_alloc | apply pw_below_drewN | apply below_drew1) | exact HB.out))) : w.heap.size ≤ gb162)); clear HO_5; clear HB; have HO_5 := n0_; have HB := n1_; have BK162 := n2_; have GW162 := n3_; have GE162 := n4_; clear n0_ n1_ n2_ n3_ n4_; clear hb hbox hg; have hcz20_0 : w19.cell? ⟨gb162, 0, none⟩ = some (.int .u8 0) := (blk_cell BK162.out 0).trans rfl; have hcz20_1 : w19.cell? ⟨gb162, 1, none⟩ = some (.int .i64 0) := (blk_cell BK162.out 1).trans rfl; have hcz20_2 : w19.cell? ⟨gb162, 2, none⟩ = some (.int .i64 0) := (blk_cell BK162.out 2).trans rfl; have hfz20_0 := blk_frozen BK162.out 0; have hfz20_1 := blk_frozen BK162.out 1; have hfz20_2 := blk_frozen BK162.out 2) | ((with_reducible refine gate_callee (f := 26) rfl ?_); refine goesL_ (some 39) rfl rfl Try.func26 (by kernel_rfl) rfl #[.agg #[.int .u8 ((rd_T37 l0 x33_2).f0), .int .i64 ((rd_T37 l0 x33_2).f1), .int .i64 ((rd_T37 l0 x33_2).f2)], .int .i64 (l0.length : Int)] rfl (by (try simp only [List.map_toArray, List.map_cons, List.map_nil]); first | done | rfl | (simp only [List.length_drop, List.length_take]; rfl)) ?_; (with_reducible refine (dtab_fits.calls ((rd_T37 l0 x33_2).f0) ((rd_T37 l0 x33_2).f1) ((rd_T37 l0 x33_2).f2) (l0.length : Int) true _ A15.out).mono ?_); rintro e w21 ⟨rfl, hb⟩; refine ⟨_, rfl, ?_⟩; have n0_ := Aside0.mk (Kd.R_below (by (with_reducible repeat (first | apply Kd.R_alloc | apply Kd.R_drewN | apply Kd.R_drew)); exact (Kd.R_mono (Kd.R_far (p := ⟨gb162, 2, none⟩) (Kd.R_far (p := ⟨gb162, 1, none⟩) (Kd.R_far (p := ⟨gb162, 0, none⟩) (Kd.R_types HO_5.out BK162.out (by decide)) (fun _ hk => hk.2) (.int .u8 ((rd_T37 l0 x33_2).f0))) (fun _ hk => hk.2) (.int .i64 ((rd_T37 l0 x33_2).f1))) (fun _ hk => hk.2) (.int .i64 ((rd_T37 l0 x33_2).f2))) (fun _ h_ => h_.1))) hb); have n1_ := Aside0.mk (blk_below (g := gb162) (o := .cells #[.int .u8 ((rd_T37 l0 x33_2).f0), .int .i64 ((rd_T37 l0 x33_2).f1), .int .i64 ((rd_T37 l0 x33_2).f2)] 37 (0, 0)) (by (with_reducible repeat (first | refine blk_drewN ?_ _ | refine blk_drew ?_ | refine blk_alloc ?_ _)); refine blk_put (cs := #[.int .u8 ((rd_T37 l0 x33_2).f0), .int .i64 ((rd_T37 l0 x33_2).f1), .int .i64 0]) ?_ 2 _ rfl; (with_reducible repeat (first | refine blk_drewN ?_ _ | refine blk_drew ?_ | refine blk_alloc ?_ _)); refine blk_put (cs := #[.int .u8 ((rd_T37 l0 x33_2).f0), .int .i64 0, .int .i64 0]) ?_ 1 _ rfl; (with_reducible repeat (first | refine blk_drewN ?_ _ | refine blk_drew ?_ | refine blk_alloc ?_ _)); refine blk_put (cs := #[.int .u8 0, .int .i64 0, .int .i64 0]) ?_ 0 _ rfl; (with_reducible repeat (first | refine blk_drewN ?_ _ | refine blk_drew ?_ | refine blk_alloc ?_ _)); exact BK162.out) hb); have n2_ := Aside0.mk (below_step (by repeat (first | (with_reducible first | exact HB.out | apply below_alloc | apply pw_below_drewN | apply below_drew1 | refine below_set ?_ GE162.out) | exact HB.out)) hb); clear HO_5; clear BK162; clear HB; have HO_5 := n0_; have BK162 := n1_; have HB := n2_; clear n0_ n1_ n2_; (try clear hb); (try clear hb2); (try clear hk); (try clear hi); have hcz22_0 : w21.cell? ⟨gb162, 0, none⟩ = some (.int .u8 ((rd_T37 l0 x33_2).f0)) := (blk_cell BK162.out 0).trans rfl; have hcz22_1 : w21.cell? ⟨gb162, 1, none⟩ = some (.int .i64 ((rd_T37 l0 x33_2).f1)) := (blk_cell BK162.out 1).trans rfl; have hcz22_2 : w21.cell? ⟨gb162, 2, none⟩ = some (.int .i64 ((rd_T37 l0 x33_2).f2)) := (blk_cell BK162.out 2).trans rfl; have hfz22_0 := blk_frozen BK162.out 0; have hfz22_1 := blk_frozen BK162.out 1; have hfz22_2 := blk_frozen BK162.out 2))
                            go_loopg [4, 44] k2 (fun kq v4 v44 w' => ∃ (x4_3 : Bool) (x5_3 : List Int) (x44_3 : Int), v4 = .bool x4_3 ∧ v44 = .int .i64 x44_3 ∧ Aside0 (dtab_Whole.l1 kq l0 (l0.length : Int) x4_3 x5_3 l0 (l0.length : Int) x33_2 ji18 x44_3 ((rd_T37 l0 x33_2).f0) ((rd_T37 l0 x33_2).f1) ((rd_T37 l0 x33_2).f2) = some r) ∧ Aside0 (kq ≤ k2) ∧ Aside0 (Kd.R (Kd.int .i64) 3 w' w.heap.size (fun _ => True) v159 x5_3) ∧ Aside0 (w'.heap[gb162]? = some (.cells #[.int .u8 ((rd_T37 l0 x33_2).f0), .int .i64 ((rd_T37 l0 x33_2).f1), .int .i64 ((rd_T37 l0 x33_2).f2)] 37 (0, 0))) ∧ Aside0 (Below w.heap.size w w'))
                            case atStart => exact ⟨(x4_2), (x5_2), (0), (by first | rfl | (simp; done) | (simp [*]; done)), (by first | rfl | (simp; done) | (simp [*]; done)), H', ⟨Nat.le_refl _⟩, ⟨by (with_reducible repeat (first | apply Kd.R_alloc | apply Kd.R_drewN | apply Kd.R_drew)); exact HO_5.out⟩, ⟨by (with_reducible repeat (first | refine blk_drewN ?_ _ | refine blk_drew ?_ | refine blk_alloc ?_ _)); exact BK162.out⟩, ⟨by repeat (first | (with_reducible first | exact HB.out | apply below_alloc | apply pw_below_drewN | apply below_drew1 | refine below_set ?_ GE162.out) | exact HB.out)⟩⟩
                            case round =>
                              clear H'
                              try clear c1
                              try clear p1
                              try clear q1
                              try clear hx1
                              try clear c2
                              try clear p2
                              try clear c3
                              try clear c3b0
                              try clear c3b1
                              try clear c4
                              try clear c4b0
                              try clear c4b1
                              try clear c5
                              try clear p6
                              try clear c7
                              try clear c7b0
                              try clear c7b1
                              try clear c8
                              try clear c8b0
                              try clear c8b1
                              try clear c12
                              try clear c12b0
                              try clear c13
                              try clear c13b0
                              try clear c14
                              try clear c14b0
                              try clear c16
                              try clear p16
                              try clear q16
                              try clear hx16
                              try clear c17
                              try clear c17b0
                              try clear c17b1
                              try clear hcz20_0
                              try clear hcz20_1
                              try clear hcz20_2
                              try clear hcz22_0
                              try clear hcz22_1
                              try clear hcz22_2
                              try clear hfz20_0
                              try clear hfz20_1
                              try clear hfz20_2
                              try clear hfz22_0
                              try clear hfz22_1
                              try clear hfz22_2
                              try clear hx161_0
                              try clear hx161_1
                              try clear hx161_2
                              try clear p161
                              try clear p2
                              try clear p6
                              try clear q161
                              obtain ⟨x4_3, x5_3, x44_3, rfl, rfl, HA, HK3, HO_5, BK162, HB⟩ := hrel
                              cases gk with
                              | zero => exact absurd HA.out (by simp [dtab_Whole.l1])
                              | succ k3 =>
                                have H := HA.out
                                clear HA
                                simp only [dtab_Whole.l1] at H
                                by_cases c23 : x44_3 < ji18
                                · rw [if_pos c23] at H
                                  have c23b0 : decide (x44_3 < ji18) = true := decide_eq_true c23
                                  clear c23
                                  obtain ⟨ji24, hji24⟩ : ∃ j_ : Int, (wrap64 ((wrap64 ((wrap64 ((wrap64 (((rd_T37 l0 x33_2).f0))) * (l0.length : Int))) + ((rd_T37 l0 x33_2).f2))) + x44_3)) = j_ := ⟨_, rfl⟩
                                  replace H : (if 0 ≤ (ji24) then (if (ji24) < (x5_3.length : Int) then (if (rd x5_3 (ji24)) = 0 then (dtab_Whole.l1 k3 l0 (l0.length : Int) x4_3 (x5_3.set ((ji24) : Int).toNat 1) l0 (l0.length : Int) x33_2 ji18 (wrap64 (x44_3 + 1)) ((rd_T37 l0 x33_2).f0) ((rd_T37 l0 x33_2).f1) ((rd_T37 l0 x33_2).f2)) else (dtab_Whole.j3 k3 l0 (l0.length : Int) false x5_3)) else (none)) else (none)) = some r := by first | (rw [hji24] at H; exact H) | (simp only [hji24] at H ⊢; exact H)
                                  have hji24w : (IntKind.i64.wrap ((wrap64 ((wrap64 ((wrap64 (((rd_T37 l0 x33_2).f0))) * (l0.length : Int))) + ((rd_T37 l0 x33_2).f2))) + x44_3)) = ji24 := (i64_w _).trans hji24
                                  by_cases c25 : 0 ≤ (ji24)
                                  · rw [if_pos c25] at H
                                    have c25b0 : decide (0 ≤ (ji24)) = true := decide_eq_true c25
                                    clear c25
                                    by_cases c26 : (ji24) < (x5_3.length : Int)
                                    · rw [if_pos c26] at H
                                      have c26b0 : decide ((ji24) < (x5_3.length : Int)) = true := decide_eq_true c26
                                      clear c26
                                      by_cases c27 : (rd x5_3 (ji24)) = 0
                                      · rw [if_pos c27] at H
                                        have c27b0 : ((rd x5_3 (ji24)) == 0) = true := beq_iff_eq.mpr c27
                                        have c27b1 : ((rd x5_3 (ji24)) != 0) = false := bne_eq_false_iff_eq.mpr c27
                                        clear c27
                                        obtain ⟨y165, hy165⟩ : ∃ y_ : List Int, y_ = (x5_3.set ((ji24) : Int).toNat 1) := ⟨_, rfl⟩
                                        replace H : (dtab_Whole.l1 k3 l0 (l0.length : Int) x4_3 y165 l0 (l0.length : Int) x33_2 ji18 (wrap64 (x44_3 + 1)) ((rd_T37 l0 x33_2).f0) ((rd_T37 l0 x33_2).f1) ((rd_T37 l0 x33_2).f2)) = some r := by first | (rw [hy165]; with_reducible exact H) | (have H2_ := (Option.bind_some _ _).symm.trans H; rw [hy165]; with_reducible exact H2_) | (have H2_ := (Option.bind_some _ _).symm.trans H; with_reducible exact H2_) | with_reducible exact H | (rw [hy165]; exact H) | exact H
                                        have Ny165 := Aside0.mk hy165
                                        clear hy165
                                        have H' := Aside0.mk H
                                        clear H
                                        have hcz29_0 : wr.cell? ⟨gb162, 0, none⟩ = some (.int .u8 ((rd_T37 l0 x33_2).f0)) := (blk_cell BK162.out 0).trans rfl
                                        have hcz29_1 : wr.cell? ⟨gb162, 1, none⟩ = some (.int .i64 ((rd_T37 l0 x33_2).f1)) := (blk_cell BK162.out 1).trans rfl
                                        have hcz29_2 : wr.cell? ⟨gb162, 2, none⟩ = some (.int .i64 ((rd_T37 l0 x33_2).f2)) := (blk_cell BK162.out 2).trans rfl
                                        have hfz29_0 := blk_frozen BK162.out 0
                                        have hfz29_1 := blk_frozen BK162.out 1
                                        have hfz29_2 := blk_frozen BK162.out 2
                                        obtain ⟨Ao30, co30, eo30⟩ := Kd.R_slice HO_5.out
                                        subst eo30
                                        have p164 : 0 ≤ ((ji24) : Int) := of_decide_eq_true (by first | (with_reducible assumption) | assumption)
                                        have q164 : (ji24) < (x5_3.length : Int) := of_decide_eq_true (by first | (with_reducible assumption) | assumption)
                                        obtain ⟨ad164, e164, hx164_0⟩ := Kd.at_int (Kd.R_reads' HO_5.out).2.2 (ji24) p164 q164
                                        cases e164
                                        replace p164 := eq_true p164
                                        replace q164 := eq_true q164
                                        have p28 : 0 ≤ ((ji24) : Int) := of_decide_eq_true (by first | (with_reducible assumption) | assumption)
                                        have q28 : ((ji24) : Int) < ((x5_3.length : Int) : Int) := of_decide_eq_true (by first | (with_reducible assumption) | assumption)
                                        obtain ⟨go28, co28, eo28, gb28, gl28, cl28, HG28⟩ := Kd.R_form HO_5.out (by omega)
                                        (first | cases eo28 | (injection eo28 with ea_ en_ ec_; (first | subst ea_ | (injection ea_ with ea_; subst ea_)); subst ec_; clear en_))
                                        have GB28 := Aside0.mk gb28
                                        have GG28 := Aside0.mk HG28
                                        clear gb28 gl28 HG28
                                        (first | simp only [add_plain] at hx164_0 | skip)
                                        obtain ⟨hx28_0, hf28_0⟩ := Kd.R_celln 0 HO_5.out ((ji24) : Int) p28 q28
                                        replace p28 := eq_true p28
                                        replace q28 := eq_true q28
                                        have HP31 := Kd.R_putg HO_5.out ((ji24) : Int) 1
                                        go_wp2_with (first | go_step3 | ((with_reducible refine gate_store (t := 3) (p := 64) rfl ?_); refine store_event (t := 3) (p := 64) (v := ?vo_w32) (w1 := (wr.setCell ⟨go28, ((ji24) : Int).toNat, none⟩ (.int .i64 1))) ?hg ?ho ?hn ?hr ?_; (case ho => rfl); (case hg => rfl); (case hn => rfl); (case hr => first | (go_simp; done) | (go_simp; rfl)); intro w32 hw; have hg : wr.grownBy w32 (some go28) := (by rw [hw]; exact HP31.2); have hp_ : Kd.R (Kd.int .i64) 3 w32 w.heap.size (fun _ => True) (.slice (some ⟨go28, 0, none⟩) x5_3.length co30) y165 := (by rw [hw, Ny165.out]; exact HP31.1); clear HP31; have n0_ := Aside0.mk (hp_); have n1_ := Aside0.mk (blk_grown (g := gb162) (o := .cells #[.int .u8 ((rd_T37 l0 x33_2).f0), .int .i64 ((rd_T37 l0 x33_2).f1), .int .i64 ((rd_T37 l0 x33_2).f2)] 37 (0, 0)) (by (with_reducible repeat (first | refine blk_drewN ?_ _ | refine blk_drew ?_ | refine blk_alloc ?_ _)); exact BK162.out) hg (Kd.R_ne HO_5.out BK162.out (by decide))); have n2_ := Aside0.mk ((by rw [hw]; exact below_set (HB.out) GB28.out : Below w.heap.size w w32)); clear HO_5; clear BK162; clear HB; have HO_5 := n0_; have BK162 := n1_; have HB := n2_; clear n0_ n1_ n2_; clear hg hw hp_))
                                        subst hji24
                                        go_roundg k3
                                        case measure => have := HJ1.out; have := HK2.out; have := HK3.out; omega
                                        case rel => exact ⟨(x4_3), (y165), (wrap64 (x44_3 + 1)), (by first | rfl | (simp; done) | (simp [*]; done)), (by first | rfl | (simp; done) | (simp [*]; done)), H', ⟨by have := HJ1.out; have := HK2.out; have := HK3.out; omega⟩, ⟨by (with_reducible repeat (first | apply Kd.R_alloc | apply Kd.R_drewN | apply Kd.R_drew)); exact HO_5.out⟩, ⟨by (with_reducible repeat (first | refine blk_drewN ?_ _ | refine blk_drew ?_ | refine blk_alloc ?_ _)); exact BK162.out⟩, ⟨by repeat (first | (with_reducible first | exact HB.out | apply below_alloc | apply pw_below_drewN | apply below_drew1 | refine below_set ?_ GE162.out) | exact HB.out)⟩⟩
                                      · rw [if_neg c27] at H
                                        have c27b0 : ((rd x5_3 (ji24)) == 0) = false := beq_eq_false_iff_ne.mpr c27
                                        have c27b1 : ((rd x5_3 (ji24)) != 0) = true := bne_iff_ne.mpr c27
                                        have H' := Aside0.mk H
                                        clear H
                                        have hcz33_0 : wr.cell? ⟨gb162, 0, none⟩ = some (.int .u8 ((rd_T37 l0 x33_2).f0)) := (blk_cell BK162.out 0).trans rfl
                                        have hcz33_1 : wr.cell? ⟨gb162, 1, none⟩ = some (.int .i64 ((rd_T37 l0 x33_2).f1)) := (blk_cell BK162.out 1).trans rfl
                                        have hcz33_2 : wr.cell? ⟨gb162, 2, none⟩ = some (.int .i64 ((rd_T37 l0 x33_2).f2)) := (blk_cell BK162.out 2).trans rfl
                                        have hfz33_0 := blk_frozen BK162.out 0
                                        have hfz33_1 := blk_frozen BK162.out 1
                                        have hfz33_2 := blk_frozen BK162.out 2
                                        obtain ⟨Ao34, co34, eo34⟩ := Kd.R_slice HO_5.out
                                        subst eo34
                                        have p164 : 0 ≤ ((ji24) : Int) := of_decide_eq_true (by first | (with_reducible assumption) | assumption)
                                        have q164 : (ji24) < (x5_3.length : Int) := of_decide_eq_true (by first | (with_reducible assumption) | assumption)
                                        obtain ⟨ad164, e164, hx164_0⟩ := Kd.at_int (Kd.R_reads' HO_5.out).2.2 (ji24) p164 q164
                                        cases e164
                                        replace p164 := eq_true p164
                                        replace q164 := eq_true q164
                                        go_wp2
                                        subst hji24; subst hji18
                                        go_meet
                                        case rel => exact ⟨_, (false), (x5_3), (by first | rfl | (simp; done) | (simp [*]; done)), H', ⟨by have := HJ1.out; have := HK2.out; have := HK3.out; first | omega | exact Nat.le_refl _⟩, ⟨by (with_reducible repeat (first | apply Kd.R_alloc | apply Kd.R_drewN | apply Kd.R_drew)); exact HO_5.out⟩, ⟨by repeat (first | (with_reducible first | exact HB.out | apply below_alloc | apply pw_below_drewN | apply below_drew1 | refine below_set ?_ GE162.out) | exact HB.out)⟩⟩
                                    · rw [if_neg c26] at H
                                      exact absurd H (by simp)
                                  · rw [if_neg c25] at H
                                    exact absurd H (by simp)
                                · rw [if_neg c23] at H
                                  have c23b0 : decide (x44_3 < ji18) = false := decide_eq_false c23
                                  clear c23
                                  have H' := Aside0.mk H
                                  clear H
                                  go_wp2
                                  subst hji18
                                  go_roundg k3
                                  case measure => have := HJ1.out; have := HK2.out; have := HK3.out; omega
                                  case rel => exact ⟨(x4_3), (x5_3), (wrap64 (x33_2 + 1)), (by first | rfl | (simp; done) | (simp [*]; done)), (by first | rfl | (simp; done) | (simp [*]; done)), H', ⟨by have := HJ1.out; have := HK2.out; have := HK3.out; omega⟩, ⟨by (with_reducible repeat (first | apply Kd.R_alloc | apply Kd.R_drewN | apply Kd.R_drew)); exact HO_5.out⟩, ⟨by repeat (first | (with_reducible first | exact HB.out | apply below_alloc | apply pw_below_drewN | apply below_drew1 | refine below_set ?_ GE162.out) | exact HB.out)⟩⟩
                          · rw [if_neg c17] at H
                            exact absurd H (by simp)
                        · replace c16 := Bool.eq_false_iff.mpr c16
                          subst c16
                          have H1 : (dtab_Whole.j3 k2 l0 (l0.length : Int) false x5_2) = some r := by rw [if_neg (show ¬ (false = true) by decide)] at H; exact H
                          clear H
                          have H := H1
                          clear H1
                          have H' := Aside0.mk H
                          clear H
                          have p161 : 0 ≤ (x33_2 : Int) := of_decide_eq_true (by first | (with_reducible assumption) | assumption)
                          have q161 : x33_2 < (l0.length : Int) := of_decide_eq_true (by first | (with_reducible assumption) | assumption)
                          obtain ⟨ad161, e161, hx161_0, hx161_1, hx161_2⟩ := at_T37 HR0.out x33_2 p161 q161
                          cases e161
                          replace hx161_0 := (HB.out.cell (World.block_lt_of_cell? w _ hx161_0)).trans hx161_0
                          replace hx161_1 := (HB.out.cell (World.block_lt_of_cell? w _ hx161_1)).trans hx161_1
                          replace hx161_2 := (HB.out.cell (World.block_lt_of_cell? w _ hx161_2)).trans hx161_2
                          replace p161 := eq_true p161
                          replace q161 := eq_true q161
                          go_wp2_with (first | go_step3 | ((with_reducible refine gate_dst (N := 7) rfl ?_); refine box_event ?hg (N := 7) ?hd (cs := #[.int .u8 0, .int .i64 0, .int .i64 0]) (t := 37) ?hr ?_; (case hd => rfl); (case hg => rfl); (case hr => first | (go_simp; done) | (go_simp; rfl)); intro gb162 hg w35 hbox hb; have n0_ := Aside0.mk (Kd.R_below (by (with_reducible repeat (first | apply Kd.R_alloc | apply Kd.R_drewN | apply Kd.R_drew)); exact HO_5.out) hb); have n1_ := Aside0.mk (below_step (by repeat (first | (with_reducible first | exact HB.out | apply below_alloc | apply pw_below_drewN | apply below_drew1) | exact HB.out)) hb); have n2_ := Aside0.mk (hbox); have n3_ := Aside0.mk ((by rw [hg]; exact (below_size (by repeat (first | (with_reducible first | exact HB.out | apply below_alloc | apply pw_below_drewN | apply below_drew1) | exact HB.out))) : w.heap.size ≤ gb162)); have n4_ := Aside0.mk ((by rw [hg]; exact (below_size (by repeat (first | (with_reducible first | exact HB.out | apply below_alloc | apply pw_below_drewN | apply below_drew1) | exact HB.out))) : w.heap.size ≤ gb162)); clear HO_5; clear HB; have HO_5 := n0_; have HB := n1_; have BK162 := n2_; have GW162 := n3_; have GE162 := n4_; clear n0_ n1_ n2_ n3_ n4_; clear hb hbox hg; have hcz36_0 : w35.cell? ⟨gb162, 0, none⟩ = some (.int .u8 0) := (blk_cell BK162.out 0).trans rfl; have hcz36_1 : w35.cell? ⟨gb162, 1, none⟩ = some (.int .i64 0) := (blk_cell BK162.out 1).trans rfl; have hcz36_2 : w35.cell? ⟨gb162, 2, none⟩ = some (.int .i64 0) := (blk_cell BK162.out 2).trans rfl; have hfz36_0 := blk_frozen BK162.out 0; have hfz36_1 := blk_frozen BK162.out 1; have hfz36_2 := blk_frozen BK162.out 2) | ((with_reducible refine gate_callee (f := 26) rfl ?_); refine goesL_ (some 39) rfl rfl Try.func26 (by kernel_rfl) rfl #[.agg #[.int .u8 ((rd_T37 l0 x33_2).f0), .int .i64 ((rd_T37 l0 x33_2).f1), .int .i64 ((rd_T37 l0 x33_2).f2)], .int .i64 (l0.length : Int)] rfl (by (try simp only [List.map_toArray, List.map_cons, List.map_nil]); first | done | rfl | (simp only [List.length_drop, List.length_take]; rfl)) ?_; (with_reducible refine (dtab_fits.calls ((rd_T37 l0 x33_2).f0) ((rd_T37 l0 x33_2).f1) ((rd_T37 l0 x33_2).f2) (l0.length : Int) false _ A15.out).mono ?_); rintro e w37 ⟨rfl, hb⟩; refine ⟨_, rfl, ?_⟩; have n0_ := Aside0.mk (Kd.R_below (by (with_reducible repeat (first | apply Kd.R_alloc | apply Kd.R_drewN | apply Kd.R_drew)); exact (Kd.R_mono (Kd.R_far (p := ⟨gb162, 2, none⟩) (Kd.R_far (p := ⟨gb162, 1, none⟩) (Kd.R_far (p := ⟨gb162, 0, none⟩) (Kd.R_types HO_5.out BK162.out (by decide)) (fun _ hk => hk.2) (.int .u8 ((rd_T37 l0 x33_2).f0))) (fun _ hk => hk.2) (.int .i64 ((rd_T37 l0 x33_2).f1))) (fun _ hk => hk.2) (.int .i64 ((rd_T37 l0 x33_2).f2))) (fun _ h_ => h_.1))) hb); have n1_ := Aside0.mk (blk_below (g := gb162) (o := .cells #[.int .u8 ((rd_T37 l0 x33_2).f0), .int .i64 ((rd_T37 l0 x33_2).f1), .int .i64 ((rd_T37 l0 x33_2).f2)] 37 (0, 0)) (by (with_reducible repeat (first | refine blk_drewN ?_ _ | refine blk_drew ?_ | refine blk_alloc ?_ _)); refine blk_put (cs := #[.int .u8 ((rd_T37 l0 x33_2).f0), .int .i64 ((rd_T37 l0 x33_2).f1), .int .i64 0]) ?_ 2 _ rfl; (with_reducible repeat (first | refine blk_drewN ?_ _ | refine blk_drew ?_ | refine blk_alloc ?_ _)); refine blk_put (cs := #[.int .u8 ((rd_T37 l0 x33_2).f0), .int .i64 0, .int .i64 0]) ?_ 1 _ rfl; (with_reducible repeat (first | refine blk_drewN ?_ _ | refine blk_drew ?_ | refine blk_alloc ?_ _)); refine blk_put (cs := #[.int .u8 0, .int .i64 0, .int .i64 0]) ?_ 0 _ rfl; (with_reducible repeat (first | refine blk_drewN ?_ _ | refine blk_drew ?_ | refine blk_alloc ?_ _)); exact BK162.out) hb); have n2_ := Aside0.mk (below_step (by repeat (first | (with_reducible first | exact HB.out | apply below_alloc | apply pw_below_drewN | apply below_drew1 | refine below_set ?_ GE162.out) | exact HB.out)) hb); clear HO_5; clear BK162; clear HB; have HO_5 := n0_; have BK162 := n1_; have HB := n2_; clear n0_ n1_ n2_; (try clear hb); (try clear hb2); (try clear hk); (try clear hi)))
                          go_meet
                          case rel => exact ⟨_, (false), (x5_2), (by first | rfl | (simp; done) | (simp [*]; done)), H', ⟨by have := HJ1.out; have := HK2.out; first | omega | exact Nat.le_refl _⟩, ⟨by (with_reducible repeat (first | apply Kd.R_alloc | apply Kd.R_drewN | apply Kd.R_drew)); exact HO_5.out⟩, ⟨by repeat (first | (with_reducible first | exact HB.out | apply below_alloc | apply pw_below_drewN | apply below_drew1 | refine below_set ?_ GE162.out) | exact HB.out)⟩⟩
                      · rw [if_neg c14] at H
                        exact absurd H (by simp)
                    · rw [if_neg c13] at H
                      exact absurd H (by simp)
                  · rw [if_neg c12] at H
                    have c12b0 : decide (x33_2 < (l0.length : Int)) = false := decide_eq_false c12
                    clear c12
                    (first | rw [c12b0] | (simp only [i64_w, i32_w]; rw [c12b0]) | skip)
                    have H' := Aside0.mk H
                    clear H
                    go_wp2
                    go_meet
                    case rel => exact ⟨_, (x4_2), (x5_2), (by first | rfl | (simp; done) | (simp [*]; done)), H', ⟨by have := HJ1.out; have := HK2.out; first | omega | exact Nat.le_refl _⟩, ⟨by (with_reducible repeat (first | apply Kd.R_alloc | apply Kd.R_drewN | apply Kd.R_drew)); exact HO_5.out⟩, ⟨by repeat (first | (with_reducible first | exact HB.out | apply below_alloc | apply pw_below_drewN | apply below_drew1) | exact HB.out)⟩⟩
            case rest =>
              clear HC9
              try clear c1
              try clear p1
              try clear q1
              try clear hx1
              try clear c2
              try clear p2
              try clear q2
              try clear hx2
              try clear hf2
              try clear c3
              try clear c3b0
              try clear c3b1
              try clear c4
              try clear c4b0
              try clear c4b1
              try clear c5
              try clear p6
              try clear c7
              try clear c7b0
              try clear c7b1
              try clear c8
              try clear c8b0
              try clear c8b1
              try clear c12
              try clear c12b0
              try clear c13
              try clear c13b0
              try clear c14
              try clear c14b0
              try clear c16
              try clear p16
              try clear q16
              try clear hx16
              try clear c17
              try clear c17b0
              try clear c17b1
              try clear c23
              try clear c23b0
              try clear c25
              try clear c25b0
              try clear c26
              try clear c26b0
              try clear c27
              try clear c27b0
              try clear c27b1
              try clear p28
              try clear q28
              try clear hx28
              try clear hf28
              try clear hcz20_0
              try clear hcz20_1
              try clear hcz20_2
              try clear hcz22_0
              try clear hcz22_1
              try clear hcz22_2
              try clear hcz29_0
              try clear hcz29_1
              try clear hcz29_2
              try clear hcz33_0
              try clear hcz33_1
              try clear hcz33_2
              try clear hcz36_0
              try clear hcz36_1
              try clear hcz36_2
              try clear hfz20_0
              try clear hfz20_1
              try clear hfz20_2
              try clear hfz22_0
              try clear hfz22_1
              try clear hfz22_2
              try clear hfz29_0
              try clear hfz29_1
              try clear hfz29_2
              try clear hfz33_0
              try clear hfz33_1
              try clear hfz33_2
              try clear hfz36_0
              try clear hfz36_1
              try clear hfz36_2
              try clear hx161_0
              try clear hx161_1
              try clear hx161_2
              try clear hx164_0
              try clear hx28_0
              try clear p1
              try clear p16
              try clear p161
              try clear p164
              try clear p2
              try clear p28
              try clear p6
              try clear q1
              try clear q16
              try clear q161
              try clear q164
              try clear q28
              obtain ⟨kq, x4_8, x5_8, rfl, HA, HJ8, HO_5, HB⟩ := hcut
              cases kq with
              | zero => exact absurd HA.out (by simp [dtab_Whole.j3])
              | succ kj8 =>
                have H := HA.out
                clear HA
                simp only [dtab_Whole.j3] at H
                have H' := Aside0.mk H
                clear H
                go_wp2
                go_loopg [4, 69] kj8 (fun kq v4 v69 w' => ∃ (x4_3 : Bool) (x69_3 : Int), v4 = .bool x4_3 ∧ v69 = .int .i64 x69_3 ∧ Aside0 (dtab_Whole.l2 kq (l0.length : Int) x4_3 x5_8 l0 (l0.length : Int) x69_3 = some r) ∧ Aside0 (kq ≤ kj8) ∧ Aside0 (Kd.R (Kd.int .i64) 3 w' w.heap.size (fun _ => True) v159 x5_8) ∧ Aside0 (Below w.heap.size w w'))
                case atStart => exact ⟨(x4_8), (0), (by first | rfl | (simp; done) | (simp [*]; done)), (by first | rfl | (simp; done) | (simp [*]; done)), H', ⟨Nat.le_refl _⟩, ⟨by (with_reducible repeat (first | apply Kd.R_alloc | apply Kd.R_drewN | apply Kd.R_drew)); exact HO_5.out⟩, ⟨by repeat (first | (with_reducible first | exact HB.out | apply below_alloc | apply pw_below_drewN | apply below_drew1) | exact HB.out)⟩⟩
                case round =>
                  clear H'
                  try clear c1
                  try clear p1
                  try clear q1
                  try clear hx1
                  try clear c2
                  try clear p2
                  try clear q2
                  try clear hx2
                  try clear hf2
                  try clear c3
                  try clear c3b0
                  try clear c3b1
                  try clear c4
                  try clear c4b0
                  try clear c4b1
                  try clear c5
                  try clear p6
                  try clear c7
                  try clear c7b0
                  try clear c7b1
                  try clear c8
                  try clear c8b0
                  try clear c8b1
                  try clear c12
                  try clear c12b0
                  try clear c13
                  try clear c13b0
                  try clear c14
                  try clear c14b0
                  try clear c16
                  try clear p16
                  try clear q16
                  try clear hx16
                  try clear c17
                  try clear c17b0
                  try clear c17b1
                  try clear c23
                  try clear c23b0
                  try clear c25
                  try clear c25b0
                  try clear c26
                  try clear c26b0
                  try clear c27
                  try clear c27b0
                  try clear c27b1
                  try clear p28
                  try clear q28
                  try clear hx28
                  try clear hf28
                  try clear hcz20_0
                  try clear hcz20_1
                  try clear hcz20_2
                  try clear hcz22_0
                  try clear hcz22_1
                  try clear hcz22_2
                  try clear hcz29_0
                  try clear hcz29_1
                  try clear hcz29_2
                  try clear hcz33_0
                  try clear hcz33_1
                  try clear hcz33_2
                  try clear hcz36_0
                  try clear hcz36_1
                  try clear hcz36_2
                  try clear hfz20_0
                  try clear hfz20_1
                  try clear hfz20_2
                  try clear hfz22_0
                  try clear hfz22_1
                  try clear hfz22_2
                  try clear hfz29_0
                  try clear hfz29_1
                  try clear hfz29_2
                  try clear hfz33_0
                  try clear hfz33_1
                  try clear hfz33_2
                  try clear hfz36_0
                  try clear hfz36_1
                  try clear hfz36_2
                  try clear hx161_0
                  try clear hx161_1
                  try clear hx161_2
                  try clear hx164_0
                  try clear hx28_0
                  try clear p1
                  try clear p16
                  try clear p161
                  try clear p164
                  try clear p2
                  try clear p28
                  try clear p6
                  try clear q1
                  try clear q16
                  try clear q161
                  try clear q164
                  try clear q2
                  try clear q28
                  obtain ⟨x4_3, x69_3, rfl, rfl, HA, HK3, HO_5, HB⟩ := hrel
                  cases gk with
                  | zero => exact absurd HA.out (by simp [dtab_Whole.l2])
                  | succ k3 =>
                    have H := HA.out
                    clear HA
                    simp only [dtab_Whole.l2] at H
                    by_cases c38 : x69_3 < (l0.length : Int)
                    · rw [if_pos c38] at H
                      have c38b0 : decide (x69_3 < (l0.length : Int)) = true := decide_eq_true c38
                      clear c38
                      by_cases c39 : 0 ≤ x69_3
                      · rw [if_pos c39] at H
                        have c39b0 : decide (0 ≤ x69_3) = true := decide_eq_true c39
                        clear c39
                        by_cases c40 : x69_3 < (l0.length : Int)
                        · rw [if_pos c40] at H
                          have c40b0 : decide (x69_3 < (l0.length : Int)) = true := decide_eq_true c40
                          clear c40
                          have H' := Aside0.mk H
                          clear H
                          have p166 : 0 ≤ (x69_3 : Int) := of_decide_eq_true (by first | (with_reducible assumption) | assumption)
                          have q166 : x69_3 < (l0.length : Int) := of_decide_eq_true (by first | (with_reducible assumption) | assumption)
                          obtain ⟨ad166, e166, hx166_0, hx166_1, hx166_2⟩ := at_T37 HR0.out x69_3 p166 q166
                          cases e166
                          replace hx166_0 := (HB.out.cell (World.block_lt_of_cell? w _ hx166_0)).trans hx166_0
                          replace hx166_1 := (HB.out.cell (World.block_lt_of_cell? w _ hx166_1)).trans hx166_1
                          replace hx166_2 := (HB.out.cell (World.block_lt_of_cell? w _ hx166_2)).trans hx166_2
                          replace p166 := eq_true p166
                          replace q166 := eq_true q166
                          go_wp2_with (first | go_step3 | ((with_reducible refine gate_dst (N := 11) rfl ?_); refine box_event ?hg (N := 11) ?hd (cs := #[.int .u8 0, .int .i64 0, .int .i64 0]) (t := 37) ?hr ?_; (case hd => rfl); (case hg => rfl); (case hr => first | (go_simp; done) | (go_simp; rfl)); intro gb167 hg w41 hbox hb; have n0_ := Aside0.mk (Kd.R_below (by (with_reducible repeat (first | apply Kd.R_alloc | apply Kd.R_drewN | apply Kd.R_drew)); exact HO_5.out) hb); have n1_ := Aside0.mk (below_step (by repeat (first | (with_reducible first | exact HB.out | apply below_alloc | apply pw_below_drewN | apply below_drew1) | exact HB.out)) hb); have n2_ := Aside0.mk (hbox); have n3_ := Aside0.mk ((by rw [hg]; exact (below_size (by repeat (first | (with_reducible first | exact HB.out | apply below_alloc | apply pw_below_drewN | apply below_drew1) | exact HB.out))) : w.heap.size ≤ gb167)); have n4_ := Aside0.mk ((by rw [hg]; exact (below_size (by repeat (first | (with_reducible first | exact HB.out | apply below_alloc | apply pw_below_drewN | apply below_drew1) | exact HB.out))) : w.heap.size ≤ gb167)); clear HO_5; clear HB; have HO_5 := n0_; have HB := n1_; have BK167 := n2_; have GW167 := n3_; have GE167 := n4_; clear n0_ n1_ n2_ n3_ n4_; clear hb hbox hg; have hcz42_0 : w41.cell? ⟨gb167, 0, none⟩ = some (.int .u8 0) := (blk_cell BK167.out 0).trans rfl; have hcz42_1 : w41.cell? ⟨gb167, 1, none⟩ = some (.int .i64 0) := (blk_cell BK167.out 1).trans rfl; have hcz42_2 : w41.cell? ⟨gb167, 2, none⟩ = some (.int .i64 0) := (blk_cell BK167.out 2).trans rfl; have hfz42_0 := blk_frozen BK167.out 0; have hfz42_1 := blk_frozen BK167.out 1; have hfz42_2 := blk_frozen BK167.out 2))
                          go_loopg [4, 12] k3 (fun kq v4 v12 w' => ∃ (x4_4 : Bool) (x12_4 : Int), v4 = .bool x4_4 ∧ v12 = .int .i64 x12_4 ∧ Aside0 (dtab_Whole.l3 kq (l0.length : Int) x4_4 x5_8 x12_4 l0 (l0.length : Int) x69_3 ((rd_T37 l0 x69_3).f0) ((rd_T37 l0 x69_3).f1) ((rd_T37 l0 x69_3).f2) = some r) ∧ Aside0 (kq ≤ k3) ∧ Aside0 (Kd.R (Kd.int .i64) 3 w' w.heap.size (fun _ => True) v159 x5_8) ∧ Aside0 (w'.heap[gb167]? = some (.cells #[.int .u8 ((rd_T37 l0 x69_3).f0), .int .i64 ((rd_T37 l0 x69_3).f1), .int .i64 ((rd_T37 l0 x69_3).f2)] 37 (0, 0))) ∧ Aside0 (Below w.heap.size w w'))
                          case atStart => exact ⟨(x4_3), (0), (by first | rfl | (simp; done) | (simp [*]; done)), (by first | rfl | (simp; done) | (simp [*]; done)), H', ⟨Nat.le_refl _⟩, ⟨by (with_reducible repeat (first | apply Kd.R_alloc | apply Kd.R_drewN | apply Kd.R_drew)); exact Kd.R_mono (Kd.R_far (p := ⟨gb167, 2, none⟩) (Kd.R_far (p := ⟨gb167, 1, none⟩) (Kd.R_far (p := ⟨gb167, 0, none⟩) (Kd.R_types HO_5.out BK167.out (by decide)) (fun _ hk => hk.2) (.int .u8 ((rd_T37 l0 x69_3).f0))) (fun _ hk => hk.2) (.int .i64 ((rd_T37 l0 x69_3).f1))) (fun _ hk => hk.2) (.int .i64 ((rd_T37 l0 x69_3).f2))) (fun _ hk => trivial)⟩, ⟨by (with_reducible repeat (first | refine blk_drewN ?_ _ | refine blk_drew ?_ | refine blk_alloc ?_ _)); refine blk_put (cs := #[.int .u8 ((rd_T37 l0 x69_3).f0), .int .i64 ((rd_T37 l0 x69_3).f1), .int .i64 0]) ?_ 2 _ rfl; (with_reducible repeat (first | refine blk_drewN ?_ _ | refine blk_drew ?_ | refine blk_alloc ?_ _)); refine blk_put (cs := #[.int .u8 ((rd_T37 l0 x69_3).f0), .int .i64 0, .int .i64 0]) ?_ 1 _ rfl; (with_reducible repeat (first | refine blk_drewN ?_ _ | refine blk_drew ?_ | refine blk_alloc ?_ _)); refine blk_put (cs := #[.int .u8 0, .int .i64 0, .int .i64 0]) ?_ 0 _ rfl; (with_reducible repeat (first | refine blk_drewN ?_ _ | refine blk_drew ?_ | refine blk_alloc ?_ _)); exact BK167.out⟩, ⟨by repeat (first | (with_reducible first | exact HB.out | apply below_alloc | apply pw_below_drewN | apply below_drew1 | refine below_set ?_ GE167.out) | exact HB.out)⟩⟩
                          case round =>
                            clear H'
                            try clear c1
                            try clear p1
                            try clear q1
                            try clear hx1
                            try clear c2
                            try clear p2
                            try clear q2
                            try clear hx2
                            try clear hf2
                            try clear c3
                            try clear c3b0
                            try clear c3b1
                            try clear c4
                            try clear c4b0
                            try clear c4b1
                            try clear c5
                            try clear p6
                            try clear c7
                            try clear c7b0
                            try clear c7b1
                            try clear c8
                            try clear c8b0
                            try clear c8b1
                            try clear c12
                            try clear c12b0
                            try clear c13
                            try clear c13b0
                            try clear c14
                            try clear c14b0
                            try clear c16
                            try clear p16
                            try clear q16
                            try clear hx16
                            try clear c17
                            try clear c17b0
                            try clear c17b1
                            try clear c23
                            try clear c23b0
                            try clear c25
                            try clear c25b0
                            try clear c26
                            try clear c26b0
                            try clear c27
                            try clear c27b0
                            try clear c27b1
                            try clear p28
                            try clear q28
                            try clear hx28
                            try clear hf28
                            try clear c38
                            try clear c38b0
                            try clear c39
                            try clear c39b0
                            try clear c40
                            try clear c40b0
                            try clear hcz20_0
                            try clear hcz20_1
                            try clear hcz20_2
                            try clear hcz22_0
                            try clear hcz22_1
                            try clear hcz22_2
                            try clear hcz29_0
                            try clear hcz29_1
                            try clear hcz29_2
                            try clear hcz33_0
                            try clear hcz33_1
                            try clear hcz33_2
                            try clear hcz36_0
                            try clear hcz36_1
                            try clear hcz36_2
                            try clear hcz42_0
                            try clear hcz42_1
                            try clear hcz42_2
                            try clear hfz20_0
                            try clear hfz20_1
                            try clear hfz20_2
                            try clear hfz22_0
                            try clear hfz22_1
                            try clear hfz22_2
                            try clear hfz29_0
                            try clear hfz29_1
                            try clear hfz29_2
                            try clear hfz33_0
                            try clear hfz33_1
                            try clear hfz33_2
                            try clear hfz36_0
                            try clear hfz36_1
                            try clear hfz36_2
                            try clear hfz42_0
                            try clear hfz42_1
                            try clear hfz42_2
                            try clear hx161_0
                            try clear hx161_1
                            try clear hx161_2
                            try clear hx164_0
                            try clear hx166_0
                            try clear hx166_1
                            try clear hx166_2
                            try clear hx28_0
                            try clear p1
                            try clear p16
                            try clear p161
                            try clear p164
                            try clear p166
                            try clear p2
                            try clear p28
                            try clear p6
                            try clear q1
                            try clear q16
                            try clear q161
                            try clear q164
                            try clear q166
                            try clear q2
                            try clear q28
                            obtain ⟨x4_4, x12_4, rfl, rfl, HA, HK4, HO_5, BK167, HB⟩ := hrel
                            cases gk with
                            | zero => exact absurd HA.out (by simp [dtab_Whole.l3])
                            | succ k4 =>
                              have H := HA.out
                              clear HA
                              simp only [dtab_Whole.l3] at H
                              by_cases c43 : x12_4 < (l0.length : Int)
                              · rw [if_pos c43] at H
                                have c43b0 : decide (x12_4 < (l0.length : Int)) = true := decide_eq_true c43
                                clear c43
                                by_cases c44 : x4_4 = true
                                · subst c44
                                  have H1 : (if 0 ≤ (wrap64 ((wrap64 ((wrap64 (((rd_T37 l0 x69_3).f0))) * (l0.length : Int))) + x12_4)) then (if (wrap64 ((wrap64 ((wrap64 (((rd_T37 l0 x69_3).f0))) * (l0.length : Int))) + x12_4)) < (x5_8.length : Int) then (dtab_Whole.l3 k4 (l0.length : Int) ((rd x5_8 (wrap64 ((wrap64 ((wrap64 (((rd_T37 l0 x69_3).f0))) * (l0.length : Int))) + x12_4))) == 1) x5_8 (wrap64 (x12_4 + 1)) l0 (l0.length : Int) x69_3 ((rd_T37 l0 x69_3).f0) ((rd_T37 l0 x69_3).f1) ((rd_T37 l0 x69_3).f2)) else (none)) else (none)) = some r := by rw [if_pos rfl] at H; exact H
                                  clear H
                                  have H := H1
                                  clear H1
                                  obtain ⟨ji45, hji45⟩ : ∃ j_ : Int, (wrap64 ((wrap64 ((wrap64 (((rd_T37 l0 x69_3).f0))) * (l0.length : Int))) + x12_4)) = j_ := ⟨_, rfl⟩
                                  replace H : (if 0 ≤ (ji45) then (if (ji45) < (x5_8.length : Int) then (dtab_Whole.l3 k4 (l0.length : Int) ((rd x5_8 (ji45)) == 1) x5_8 (wrap64 (x12_4 + 1)) l0 (l0.length : Int) x69_3 ((rd_T37 l0 x69_3).f0) ((rd_T37 l0 x69_3).f1) ((rd_T37 l0 x69_3).f2)) else (none)) else (none)) = some r := by first | (rw [hji45] at H; exact H) | (simp only [hji45] at H ⊢; exact H)
                                  have hji45w : (IntKind.i64.wrap ((wrap64 ((wrap64 (((rd_T37 l0 x69_3).f0))) * (l0.length : Int))) + x12_4)) = ji45 := (i64_w _).trans hji45
                                  by_cases c46 : 0 ≤ (ji45)
                                  · rw [if_pos c46] at H
                                    have c46b0 : decide (0 ≤ (ji45)) = true := decide_eq_true c46
                                    clear c46
                                    by_cases c47 : (ji45) < (x5_8.length : Int)
                                    · rw [if_pos c47] at H
                                      have c47b0 : decide ((ji45) < (x5_8.length : Int)) = true := decide_eq_true c47
                                      clear c47
                                      have H' := Aside0.mk H
                                      clear H
                                      have hcz48_0 : wr.cell? ⟨gb167, 0, none⟩ = some (.int .u8 ((rd_T37 l0 x69_3).f0)) := (blk_cell BK167.out 0).trans rfl
                                      have hcz48_1 : wr.cell? ⟨gb167, 1, none⟩ = some (.int .i64 ((rd_T37 l0 x69_3).f1)) := (blk_cell BK167.out 1).trans rfl
                                      have hcz48_2 : wr.cell? ⟨gb167, 2, none⟩ = some (.int .i64 ((rd_T37 l0 x69_3).f2)) := (blk_cell BK167.out 2).trans rfl
                                      have hfz48_0 := blk_frozen BK167.out 0
                                      have hfz48_1 := blk_frozen BK167.out 1
                                      have hfz48_2 := blk_frozen BK167.out 2
                                      obtain ⟨Ao49, co49, eo49⟩ := Kd.R_slice HO_5.out
                                      subst eo49
                                      have p168 : 0 ≤ ((ji45) : Int) := of_decide_eq_true (by first | (with_reducible assumption) | assumption)
                                      have q168 : (ji45) < (x5_8.length : Int) := of_decide_eq_true (by first | (with_reducible assumption) | assumption)
                                      obtain ⟨ad168, e168, hx168_0⟩ := Kd.at_int (Kd.R_reads' HO_5.out).2.2 (ji45) p168 q168
                                      cases e168
                                      replace p168 := eq_true p168
                                      replace q168 := eq_true q168
                                      go_wp2
                                      subst hji45
                                      go_roundg k4
                                      case measure => have := HJ1.out; have := HJ8.out; have := HK3.out; have := HK4.out; omega
                                      case rel => exact ⟨(((rd x5_8 ((wrap64 ((wrap64 ((wrap64 (((rd_T37 l0 x69_3).f0))) * (l0.length : Int))) + x12_4)))) == 1)), (wrap64 (x12_4 + 1)), (by first | rfl | (simp; done) | (simp only [← hji45] <;> (first | rfl | simp)) | (simp [*]; done)), (by first | rfl | (simp; done) | (simp [*]; done)), H', ⟨by have := HJ1.out; have := HJ8.out; have := HK3.out; have := HK4.out; omega⟩, ⟨by (with_reducible repeat (first | apply Kd.R_alloc | apply Kd.R_drewN | apply Kd.R_drew)); exact HO_5.out⟩, ⟨by (with_reducible repeat (first | refine blk_drewN ?_ _ | refine blk_drew ?_ | refine blk_alloc ?_ _)); exact BK167.out⟩, ⟨by repeat (first | (with_reducible first | exact HB.out | apply below_alloc | apply pw_below_drewN | apply below_drew1 | refine below_set ?_ GE167.out) | exact HB.out)⟩⟩
                                    · rw [if_neg c47] at H
                                      exact absurd H (by simp)
                                  · rw [if_neg c46] at H
                                    exact absurd H (by simp)
                                · replace c44 := Bool.eq_false_iff.mpr c44
                                  subst c44
                                  have H1 : (dtab_Whole.l2 k4 (l0.length : Int) false x5_8 l0 (l0.length : Int) (wrap64 (x69_3 + 1))) = some r := by rw [if_neg (show ¬ (false = true) by decide)] at H; exact H
                                  clear H
                                  have H := H1
                                  clear H1
                                  have H' := Aside0.mk H
                                  clear H
                                  go_wp2
                                  go_roundg k4
                                  case measure => have := HJ1.out; have := HJ8.out; have := HK3.out; have := HK4.out; omega
                                  case rel => exact ⟨(false), (wrap64 (x69_3 + 1)), (by first | rfl | (simp; done) | (simp [*]; done)), (by first | rfl | (simp; done) | (simp [*]; done)), H', ⟨by have := HJ1.out; have := HJ8.out; have := HK3.out; have := HK4.out; omega⟩, ⟨by (with_reducible repeat (first | apply Kd.R_alloc | apply Kd.R_drewN | apply Kd.R_drew)); exact HO_5.out⟩, ⟨by repeat (first | (with_reducible first | exact HB.out | apply below_alloc | apply pw_below_drewN | apply below_drew1 | refine below_set ?_ GE167.out) | exact HB.out)⟩⟩
                              · rw [if_neg c43] at H
                                have c43b0 : decide (x12_4 < (l0.length : Int)) = false := decide_eq_false c43
                                clear c43
                                have H' := Aside0.mk H
                                clear H
                                go_wp2
                                go_roundg k4
                                case measure => have := HJ1.out; have := HJ8.out; have := HK3.out; have := HK4.out; omega
                                case rel => exact ⟨(x4_4), (wrap64 (x69_3 + 1)), (by first | rfl | (simp; done) | (simp [*]; done)), (by first | rfl | (simp; done) | (simp [*]; done)), H', ⟨by have := HJ1.out; have := HJ8.out; have := HK3.out; have := HK4.out; omega⟩, ⟨by (with_reducible repeat (first | apply Kd.R_alloc | apply Kd.R_drewN | apply Kd.R_drew)); exact HO_5.out⟩, ⟨by repeat (first | (with_reducible first | exact HB.out | apply below_alloc | apply pw_below_drewN | apply below_drew1 | refine below_set ?_ GE167.out) | exact HB.out)⟩⟩
                        · rw [if_neg c40] at H
                          exact absurd H (by simp)
                      · rw [if_neg c39] at H
                        exact absurd H (by simp)
                    · rw [if_neg c38] at H
                      have c38b0 : decide (x69_3 < (l0.length : Int)) = false := decide_eq_false c38
                      clear c38
                      obtain rfl := Option.some.inj H
                      go_wp2
                      go_ret
                      exact ⟨by first | rfl | (simp [errW_none, errW_some] <;> rfl) | (simp only [← hji6]; first | rfl | (simp [errW_none, errW_some] <;> rfl)) | (simp [*, errW_none, errW_some] <;> rfl), by repeat (first | (with_reducible first | exact HB.out | apply below_alloc | apply pw_below_drewN | apply below_drew1) | exact HB.out)⟩
          · rw [if_neg c8] at H
            exact absurd H (by simp)
        · rw [if_neg c7] at H
          exact absurd H (by simp)

end Go.Proofs.Ytjbpmlpmfbeobaa.PPr
