/- The machine's side of this seat's laws: what each function computes, and that its call computes it; written by a program (pr.py over the kit's print.py). -/
import Derived.Test.YtonicgihpjolmaaPPrx0
import Derived.Test.YtonicgihpjolmaaPPrx5
import Derived.Test.YtonicgihpjolmaaPPrx11
namespace Go.Proofs.Ytonicgihpjolmaa.PPr
open Go.RowKit Go.Proofs.YtonicgihpjolmaaW.PrintWords Go.Proofs.YtonicgihpjolmaaW.PrintLast Go.Proofs.YtonicgihpjolmaaW.PrintMore
attribute [local go_sem] max2_int min2_int max_two min_two max_three min_three max_four min_four   -- for this text's walks alone
set_option linter.unusedVariables false
set_option linter.unusedSimpArgs false

/-! ### puncheonlaw10_SpreadNear: function 6 -/
def puncheonlaw10_SpreadNear.l0 : Nat → Int → Int → Bool → List Int → Int → Int → Int → Option (Bool)
  | 0, _, _, _, _, _, _, _ => none
  | k + 1, x2, x3, x9, x10, x12, x13, x14 => if x14 < 256 then (if 0 ≤ x14 then (if x14 < (x10.length : Int) then (if (rd x10 x14) > 0 then (puncheonlaw10_SpreadNear.l0 k x2 x3 x9 x10 x12 (wrap64 (x13 + 1)) (wrap64 (x14 + 1))) else (puncheonlaw10_SpreadNear.l0 k x2 x3 x9 x10 x12 x13 (wrap64 (x14 + 1)))) else (none)) else (none)) else (if 0 ≤ x2 then (if x2 < (x10.length : Int) then (if (rd x10 x2) = 0 then (some x9) else ((spread_Place.f k x10 (wrap64 (x2)) (wrap64 ((rd x10 x2) + (Int.tmod (wrap64 (x3)) (rd x10 x2))))).bind fun bt290 => (if x9 = true then (if bt290.2 = true then (if (wrap64 ((wrap64 (x12 + bt290.1)) * (rd x10 x2))) ≥ (wrap64 ((wrap64 ((rd x10 x2) + (Int.tmod (wrap64 (x3)) (rd x10 x2)))) * x12)) then (some (decide ((wrap64 ((wrap64 (x12 + bt290.1)) * (rd x10 x2))) ≤ (wrap64 ((wrap64 ((wrap64 ((rd x10 x2) + (Int.tmod (wrap64 (x3)) (rd x10 x2)))) * x12)) + (wrap64 ((wrap64 (x13 - 1)) * (rd x10 x2)))))))) else (some false)) else (some false)) else (some false)))) else (none)) else (none))
def puncheonlaw10_SpreadNear.f (k : Nat) (l0 : List Int) (a1 : Int) (a2 : Int) (a3 : Int) : Option (Bool) := (puncheonlaw10_awake.f k).bind fun t281 => (if (l0.length : Int) > 80 then (some t281) else ((puncheonref08_Some.f k l0 a1).bind fun bt282 => (if 0 ≤ bt282.2 then (puncheonlaw10_SpreadNear.l0 k a2 a3 t281 bt282.1 (shl .i64 1 bt282.2) 0 0) else (none))))
theorem puncheonlaw10_SpreadNear.mono_l : ∀ k, (∀ y0 y1 y2 y3 y4 y5 y6, LeO (puncheonlaw10_SpreadNear.l0 k y0 y1 y2 y3 y4 y5 y6) (puncheonlaw10_SpreadNear.l0 (k + 1) y0 y1 y2 y3 y4 y5 y6))
  | 0 => fun _ _ _ _ _ _ _ r h => by simp [puncheonlaw10_SpreadNear.l0] at h
  | k + 1 => by
    have ih0 := puncheonlaw10_SpreadNear.mono_l k
    · intro y0 y1 y2 y3 y4 y5 y6
      unfold puncheonlaw10_SpreadNear.l0
      repeat' first
      | (with_reducible exact ih0 _ _ _ _ _ _ _)
      | (with_reducible exact puncheonlaw10_awake.mono _)
      | (with_reducible exact puncheonref08_Some.mono _ _ _)
      | (with_reducible exact spread_Place.mono _ _ _ _)
      | (with_reducible exact LeO.refl _)
      | (with_reducible exact LeO.none _)
      | (with_reducible refine LeO.ite ?_ ?_)
      | (with_reducible refine LeO.bind ?_ (fun _ => ?_))
      | exact ih0 _ _ _ _ _ _ _
      | exact puncheonlaw10_awake.mono _
      | exact puncheonref08_Some.mono _ _ _
      | exact spread_Place.mono _ _ _ _
      | exact LeO.none _
      | refine LeO.ite ?_ ?_
      | refine LeO.bind ?_ (fun _ => ?_)
theorem puncheonlaw10_SpreadNear.mono : ∀ a0 a1 a2 a3 k, LeO (puncheonlaw10_SpreadNear.f k a0 a1 a2 a3) (puncheonlaw10_SpreadNear.f (k + 1) a0 a1 a2 a3) := by
  intro a0 a1 a2 a3 k
  have ih0 := puncheonlaw10_SpreadNear.mono_l k
  unfold puncheonlaw10_SpreadNear.f
  repeat' first
      | (with_reducible exact ih0 _ _ _ _ _ _ _)
      | (with_reducible exact puncheonlaw10_awake.mono _)
      | (with_reducible exact puncheonref08_Some.mono _ _ _)
      | (with_reducible exact spread_Place.mono _ _ _ _)
      | (with_reducible exact LeO.refl _)
      | (with_reducible exact LeO.none _)
      | (with_reducible refine LeO.ite ?_ ?_)
      | (with_reducible refine LeO.bind ?_ (fun _ => ?_))
      | exact ih0 _ _ _ _ _ _ _
      | exact puncheonlaw10_awake.mono _
      | exact puncheonref08_Some.mono _ _ _
      | exact spread_Place.mono _ _ _ _
      | exact LeO.none _
      | refine LeO.ite ?_ ?_
      | refine LeO.bind ?_ (fun _ => ?_)
set_option maxHeartbeats 8000000 in
set_option maxRecDepth 100000 in
theorem puncheonlaw10_SpreadNear.calls (k : Nat) (A0 : Option Addr) (c0 : Nat) (l0 : List Int) (a1 : Int) (a2 : Int) (a3 : Int) (r : Bool) (w : World) (hr0 : Kd.C (Kd.int .u16) w A0 l0.length l0) (hc0 : l0.length ≤ c0) (h : puncheonlaw10_SpreadNear.f k l0 a1 a2 a3 = some r) :
    Calls Try.prog 6 #[.slice A0 l0.length c0, .int .u8 a1, .int .u8 a2, .int .u16 a3] w fun e w' => e = .returned (.bool r) ∧ Below w.heap.size w w' := by
  have HR0 := Aside0.mk hr0
  have HC0 := Aside0.mk hc0
  clear hr0 hc0
  have HB := Aside0.mk (Below.refl w.heap.size w)
  have H : ((puncheonlaw10_awake.f k).bind fun t281 => (if (l0.length : Int) > 80 then (some t281) else ((puncheonref08_Some.f k l0 a1).bind fun bt282 => (if 0 ≤ bt282.2 then (puncheonlaw10_SpreadNear.l0 k a2 a3 t281 bt282.1 (shl .i64 1 bt282.2) 0 0) else (none))))) = some r := h
  clear h
  replace H := Option.bind_eq_some_iff.mp H
  obtain ⟨t281, A50, H⟩ := H
  replace H : (if (l0.length : Int) > 80 then (some t281) else ((puncheonref08_Some.f k l0 a1).bind fun bt282 => (if 0 ≤ bt282.2 then (puncheonlaw10_SpreadNear.l0 k a2 a3 t281 bt282.1 (shl .i64 1 bt282.2) 0 0) else (none)))) = some r := H
  have A5 := Aside0.mk A50
  clear A50
  by_cases c6 : (l0.length : Int) > 80
  · rw [if_pos c6] at H
    have c6b0 : decide (80 < (l0.length : Int)) = true := decide_eq_true c6
    have c6b1 : decide (80 < l0.length) = true := decide_eq_true (by omega)
    clear c6
    obtain rfl := Option.some.inj H
    go_enter Try.func6, Try.ntmps6
    go_wp2_with (first | (go_at_call 8; (with_reducible refine (puncheonlaw10_awake.calls k  t281 _ A5.out).mono ?_); rintro e w7 ⟨rfl, hb⟩; have n0_ := Aside0.mk (below_step (by repeat (first | (with_reducible first | exact HB.out | apply below_alloc | apply pw_below_drewN | apply below_drew1) | exact HB.out)) hb); clear HB; have HB := n0_; clear n0_; (try clear hb); (try clear hb2); (try clear hk); (try clear hi)))
    repeat (go_quiet (first | (go_at_call 8; (with_reducible refine (puncheonlaw10_awake.calls k  t281 _ A5.out).mono ?_); rintro e w7 ⟨rfl, hb⟩; have n0_ := Aside0.mk (below_step (by repeat (first | (with_reducible first | exact HB.out | apply below_alloc | apply pw_below_drewN | apply below_drew1) | exact HB.out)) hb); clear HB; have HB := n0_; clear n0_; (try clear hb); (try clear hb2); (try clear hk); (try clear hi))); try go_wp2_with (first | (go_at_call 8; (with_reducible refine (puncheonlaw10_awake.calls k  t281 _ A5.out).mono ?_); rintro e w7 ⟨rfl, hb⟩; have n0_ := Aside0.mk (below_step (by repeat (first | (with_reducible first | exact HB.out | apply below_alloc | apply pw_below_drewN | apply below_drew1) | exact HB.out)) hb); clear HB; have HB := n0_; clear n0_; (try clear hb); (try clear hb2); (try clear hk); (try clear hi))))
    go_ret
    exact ⟨by first | rfl | (simp [errW_none, errW_some] <;> rfl) | (simp [*, errW_none, errW_some] <;> rfl), by repeat (first | (with_reducible first | exact HB.out | apply below_alloc | apply pw_below_drewN | apply below_drew1) | exact HB.out)⟩
  · rw [if_neg c6] at H
    have c6b0 : decide (80 < (l0.length : Int)) = false := decide_eq_false c6
    have c6b1 : decide (80 < l0.length) = false := decide_eq_false (by omega)
    clear c6
    replace H := Option.bind_eq_some_iff.mp H
    obtain ⟨⟨t282, t283⟩, A80, H⟩ := H
    replace H : (if 0 ≤ t283 then (puncheonlaw10_SpreadNear.l0 k a2 a3 t281 t282 (shl .i64 1 t283) 0 0) else (none)) = some r := H
    have A8 := Aside0.mk A80
    clear A80
    by_cases c9 : 0 ≤ t283
    · rw [if_pos c9] at H
      have c9b0 := eq_true c9
      have c9b1 : decide (0 ≤ t283) = true := decide_eq_true c9
      clear c9
      obtain ⟨ji10, hji10⟩ : ∃ j_ : Int, (shl .i64 1 t283) = j_ := ⟨_, rfl⟩
      replace H : (puncheonlaw10_SpreadNear.l0 k a2 a3 t281 t282 ji10 0 0) = some r := by first | (rw [hji10] at H; exact H) | (simp only [hji10] at H ⊢; exact H)
      (try rw [hji10] at A5)
      (try rw [hji10] at A8)
      have hji10_ : (IntKind.i64.wrap (1 * 2 ^ min t283.toNat 64)) = ji10 := hji10
      have hji10z : t283 ≤ 64 → (IntKind.i64.wrap (1 * 2 ^ t283.toNat)) = ji10 := shl_small hji10
      have hji10u : (IntKind.i64.wrap (2 ^ min t283.toNat 64)) = ji10 := by have h_ := hji10_; rw [Int.one_mul] at h_; exact h_
      have hji10v : t283 ≤ 64 → (IntKind.i64.wrap (2 ^ t283.toNat)) = ji10 := fun hle_ => by have h_ := hji10z hle_; rw [Int.one_mul] at h_; exact h_
      have hji10y : (wrap64 (1 * 2 ^ min t283.toNat 64)) = ji10 := (i64_w _).symm.trans hji10_
      have hji10x : t283 ≤ 64 → (wrap64 (1 * 2 ^ t283.toNat)) = ji10 := fun h_ => (i64_w _).symm.trans (hji10z h_)
      have H' := Aside0.mk H
      clear H
      go_enter Try.func6, Try.ntmps6
      go_wp2_with (first | (go_at_call 8; (with_reducible refine (puncheonlaw10_awake.calls k  t281 _ A5.out).mono ?_); rintro e w11 ⟨rfl, hb⟩; have n0_ := Aside0.mk (below_step (by repeat (first | (with_reducible first | exact HB.out | apply below_alloc | apply pw_below_drewN | apply below_drew1) | exact HB.out)) hb); clear HB; have HB := n0_; clear n0_; (try clear hb); (try clear hb2); (try clear hk); (try clear hi)) | (go_at_call 15; (with_reducible refine (puncheonref08_Some.calls k _ _ l0 a1 t282 t283 _ ?side1 ?side2 A8.out).mono ?_); (case side1 => repeat (first | exact (Kd.C_below HR0.out HB.out) | (with_reducible refine Kd.C_alloc ?_ _) | (with_reducible refine Kd.C_drewN ?_ _) | (with_reducible refine Kd.C_drew ?_))); (case side2 => exact HC0.out); rintro e w12 ⟨v284, rfl, ho0, hb⟩; have n0_ := Aside0.mk (Kd.R_lower ho0 (below_size (by repeat (first | (with_reducible first | exact HB.out | apply below_alloc | apply pw_below_drewN | apply below_drew1) | exact HB.out)))); have n1_ := Aside0.mk (below_step (by repeat (first | (with_reducible first | exact HB.out | apply below_alloc | apply pw_below_drewN | apply below_drew1) | exact HB.out)) hb); clear HB; have HO285 := n0_; have HB := n1_; clear n0_ n1_; (try clear hb); (try clear hb2); (try clear hk); (try clear hi); (try clear ho0)))
      repeat (go_quiet (first | (go_at_call 8; (with_reducible refine (puncheonlaw10_awake.calls k  t281 _ A5.out).mono ?_); rintro e w11 ⟨rfl, hb⟩; have n0_ := Aside0.mk (below_step (by repeat (first | (with_reducible first | exact HB.out | apply below_alloc | apply pw_below_drewN | apply below_drew1) | exact HB.out)) hb); clear HB; have HB := n0_; clear n0_; (try clear hb); (try clear hb2); (try clear hk); (try clear hi)) | (go_at_call 15; (with_reducible refine (puncheonref08_Some.calls k _ _ l0 a1 t282 t283 _ ?side1 ?side2 A8.out).mono ?_); (case side1 => repeat (first | exact (Kd.C_below HR0.out HB.out) | (with_reducible refine Kd.C_alloc ?_ _) | (with_reducible refine Kd.C_drewN ?_ _) | (with_reducible refine Kd.C_drew ?_))); (case side2 => exact HC0.out); rintro e w12 ⟨v284, rfl, ho0, hb⟩; have n0_ := Aside0.mk (Kd.R_lower ho0 (below_size (by repeat (first | (with_reducible first | exact HB.out | apply below_alloc | apply pw_below_drewN | apply below_drew1) | exact HB.out)))); have n1_ := Aside0.mk (below_step (by repeat (first | (with_reducible first | exact HB.out | apply below_alloc | apply pw_below_drewN | apply below_drew1) | exact HB.out)) hb); clear HB; have HO285 := n0_; have HB := n1_; clear n0_ n1_; (try clear hb); (try clear hb2); (try clear hk); (try clear hi); (try clear ho0))); try go_wp2_with (first | (go_at_call 8; (with_reducible refine (puncheonlaw10_awake.calls k  t281 _ A5.out).mono ?_); rintro e w11 ⟨rfl, hb⟩; have n0_ := Aside0.mk (below_step (by repeat (first | (with_reducible first | exact HB.out | apply below_alloc | apply pw_below_drewN | apply below_drew1) | exact HB.out)) hb); clear HB; have HB := n0_; clear n0_; (try clear hb); (try clear hb2); (try clear hk); (try clear hi)) | (go_at_call 15; (with_reducible refine (puncheonref08_Some.calls k _ _ l0 a1 t282 t283 _ ?side1 ?side2 A8.out).mono ?_); (case side1 => repeat (first | exact (Kd.C_below HR0.out HB.out) | (with_reducible refine Kd.C_alloc ?_ _) | (with_reducible refine Kd.C_drewN ?_ _) | (with_reducible refine Kd.C_drew ?_))); (case side2 => exact HC0.out); rintro e w12 ⟨v284, rfl, ho0, hb⟩; have n0_ := Aside0.mk (Kd.R_lower ho0 (below_size (by repeat (first | (with_reducible first | exact HB.out | apply below_alloc | apply pw_below_drewN | apply below_drew1) | exact HB.out)))); have n1_ := Aside0.mk (below_step (by repeat (first | (with_reducible first | exact HB.out | apply below_alloc | apply pw_below_drewN | apply below_drew1) | exact HB.out)) hb); clear HB; have HO285 := n0_; have HB := n1_; clear n0_ n1_; (try clear hb); (try clear hb2); (try clear hk); (try clear hi); (try clear ho0))))
      go_loopg [13, 14] k (fun kq v13 v14 w' => ∃ (x13_1 : Int) (x14_1 : Int), v13 = .int .i64 x13_1 ∧ v14 = .int .i64 x14_1 ∧ Aside0 (puncheonlaw10_SpreadNear.l0 kq a2 a3 t281 t282 ji10 x13_1 x14_1 = some r) ∧ Aside0 (kq ≤ k) ∧ Aside0 (Kd.R (Kd.int .i64) 3 w' w.heap.size (fun _ => True) v284 t282) ∧ Aside0 (Below w.heap.size w w'))
      case atStart => exact ⟨(0), (0), (by first | rfl | (simp; done) | (simp [*]; done)), (by first | rfl | (simp; done) | (simp [*]; done)), H', ⟨Nat.le_refl _⟩, ⟨by (with_reducible repeat (first | apply Kd.R_alloc | apply Kd.R_drewN | apply Kd.R_drew)); exact HO285.out⟩, ⟨by repeat (first | (with_reducible first | exact HB.out | apply below_alloc | apply pw_below_drewN | apply below_drew1) | exact HB.out)⟩⟩
      case round =>
        clear H'
        try clear p2
        try clear c6
        try clear c6b0
        try clear c6b1
        try clear p6
        try clear c9
        try clear c9b0
        try clear c9b1
        obtain ⟨x13_1, x14_1, rfl, rfl, HA, HK1, HO_10, HB⟩ := hrel
        cases gk with
        | zero => exact absurd HA.out (by simp [puncheonlaw10_SpreadNear.l0])
        | succ k1 =>
          have H := HA.out
          clear HA
          simp only [puncheonlaw10_SpreadNear.l0] at H
          by_cases c13 : x14_1 < 256
          · rw [if_pos c13] at H
            have c13b0 : decide (x14_1 < 256) = true := decide_eq_true c13
            clear c13
            by_cases c14 : 0 ≤ x14_1
            · rw [if_pos c14] at H
              have c14b0 : decide (0 ≤ x14_1) = true := decide_eq_true c14
              clear c14
              by_cases c15 : x14_1 < (t282.length : Int)
              · rw [if_pos c15] at H
                have c15b0 : decide (x14_1 < (t282.length : Int)) = true := decide_eq_true c15
                clear c15
                by_cases c16 : (rd t282 x14_1) > 0
                · rw [if_pos c16] at H
                  have c16b0 : decide (0 < (rd t282 x14_1)) = true := decide_eq_true c16
                  clear c16
                  have H' := Aside0.mk H
                  clear H
                  obtain ⟨Ao17, co17, eo17⟩ := Kd.R_slice HO_10.out
                  subst eo17
                  have p286 : 0 ≤ (x14_1 : Int) := of_decide_eq_true (by first | (with_reducible assumption) | assumption)
                  have q286 : x14_1 < (t282.length : Int) := of_decide_eq_true (by first | (with_reducible assumption) | assumption)
                  obtain ⟨ad286, e286, hx286_0⟩ := Kd.at_int (Kd.R_reads' HO_10.out).2.2 x14_1 p286 q286
                  cases e286
                  replace p286 := eq_true p286
                  replace q286 := eq_true q286
                  go_wp2
                  repeat (go_quiet (fail); try go_wp2)
                  go_roundg k1
                  case measure => have := HK1.out; omega
                  case rel => exact ⟨(wrap64 (x13_1 + 1)), (wrap64 (x14_1 + 1)), (by first | rfl | (simp; done) | (simp [*]; done)), (by first | rfl | (simp; done) | (simp [*]; done)), H', ⟨by have := HK1.out; omega⟩, ⟨by (with_reducible repeat (first | apply Kd.R_alloc | apply Kd.R_drewN | apply Kd.R_drew)); exact HO_10.out⟩, ⟨by repeat (first | (with_reducible first | exact HB.out | apply below_alloc | apply pw_below_drewN | apply below_drew1) | exact HB.out)⟩⟩
                · rw [if_neg c16] at H
                  have c16b0 : decide (0 < (rd t282 x14_1)) = false := decide_eq_false c16
                  clear c16
                  have H' := Aside0.mk H
                  clear H
                  obtain ⟨Ao18, co18, eo18⟩ := Kd.R_slice HO_10.out
                  subst eo18
                  have p286 : 0 ≤ (x14_1 : Int) := of_decide_eq_true (by first | (with_reducible assumption) | assumption)
                  have q286 : x14_1 < (t282.length : Int) := of_decide_eq_true (by first | (with_reducible assumption) | assumption)
                  obtain ⟨ad286, e286, hx286_0⟩ := Kd.at_int (Kd.R_reads' HO_10.out).2.2 x14_1 p286 q286
                  cases e286
                  replace p286 := eq_true p286
                  replace q286 := eq_true q286
                  go_wp2
                  repeat (go_quiet (fail); try go_wp2)
                  go_roundg k1
                  case measure => have := HK1.out; omega
                  case rel => exact ⟨(x13_1), (wrap64 (x14_1 + 1)), (by first | rfl | (simp; done) | (simp [*]; done)), (by first | rfl | (simp; done) | (simp [*]; done)), H', ⟨by have := HK1.out; omega⟩, ⟨by (with_reducible repeat (first | apply Kd.R_alloc | apply Kd.R_drewN | apply Kd.R_drew)); exact HO_10.out⟩, ⟨by repeat (first | (with_reducible first | exact HB.out | apply below_alloc | apply pw_below_drewN | apply below_drew1) | exact HB.out)⟩⟩
              · rw [if_neg c15] at H
                exact absurd H (by simp)
            · rw [if_neg c14] at H
              exact absurd H (by simp)
          · rw [if_neg c13] at H
            have c13b0 : decide (x14_1 < 256) = false := decide_eq_false c13
            clear c13
            by_cases c19 : 0 ≤ a2
            · rw [if_pos c19] at H
              have c19b0 : decide (0 ≤ a2) = true := decide_eq_true c19
              clear c19
              by_cases c20 : a2 < (t282.length : Int)
              · rw [if_pos c20] at H
                have c20b0 : decide (a2 < (t282.length : Int)) = true := decide_eq_true c20
                clear c20
                by_cases c21 : (rd t282 a2) = 0
                · rw [if_pos c21] at H
                  have c21b0 : ((rd t282 a2) == 0) = true := beq_iff_eq.mpr c21
                  have c21b1 : ((rd t282 a2) != 0) = false := bne_eq_false_iff_eq.mpr c21
                  clear c21
                  obtain rfl := Option.some.inj H
                  obtain ⟨Ao22, co22, eo22⟩ := Kd.R_slice HO_10.out
                  subst eo22
                  have p287 : 0 ≤ (a2 : Int) := of_decide_eq_true (by first | (with_reducible assumption) | assumption)
                  have q287 : a2 < (t282.length : Int) := of_decide_eq_true (by first | (with_reducible assumption) | assumption)
                  obtain ⟨ad287, e287, hx287_0⟩ := Kd.at_int (Kd.R_reads' HO_10.out).2.2 a2 p287 q287
                  cases e287
                  replace p287 := eq_true p287
                  replace q287 := eq_true q287
                  go_wp2
                  repeat (go_quiet (fail); try go_wp2)
                  go_ret
                  exact ⟨by first | rfl | (simp [errW_none, errW_some] <;> rfl) | (simp only [← hji10]; first | rfl | (simp [errW_none, errW_some] <;> rfl)) | (simp [*, errW_none, errW_some] <;> rfl), by repeat (first | (with_reducible first | exact HB.out | apply below_alloc | apply pw_below_drewN | apply below_drew1) | exact HB.out)⟩
                · rw [if_neg c21] at H
                  have c21b0 : ((rd t282 a2) == 0) = false := beq_eq_false_iff_ne.mpr c21
                  have c21b1 : ((rd t282 a2) != 0) = true := bne_iff_ne.mpr c21
                  replace H := Option.bind_eq_some_iff.mp H
                  obtain ⟨⟨t290, t291⟩, A230, H⟩ := H
                  replace H : (if t281 = true then (if t291 = true then (if (wrap64 ((wrap64 (ji10 + t290)) * (rd t282 a2))) ≥ (wrap64 ((wrap64 ((rd t282 a2) + (Int.tmod (wrap64 (a3)) (rd t282 a2)))) * ji10)) then (some (decide ((wrap64 ((wrap64 (ji10 + t290)) * (rd t282 a2))) ≤ (wrap64 ((wrap64 ((wrap64 ((rd t282 a2) + (Int.tmod (wrap64 (a3)) (rd t282 a2)))) * ji10)) + (wrap64 ((wrap64 (x13_1 - 1)) * (rd t282 a2)))))))) else (some false)) else (some false)) else (some false)) = some r := H
                  have A23 := Aside0.mk A230
                  clear A230
                  by_cases c24 : t281 = true
                  · subst c24
                    have H1 : (if t291 = true then (if (wrap64 ((wrap64 (ji10 + t290)) * (rd t282 a2))) ≥ (wrap64 ((wrap64 ((rd t282 a2) + (Int.tmod (wrap64 (a3)) (rd t282 a2)))) * ji10)) then (some (decide ((wrap64 ((wrap64 (ji10 + t290)) * (rd t282 a2))) ≤ (wrap64 ((wrap64 ((wrap64 ((rd t282 a2) + (Int.tmod (wrap64 (a3)) (rd t282 a2)))) * ji10)) + (wrap64 ((wrap64 (x13_1 - 1)) * (rd t282 a2)))))))) else (some false)) else (some false)) = some r := by rw [if_pos rfl] at H; exact H
                    clear H
                    have H := H1
                    clear H1
                    by_cases c25 : t291 = true
                    · subst c25
                      have H1 : (if (wrap64 ((wrap64 (ji10 + t290)) * (rd t282 a2))) ≥ (wrap64 ((wrap64 ((rd t282 a2) + (Int.tmod (wrap64 (a3)) (rd t282 a2)))) * ji10)) then (some (decide ((wrap64 ((wrap64 (ji10 + t290)) * (rd t282 a2))) ≤ (wrap64 ((wrap64 ((wrap64 ((rd t282 a2) + (Int.tmod (wrap64 (a3)) (rd t282 a2)))) * ji10)) + (wrap64 ((wrap64 (x13_1 - 1)) * (rd t282 a2)))))))) else (some false)) = some r := by rw [if_pos rfl] at H; exact H
                      clear H
                      have H := H1
                      clear H1
                      by_cases c26 : (wrap64 ((wrap64 (ji10 + t290)) * (rd t282 a2))) ≥ (wrap64 ((wrap64 ((rd t282 a2) + (Int.tmod (wrap64 (a3)) (rd t282 a2)))) * ji10))
                      · rw [if_pos c26] at H
                        have c26b0 : decide ((wrap64 ((wrap64 ((rd t282 a2) + (Int.tmod (wrap64 (a3)) (rd t282 a2)))) * ji10)) ≤ (wrap64 ((wrap64 (ji10 + t290)) * (rd t282 a2)))) = true := decide_eq_true c26
                        clear c26
                        obtain rfl := Option.some.inj H
                        obtain ⟨Ao27, co27, eo27⟩ := Kd.R_slice HO_10.out
                        subst eo27
                        have p287 : 0 ≤ (a2 : Int) := of_decide_eq_true (by first | (with_reducible assumption) | assumption)
                        have q287 : a2 < (t282.length : Int) := of_decide_eq_true (by first | (with_reducible assumption) | assumption)
                        obtain ⟨ad287, e287, hx287_0⟩ := Kd.at_int (Kd.R_reads' HO_10.out).2.2 a2 p287 q287
                        cases e287
                        replace p287 := eq_true p287
                        replace q287 := eq_true q287
                        have p288 : 0 ≤ (a2 : Int) := of_decide_eq_true (by first | (with_reducible assumption) | assumption)
                        have q288 : a2 < (t282.length : Int) := of_decide_eq_true (by first | (with_reducible assumption) | assumption)
                        obtain ⟨ad288, e288, hx288_0⟩ := Kd.at_int (Kd.R_reads' HO_10.out).2.2 a2 p288 q288
                        obtain rfl : ad287 = ad288 := (by injection e288)
                        replace p288 := eq_true p288
                        replace q288 := eq_true q288
                        have p289 : 0 ≤ (a2 : Int) := of_decide_eq_true (by first | (with_reducible assumption) | assumption)
                        have q289 : a2 < (t282.length : Int) := of_decide_eq_true (by first | (with_reducible assumption) | assumption)
                        obtain ⟨ad289, e289, hx289_0⟩ := Kd.at_int (Kd.R_reads' HO_10.out).2.2 a2 p289 q289
                        obtain rfl : ad287 = ad289 := (by injection e289)
                        replace p289 := eq_true p289
                        replace q289 := eq_true q289
                        go_wp2_with (first | (go_at_call 16; (with_reducible refine (spread_Place.calls k1 _ _ t282 (wrap64 (a2)) (wrap64 ((rd t282 a2) + (Int.tmod (wrap64 (a3)) (rd t282 a2)))) t290 true _ ?side1 ?side2 A23.out).mono ?_); (case side1 => repeat (first | exact (Kd.R_reads' HO_10.out).2.2 | (with_reducible refine Kd.C_alloc ?_ _) | (with_reducible refine Kd.C_drewN ?_ _) | (with_reducible refine Kd.C_drew ?_))); (case side2 => exact (Kd.R_reads' HO_10.out).2.1); rintro e w28 ⟨rfl, hb⟩; have n0_ := Aside0.mk (Kd.R_below (by (with_reducible repeat (first | apply Kd.R_alloc | apply Kd.R_drewN | apply Kd.R_drew)); exact HO_10.out) hb); have n1_ := Aside0.mk (below_step (by repeat (first | (with_reducible first | exact HB.out | apply below_alloc | apply pw_below_drewN | apply below_drew1) | exact HB.out)) hb); clear HO_10; clear HB; have HO_10 := n0_; have HB := n1_; clear n0_ n1_; (try clear hb); (try clear hb2); (try clear hk); (try clear hi); have p292 : 0 ≤ (a2 : Int) := of_decide_eq_true (by first | (with_reducible assumption) | assumption); have q292 : a2 < (t282.length : Int) := of_decide_eq_true (by first | (with_reducible assumption) | assumption); obtain ⟨ad292, e292, hx292_0⟩ := Kd.at_int (Kd.R_reads' HO_10.out).2.2 a2 p292 q292; obtain rfl : ad287 = ad292 := (by injection e292); replace p292 := eq_true p292; replace q292 := eq_true q292; have p293 : 0 ≤ (a2 : Int) := of_decide_eq_true (by first | (with_reducible assumption) | assumption); have q293 : a2 < (t282.length : Int) := of_decide_eq_true (by first | (with_reducible assumption) | assumption); obtain ⟨ad293, e293, hx293_0⟩ := Kd.at_int (Kd.R_reads' HO_10.out).2.2 a2 p293 q293; obtain rfl : ad287 = ad293 := (by injection e293); replace p293 := eq_true p293; replace q293 := eq_true q293))
                        repeat (go_quiet (first | (go_at_call 16; (with_reducible refine (spread_Place.calls k1 _ _ t282 (wrap64 (a2)) (wrap64 ((rd t282 a2) + (Int.tmod (wrap64 (a3)) (rd t282 a2)))) t290 true _ ?side1 ?side2 A23.out).mono ?_); (case side1 => repeat (first | exact (Kd.R_reads' HO_10.out).2.2 | (with_reducible refine Kd.C_alloc ?_ _) | (with_reducible refine Kd.C_drewN ?_ _) | (with_reducible refine Kd.C_drew ?_))); (case side2 => exact (Kd.R_reads' HO_10.out).2.1); rintro e w28 ⟨rfl, hb⟩; have n0_ := Aside0.mk (Kd.R_below (by (with_reducible repeat (first | apply Kd.R_alloc | apply Kd.R_drewN | apply Kd.R_drew)); exact HO_10.out) hb); have n1_ := Aside0.mk (below_step (by repeat (first | (with_reducible first | exact HB.out | apply below_alloc | apply pw_below_drewN | apply below_drew1) | exact HB.out)) hb); clear HO_10; clear HB; have HO_10 := n0_; have HB := n1_; clear n0_ n1_; (try clear hb); (try clear hb2); (try clear hk); (try clear hi); have p292 : 0 ≤ (a2 : Int) := of_decide_eq_true (by first | (with_reducible assumption) | assumption); have q292 : a2 < (t282.length : Int) := of_decide_eq_true (by first | (with_reducible assumption) | assumption); obtain ⟨ad292, e292, hx292_0⟩ := Kd.at_int (Kd.R_reads' HO_10.out).2.2 a2 p292 q292; obtain rfl : ad287 = ad292 := (by injection e292); replace p292 := eq_true p292; replace q292 := eq_true q292; have p293 : 0 ≤ (a2 : Int) := of_decide_eq_true (by first | (with_reducible assumption) | assumption); have q293 : a2 < (t282.length : Int) := of_decide_eq_true (by first | (with_reducible assumption) | assumption); obtain ⟨ad293, e293, hx293_0⟩ := Kd.at_int (Kd.R_reads' HO_10.out).2.2 a2 p293 q293; obtain rfl : ad287 = ad293 := (by injection e293); replace p293 := eq_true p293; replace q293 := eq_true q293)); try go_wp2_with (first | (go_at_call 16; (with_reducible refine (spread_Place.calls k1 _ _ t282 (wrap64 (a2)) (wrap64 ((rd t282 a2) + (Int.tmod (wrap64 (a3)) (rd t282 a2)))) t290 true _ ?side1 ?side2 A23.out).mono ?_); (case side1 => repeat (first | exact (Kd.R_reads' HO_10.out).2.2 | (with_reducible refine Kd.C_alloc ?_ _) | (with_reducible refine Kd.C_drewN ?_ _) | (with_reducible refine Kd.C_drew ?_))); (case side2 => exact (Kd.R_reads' HO_10.out).2.1); rintro e w28 ⟨rfl, hb⟩; have n0_ := Aside0.mk (Kd.R_below (by (with_reducible repeat (first | apply Kd.R_alloc | apply Kd.R_drewN | apply Kd.R_drew)); exact HO_10.out) hb); have n1_ := Aside0.mk (below_step (by repeat (first | (with_reducible first | exact HB.out | apply below_alloc | apply pw_below_drewN | apply below_drew1) | exact HB.out)) hb); clear HO_10; clear HB; have HO_10 := n0_; have HB := n1_; clear n0_ n1_; (try clear hb); (try clear hb2); (try clear hk); (try clear hi); have p292 : 0 ≤ (a2 : Int) := of_decide_eq_true (by first | (with_reducible assumption) | assumption); have q292 : a2 < (t282.length : Int) := of_decide_eq_true (by first | (with_reducible assumption) | assumption); obtain ⟨ad292, e292, hx292_0⟩ := Kd.at_int (Kd.R_reads' HO_10.out).2.2 a2 p292 q292; obtain rfl : ad287 = ad292 := (by injection e292); replace p292 := eq_true p292; replace q292 := eq_true q292; have p293 : 0 ≤ (a2 : Int) := of_decide_eq_true (by first | (with_reducible assumption) | assumption); have q293 : a2 < (t282.length : Int) := of_decide_eq_true (by first | (with_reducible assumption) | assumption); obtain ⟨ad293, e293, hx293_0⟩ := Kd.at_int (Kd.R_reads' HO_10.out).2.2 a2 p293 q293; obtain rfl : ad287 = ad293 := (by injection e293); replace p293 := eq_true p293; replace q293 := eq_true q293)))
                        go_ret
                        exact ⟨by first | rfl | (simp [errW_none, errW_some] <;> rfl) | (simp only [← hji10]; first | rfl | (simp [errW_none, errW_some] <;> rfl)) | (simp [*, errW_none, errW_some] <;> rfl), by repeat (first | (with_reducible first | exact HB.out | apply below_alloc | apply pw_below_drewN | apply below_drew1) | exact HB.out)⟩
                      · rw [if_neg c26] at H
                        have c26b0 : decide ((wrap64 ((wrap64 ((rd t282 a2) + (Int.tmod (wrap64 (a3)) (rd t282 a2)))) * ji10)) ≤ (wrap64 ((wrap64 (ji10 + t290)) * (rd t282 a2)))) = false := decide_eq_false c26
                        clear c26
                        obtain rfl := Option.some.inj H
                        obtain ⟨Ao29, co29, eo29⟩ := Kd.R_slice HO_10.out
                        subst eo29
                        have p287 : 0 ≤ (a2 : Int) := of_decide_eq_true (by first | (with_reducible assumption) | assumption)
                        have q287 : a2 < (t282.length : Int) := of_decide_eq_true (by first | (with_reducible assumption) | assumption)
                        obtain ⟨ad287, e287, hx287_0⟩ := Kd.at_int (Kd.R_reads' HO_10.out).2.2 a2 p287 q287
                        cases e287
                        replace p287 := eq_true p287
                        replace q287 := eq_true q287
                        have p288 : 0 ≤ (a2 : Int) := of_decide_eq_true (by first | (with_reducible assumption) | assumption)
                        have q288 : a2 < (t282.length : Int) := of_decide_eq_true (by first | (with_reducible assumption) | assumption)
                        obtain ⟨ad288, e288, hx288_0⟩ := Kd.at_int (Kd.R_reads' HO_10.out).2.2 a2 p288 q288
                        obtain rfl : ad287 = ad288 := (by injection e288)
                        replace p288 := eq_true p288
                        replace q288 := eq_true q288
                        have p289 : 0 ≤ (a2 : Int) := of_decide_eq_true (by first | (with_reducible assumption) | assumption)
                        have q289 : a2 < (t282.length : Int) := of_decide_eq_true (by first | (with_reducible assumption) | assumption)
                        obtain ⟨ad289, e289, hx289_0⟩ := Kd.at_int (Kd.R_reads' HO_10.out).2.2 a2 p289 q289
                        obtain rfl : ad287 = ad289 := (by injection e289)
                        replace p289 := eq_true p289
                        replace q289 := eq_true q289
                        go_wp2_with (first | (go_at_call 16; (with_reducible refine (spread_Place.calls k1 _ _ t282 (wrap64 (a2)) (wrap64 ((rd t282 a2) + (Int.tmod (wrap64 (a3)) (rd t282 a2)))) t290 true _ ?side1 ?side2 A23.out).mono ?_); (case side1 => repeat (first | exact (Kd.R_reads' HO_10.out).2.2 | (with_reducible refine Kd.C_alloc ?_ _) | (with_reducible refine Kd.C_drewN ?_ _) | (with_reducible refine Kd.C_drew ?_))); (case side2 => exact (Kd.R_reads' HO_10.out).2.1); rintro e w30 ⟨rfl, hb⟩; have n0_ := Aside0.mk (Kd.R_below (by (with_reducible repeat (first | apply Kd.R_alloc | apply Kd.R_drewN | apply Kd.R_drew)); exact HO_10.out) hb); have n1_ := Aside0.mk (below_step (by repeat (first | (with_reducible first | exact HB.out | apply below_alloc | apply pw_below_drewN | apply below_drew1) | exact HB.out)) hb); clear HO_10; clear HB; have HO_10 := n0_; have HB := n1_; clear n0_ n1_; (try clear hb); (try clear hb2); (try clear hk); (try clear hi); have p292 : 0 ≤ (a2 : Int) := of_decide_eq_true (by first | (with_reducible assumption) | assumption); have q292 : a2 < (t282.length : Int) := of_decide_eq_true (by first | (with_reducible assumption) | assumption); obtain ⟨ad292, e292, hx292_0⟩ := Kd.at_int (Kd.R_reads' HO_10.out).2.2 a2 p292 q292; obtain rfl : ad287 = ad292 := (by injection e292); replace p292 := eq_true p292; replace q292 := eq_true q292))
                        repeat (go_quiet (first | (go_at_call 16; (with_reducible refine (spread_Place.calls k1 _ _ t282 (wrap64 (a2)) (wrap64 ((rd t282 a2) + (Int.tmod (wrap64 (a3)) (rd t282 a2)))) t290 true _ ?side1 ?side2 A23.out).mono ?_); (case side1 => repeat (first | exact (Kd.R_reads' HO_10.out).2.2 | (with_reducible refine Kd.C_alloc ?_ _) | (with_reducible refine Kd.C_drewN ?_ _) | (with_reducible refine Kd.C_drew ?_))); (case side2 => exact (Kd.R_reads' HO_10.out).2.1); rintro e w30 ⟨rfl, hb⟩; have n0_ := Aside0.mk (Kd.R_below (by (with_reducible repeat (first | apply Kd.R_alloc | apply Kd.R_drewN | apply Kd.R_drew)); exact HO_10.out) hb); have n1_ := Aside0.mk (below_step (by repeat (first | (with_reducible first | exact HB.out | apply below_alloc | apply pw_below_drewN | apply below_drew1) | exact HB.out)) hb); clear HO_10; clear HB; have HO_10 := n0_; have HB := n1_; clear n0_ n1_; (try clear hb); (try clear hb2); (try clear hk); (try clear hi); have p292 : 0 ≤ (a2 : Int) := of_decide_eq_true (by first | (with_reducible assumption) | assumption); have q292 : a2 < (t282.length : Int) := of_decide_eq_true (by first | (with_reducible assumption) | assumption); obtain ⟨ad292, e292, hx292_0⟩ := Kd.at_int (Kd.R_reads' HO_10.out).2.2 a2 p292 q292; obtain rfl : ad287 = ad292 := (by injection e292); replace p292 := eq_true p292; replace q292 := eq_true q292)); try go_wp2_with (first | (go_at_call 16; (with_reducible refine (spread_Place.calls k1 _ _ t282 (wrap64 (a2)) (wrap64 ((rd t282 a2) + (Int.tmod (wrap64 (a3)) (rd t282 a2)))) t290 true _ ?side1 ?side2 A23.out).mono ?_); (case side1 => repeat (first | exact (Kd.R_reads' HO_10.out).2.2 | (with_reducible refine Kd.C_alloc ?_ _) | (with_reducible refine Kd.C_drewN ?_ _) | (with_reducible refine Kd.C_drew ?_))); (case side2 => exact (Kd.R_reads' HO_10.out).2.1); rintro e w30 ⟨rfl, hb⟩; have n0_ := Aside0.mk (Kd.R_below (by (with_reducible repeat (first | apply Kd.R_alloc | apply Kd.R_drewN | apply Kd.R_drew)); exact HO_10.out) hb); have n1_ := Aside0.mk (below_step (by repeat (first | (with_reducible first | exact HB.out | apply below_alloc | apply pw_below_drewN | apply below_drew1) | exact HB.out)) hb); clear HO_10; clear HB; have HO_10 := n0_; have HB := n1_; clear n0_ n1_; (try clear hb); (try clear hb2); (try clear hk); (try clear hi); have p292 : 0 ≤ (a2 : Int) := of_decide_eq_true (by first | (with_reducible assumption) | assumption); have q292 : a2 < (t282.length : Int) := of_decide_eq_true (by first | (with_reducible assumption) | assumption); obtain ⟨ad292, e292, hx292_0⟩ := Kd.at_int (Kd.R_reads' HO_10.out).2.2 a2 p292 q292; obtain rfl : ad287 = ad292 := (by injection e292); replace p292 := eq_true p292; replace q292 := eq_true q292)))
                        go_ret
                        exact ⟨by first | rfl | (simp [errW_none, errW_some] <;> rfl) | (simp only [← hji10]; first | rfl | (simp [errW_none, errW_some] <;> rfl)) | (simp [*, errW_none, errW_some] <;> rfl), by repeat (first | (with_reducible first | exact HB.out | apply below_alloc | apply pw_below_drewN | apply below_drew1) | exact HB.out)⟩
                    · replace c25 := Bool.eq_false_iff.mpr c25
                      subst c25
                      have H1 : (some false) = some r := by rw [if_neg (show ¬ (false = true) by decide)] at H; exact H
                      clear H
                      have H := H1
                      clear H1
                      obtain rfl := Option.some.inj H
                      obtain ⟨Ao31, co31, eo31⟩ := Kd.R_slice HO_10.out
                      subst eo31
                      have p287 : 0 ≤ (a2 : Int) := of_decide_eq_true (by first | (with_reducible assumption) | assumption)
                      have q287 : a2 < (t282.length : Int) := of_decide_eq_true (by first | (with_reducible assumption) | assumption)
                      obtain ⟨ad287, e287, hx287_0⟩ := Kd.at_int (Kd.R_reads' HO_10.out).2.2 a2 p287 q287
                      cases e287
                      replace p287 := eq_true p287
                      replace q287 := eq_true q287
                      have p288 : 0 ≤ (a2 : Int) := of_decide_eq_true (by first | (with_reducible assumption) | assumption)
                      have q288 : a2 < (t282.length : Int) := of_decide_eq_true (by first | (with_reducible assumption) | assumption)
                      obtain ⟨ad288, e288, hx288_0⟩ := Kd.at_int (Kd.R_reads' HO_10.out).2.2 a2 p288 q288
                      obtain rfl : ad287 = ad288 := (by injection e288)
                      replace p288 := eq_true p288
                      replace q288 := eq_true q288
                      have p289 : 0 ≤ (a2 : Int) := of_decide_eq_true (by first | (with_reducible assumption) | assumption)
                      have q289 : a2 < (t282.length : Int) := of_decide_eq_true (by first | (with_reducible assumption) | assumption)
                      obtain ⟨ad289, e289, hx289_0⟩ := Kd.at_int (Kd.R_reads' HO_10.out).2.2 a2 p289 q289
                      obtain rfl : ad287 = ad289 := (by injection e289)
                      replace p289 := eq_true p289
                      replace q289 := eq_true q289
                      go_wp2_with (first | (go_at_call 16; (with_reducible refine (spread_Place.calls k1 _ _ t282 (wrap64 (a2)) (wrap64 ((rd t282 a2) + (Int.tmod (wrap64 (a3)) (rd t282 a2)))) t290 false _ ?side1 ?side2 A23.out).mono ?_); (case side1 => repeat (first | exact (Kd.R_reads' HO_10.out).2.2 | (with_reducible refine Kd.C_alloc ?_ _) | (with_reducible refine Kd.C_drewN ?_ _) | (with_reducible refine Kd.C_drew ?_))); (case side2 => exact (Kd.R_reads' HO_10.out).2.1); rintro e w32 ⟨rfl, hb⟩; have n0_ := Aside0.mk (Kd.R_below (by (with_reducible repeat (first | apply Kd.R_alloc | apply Kd.R_drewN | apply Kd.R_drew)); exact HO_10.out) hb); have n1_ := Aside0.mk (below_step (by repeat (first | (with_reducible first | exact HB.out | apply below_alloc | apply pw_below_drewN | apply below_drew1) | exact HB.out)) hb); clear HO_10; clear HB; have HO_10 := n0_; have HB := n1_; clear n0_ n1_; (try clear hb); (try clear hb2); (try clear hk); (try clear hi); have p292 : 0 ≤ (a2 : Int) := of_decide_eq_true (by first | (with_reducible assumption) | assumption); have q292 : a2 < (t282.length : Int) := of_decide_eq_true (by first | (with_reducible assumption) | assumption); obtain ⟨ad292, e292, hx292_0⟩ := Kd.at_int (Kd.R_reads' HO_10.out).2.2 a2 p292 q292; obtain rfl : ad287 = ad292 := (by injection e292); replace p292 := eq_true p292; replace q292 := eq_true q292))
                      repeat (go_quiet (first | (go_at_call 16; (with_reducible refine (spread_Place.calls k1 _ _ t282 (wrap64 (a2)) (wrap64 ((rd t282 a2) + (Int.tmod (wrap64 (a3)) (rd t282 a2)))) t290 false _ ?side1 ?side2 A23.out).mono ?_); (case side1 => repeat (first | exact (Kd.R_reads' HO_10.out).2.2 | (with_reducible refine Kd.C_alloc ?_ _) | (with_reducible refine Kd.C_drewN ?_ _) | (with_reducible refine Kd.C_drew ?_))); (case side2 => exact (Kd.R_reads' HO_10.out).2.1); rintro e w32 ⟨rfl, hb⟩; have n0_ := Aside0.mk (Kd.R_below (by (with_reducible repeat (first | apply Kd.R_alloc | apply Kd.R_drewN | apply Kd.R_drew)); exact HO_10.out) hb); have n1_ := Aside0.mk (below_step (by repeat (first | (with_reducible first | exact HB.out | apply below_alloc | apply pw_below_drewN | apply below_drew1) | exact HB.out)) hb); clear HO_10; clear HB; have HO_10 := n0_; have HB := n1_; clear n0_ n1_; (try clear hb); (try clear hb2); (try clear hk); (try clear hi); have p292 : 0 ≤ (a2 : Int) := of_decide_eq_true (by first | (with_reducible assumption) | assumption); have q292 : a2 < (t282.length : Int) := of_decide_eq_true (by first | (with_reducible assumption) | assumption); obtain ⟨ad292, e292, hx292_0⟩ := Kd.at_int (Kd.R_reads' HO_10.out).2.2 a2 p292 q292; obtain rfl : ad287 = ad292 := (by injection e292); replace p292 := eq_true p292; replace q292 := eq_true q292)); try go_wp2_with (first | (go_at_call 16; (with_reducible refine (spread_Place.calls k1 _ _ t282 (wrap64 (a2)) (wrap64 ((rd t282 a2) + (Int.tmod (wrap64 (a3)) (rd t282 a2)))) t290 false _ ?side1 ?side2 A23.out).mono ?_); (case side1 => repeat (first | exact (Kd.R_reads' HO_10.out).2.2 | (with_reducible refine Kd.C_alloc ?_ _) | (with_reducible refine Kd.C_drewN ?_ _) | (with_reducible refine Kd.C_drew ?_))); (case side2 => exact (Kd.R_reads' HO_10.out).2.1); rintro e w32 ⟨rfl, hb⟩; have n0_ := Aside0.mk (Kd.R_below (by (with_reducible repeat (first | apply Kd.R_alloc | apply Kd.R_drewN | apply Kd.R_drew)); exact HO_10.out) hb); have n1_ := Aside0.mk (below_step (by repeat (first | (with_reducible first | exact HB.out | apply below_alloc | apply pw_below_drewN | apply below_drew1) | exact HB.out)) hb); clear HO_10; clear HB; have HO_10 := n0_; have HB := n1_; clear n0_ n1_; (try clear hb); (try clear hb2); (try clear hk); (try clear hi); have p292 : 0 ≤ (a2 : Int) := of_decide_eq_true (by first | (with_reducible assumption) | assumption); have q292 : a2 < (t282.length : Int) := of_decide_eq_true (by first | (with_reducible assumption) | assumption); obtain ⟨ad292, e292, hx292_0⟩ := Kd.at_int (Kd.R_reads' HO_10.out).2.2 a2 p292 q292; obtain rfl : ad287 = ad292 := (by injection e292); replace p292 := eq_true p292; replace q292 := eq_true q292)))
                      go_ret
                      exact ⟨by first | rfl | (simp [errW_none, errW_some] <;> rfl) | (simp only [← hji10]; first | rfl | (simp [errW_none, errW_some] <;> rfl)) | (simp [*, errW_none, errW_some] <;> rfl), by repeat (first | (with_reducible first | exact HB.out | apply below_alloc | apply pw_below_drewN | apply below_drew1) | exact HB.out)⟩
                  · replace c24 := Bool.eq_false_iff.mpr c24
                    subst c24
                    have H1 : (some false) = some r := by rw [if_neg (show ¬ (false = true) by decide)] at H; exact H
                    clear H
                    have H := H1
                    clear H1
                    obtain rfl := Option.some.inj H
                    obtain ⟨Ao33, co33, eo33⟩ := Kd.R_slice HO_10.out
                    subst eo33
                    have p287 : 0 ≤ (a2 : Int) := of_decide_eq_true (by first | (with_reducible assumption) | assumption)
                    have q287 : a2 < (t282.length : Int) := of_decide_eq_true (by first | (with_reducible assumption) | assumption)
                    obtain ⟨ad287, e287, hx287_0⟩ := Kd.at_int (Kd.R_reads' HO_10.out).2.2 a2 p287 q287
                    cases e287
                    replace p287 := eq_true p287
                    replace q287 := eq_true q287
                    have p288 : 0 ≤ (a2 : Int) := of_decide_eq_true (by first | (with_reducible assumption) | assumption)
                    have q288 : a2 < (t282.length : Int) := of_decide_eq_true (by first | (with_reducible assumption) | assumption)
                    obtain ⟨ad288, e288, hx288_0⟩ := Kd.at_int (Kd.R_reads' HO_10.out).2.2 a2 p288 q288
                    obtain rfl : ad287 = ad288 := (by injection e288)
                    replace p288 := eq_true p288
                    replace q288 := eq_true q288
                    have p289 : 0 ≤ (a2 : Int) := of_decide_eq_true (by first | (with_reducible assumption) | assumption)
                    have q289 : a2 < (t282.length : Int) := of_decide_eq_true (by first | (with_reducible assumption) | assumption)
                    obtain ⟨ad289, e289, hx289_0⟩ := Kd.at_int (Kd.R_reads' HO_10.out).2.2 a2 p289 q289
                    obtain rfl : ad287 = ad289 := (by injection e289)
                    replace p289 := eq_true p289
                    replace q289 := eq_true q289
                    go_wp2_with (first | (go_at_call 16; (with_reducible refine (spread_Place.calls k1 _ _ t282 (wrap64 (a2)) (wrap64 ((rd t282 a2) + (Int.tmod (wrap64 (a3)) (rd t282 a2)))) t290 t291 _ ?side1 ?side2 A23.out).mono ?_); (case side1 => repeat (first | exact (Kd.R_reads' HO_10.out).2.2 | (with_reducible refine Kd.C_alloc ?_ _) | (with_reducible refine Kd.C_drewN ?_ _) | (with_reducible refine Kd.C_drew ?_))); (case side2 => exact (Kd.R_reads' HO_10.out).2.1); rintro e w34 ⟨rfl, hb⟩; have n0_ := Aside0.mk (Kd.R_below (by (with_reducible repeat (first | apply Kd.R_alloc | apply Kd.R_drewN | apply Kd.R_drew)); exact HO_10.out) hb); have n1_ := Aside0.mk (below_step (by repeat (first | (with_reducible first | exact HB.out | apply below_alloc | apply pw_below_drewN | apply below_drew1) | exact HB.out)) hb); clear HO_10; clear HB; have HO_10 := n0_; have HB := n1_; clear n0_ n1_; (try clear hb); (try clear hb2); (try clear hk); (try clear hi); have p292 : 0 ≤ (a2 : Int) := of_decide_eq_true (by first | (with_reducible assumption) | assumption); have q292 : a2 < (t282.length : Int) := of_decide_eq_true (by first | (with_reducible assumption) | assumption); obtain ⟨ad292, e292, hx292_0⟩ := Kd.at_int (Kd.R_reads' HO_10.out).2.2 a2 p292 q292; obtain rfl : ad287 = ad292 := (by injection e292); replace p292 := eq_true p292; replace q292 := eq_true q292))
                    repeat (go_quiet (first | (go_at_call 16; (with_reducible refine (spread_Place.calls k1 _ _ t282 (wrap64 (a2)) (wrap64 ((rd t282 a2) + (Int.tmod (wrap64 (a3)) (rd t282 a2)))) t290 t291 _ ?side1 ?side2 A23.out).mono ?_); (case side1 => repeat (first | exact (Kd.R_reads' HO_10.out).2.2 | (with_reducible refine Kd.C_alloc ?_ _) | (with_reducible refine Kd.C_drewN ?_ _) | (with_reducible refine Kd.C_drew ?_))); (case side2 => exact (Kd.R_reads' HO_10.out).2.1); rintro e w34 ⟨rfl, hb⟩; have n0_ := Aside0.mk (Kd.R_below (by (with_reducible repeat (first | apply Kd.R_alloc | apply Kd.R_drewN | apply Kd.R_drew)); exact HO_10.out) hb); have n1_ := Aside0.mk (below_step (by repeat (first | (with_reducible first | exact HB.out | apply below_alloc | apply pw_below_drewN | apply below_drew1) | exact HB.out)) hb); clear HO_10; clear HB; have HO_10 := n0_; have HB := n1_; clear n0_ n1_; (try clear hb); (try clear hb2); (try clear hk); (try clear hi); have p292 : 0 ≤ (a2 : Int) := of_decide_eq_true (by first | (with_reducible assumption) | assumption); have q292 : a2 < (t282.length : Int) := of_decide_eq_true (by first | (with_reducible assumption) | assumption); obtain ⟨ad292, e292, hx292_0⟩ := Kd.at_int (Kd.R_reads' HO_10.out).2.2 a2 p292 q292; obtain rfl : ad287 = ad292 := (by injection e292); replace p292 := eq_true p292; replace q292 := eq_true q292)); try go_wp2_with (first | (go_at_call 16; (with_reducible refine (spread_Place.calls k1 _ _ t282 (wrap64 (a2)) (wrap64 ((rd t282 a2) + (Int.tmod (wrap64 (a3)) (rd t282 a2)))) t290 t291 _ ?side1 ?side2 A23.out).mono ?_); (case side1 => repeat (first | exact (Kd.R_reads' HO_10.out).2.2 | (with_reducible refine Kd.C_alloc ?_ _) | (with_reducible refine Kd.C_drewN ?_ _) | (with_reducible refine Kd.C_drew ?_))); (case side2 => exact (Kd.R_reads' HO_10.out).2.1); rintro e w34 ⟨rfl, hb⟩; have n0_ := Aside0.mk (Kd.R_below (by (with_reducible repeat (first | apply Kd.R_alloc | apply Kd.R_drewN | apply Kd.R_drew)); exact HO_10.out) hb); have n1_ := Aside0.mk (below_step (by repeat (first | (with_reducible first | exact HB.out | apply below_alloc | apply pw_below_drewN | apply below_drew1) | exact HB.out)) hb); clear HO_10; clear HB; have HO_10 := n0_; have HB := n1_; clear n0_ n1_; (try clear hb); (try clear hb2); (try clear hk); (try clear hi); have p292 : 0 ≤ (a2 : Int) := of_decide_eq_true (by first | (with_reducible assumption) | assumption); have q292 : a2 < (t282.length : Int) := of_decide_eq_true (by first | (with_reducible assumption) | assumption); obtain ⟨ad292, e292, hx292_0⟩ := Kd.at_int (Kd.R_reads' HO_10.out).2.2 a2 p292 q292; obtain rfl : ad287 = ad292 := (by injection e292); replace p292 := eq_true p292; replace q292 := eq_true q292)))
                    go_ret
                    exact ⟨by first | rfl | (simp [errW_none, errW_some] <;> rfl) | (simp only [← hji10]; first | rfl | (simp [errW_none, errW_some] <;> rfl)) | (simp [*, errW_none, errW_some] <;> rfl), by repeat (first | (with_reducible first | exact HB.out | apply below_alloc | apply pw_below_drewN | apply below_drew1) | exact HB.out)⟩
              · rw [if_neg c20] at H
                exact absurd H (by simp)
            · rw [if_neg c19] at H
              exact absurd H (by simp)
    · rw [if_neg c9] at H
      exact absurd H (by simp)

/-- THE ONE PURE STATEMENT of puncheonlaw10_SpreadNear: yours. -/
def puncheonlaw10_SpreadNear.Pure : Prop := ∀ (l0 : List Int) (a1 : Int) (a2 : Int) (a3 : Int), l0.length ≤ maxLen → l0.length * 2 ≤ 140737488351232 → (∀ x ∈ l0, (Lit.int .u16 x).wf = true) → (Lit.int .u8 a1).wf = true → (Lit.int .u8 a2).wf = true → (Lit.int .u16 a3).wf = true → ∃ k, puncheonlaw10_SpreadNear.f k l0 a1 a2 a3 = some true
theorem puncheonlaw10_SpreadNear.walk (P : puncheonlaw10_SpreadNear.Pure) (a0 : Option Addr) (len0 cap0 : Nat) (z0 : List Int) (a1 : Int) (a2 : Int) (a3 : Int) (w : World) (w0 : (a0 = none ∧ len0 = 0 ∧ cap0 = 0 ∧ z0 = []) ∨ ∃ x, a0 = some x ∧ len0 ≤ cap0 ∧ cap0 ≤ maxLen ∧ z0.length = cap0 ∧ (∀ i, i < z0.length → w.cell? (x.add i) = some (.int .u16 (z0.getD i 0))) ∧ ∀ n ∈ z0, (Lit.int .u16 n).wf = true) (y0 : len0 * 2 ≤ 140737488351232) (w1 : (Lit.int .u8 a1).wf = true) (w2 : (Lit.int .u8 a2).wf = true) (w3 : (Lit.int .u16 a3).wf = true) :
    Calls Try.prog 6 #[.slice a0 len0 cap0, .int .u8 a1, .int .u8 a2, .int .u16 a3] w fun e w' => e = .returned (.bool true) ∧ Below w.heap.size w w' := by
  obtain ⟨l0, rfl, hr0, hm0, hw0, hc0⟩ := ReadsInt.ofRowC w0
  obtain ⟨k, h⟩ := P l0 a1 a2 a3 hm0 y0 hw0 w1 w2 w3
  refine (puncheonlaw10_SpreadNear.calls k _ _ l0 a1 a2 a3 true w (Kd.C_of_reads (d := (0 : Int)) (h1 := fun _ => rfl) hr0) hc0 h).mono ?_
  rintro e w' ⟨rfl, hd⟩
  exact ⟨rfl, hd⟩

/-! ### puncheonlaw10_SpreadFirst: function 7 -/
def puncheonlaw10_SpreadFirst.l0 : Nat → Bool → List Int → List Int → Int → Int → Option (Bool)
  | 0, _, _, _, _, _ => none
  | k + 1, x5, x6, x8, x10, x11 => if x11 < 256 then (if 0 ≤ x11 then (if x11 < (x6.length : Int) then (if (rd x6 x11) = 0 then (puncheonlaw10_SpreadFirst.l0 k x5 x6 x8 x10 (wrap64 (x11 + 1))) else (if x10 ≥ (x8.length : Int) then (some false) else (if 0 ≤ x10 then (if x10 < (x8.length : Int) then (if (wrap64 (rd x8 x10)) = x11 then (puncheonlaw10_SpreadFirst.l0 k x5 x6 x8 (wrap64 (x10 + 1)) (wrap64 (x11 + 1))) else (some false)) else (none)) else (none)))) else (none)) else (none)) else (some x5)
def puncheonlaw10_SpreadFirst.f (k : Nat) (l0 : List Int) (a1 : Int) : Option (Bool) := (puncheonlaw10_awake.f k).bind fun t294 => (if (l0.length : Int) > 80 then (some t294) else ((puncheonref08_Some.f k l0 a1).bind fun bt295 => ((spread_Of.f k bt295.1).bind fun bt299 => (if bt299.2 = 0 then (puncheonlaw10_SpreadFirst.l0 k t294 bt295.1 bt299.1 0 0) else (some false)))))
theorem puncheonlaw10_SpreadFirst.mono_l : ∀ k, (∀ y0 y1 y2 y3 y4, LeO (puncheonlaw10_SpreadFirst.l0 k y0 y1 y2 y3 y4) (puncheonlaw10_SpreadFirst.l0 (k + 1) y0 y1 y2 y3 y4))
  | 0 => fun _ _ _ _ _ r h => by simp [puncheonlaw10_SpreadFirst.l0] at h
  | k + 1 => by
    have ih0 := puncheonlaw10_SpreadFirst.mono_l k
    · intro y0 y1 y2 y3 y4
      unfold puncheonlaw10_SpreadFirst.l0
      repeat' first
      | (with_reducible exact ih0 _ _ _ _ _)
      | (with_reducible exact puncheonlaw10_awake.mono _)
      | (with_reducible exact puncheonref08_Some.mono _ _ _)
      | (with_reducible exact spread_Of.mono _ _)
      | (with_reducible exact LeO.refl _)
      | (with_reducible exact LeO.none _)
      | (with_reducible refine LeO.ite ?_ ?_)
      | (with_reducible refine LeO.bind ?_ (fun _ => ?_))
      | exact ih0 _ _ _ _ _
      | exact puncheonlaw10_awake.mono _
      | exact puncheonref08_Some.mono _ _ _
      | exact spread_Of.mono _ _
      | exact LeO.none _
      | refine LeO.ite ?_ ?_
      | refine LeO.bind ?_ (fun _ => ?_)
theorem puncheonlaw10_SpreadFirst.mono : ∀ a0 a1 k, LeO (puncheonlaw10_SpreadFirst.f k a0 a1) (puncheonlaw10_SpreadFirst.f (k + 1) a0 a1) := by
  intro a0 a1 k
  have ih0 := puncheonlaw10_SpreadFirst.mono_l k
  unfold puncheonlaw10_SpreadFirst.f
  repeat' first
      | (with_reducible exact ih0 _ _ _ _ _)
      | (with_reducible exact puncheonlaw10_awake.mono _)
      | (with_reducible exact puncheonref08_Some.mono _ _ _)
      | (with_reducible exact spread_Of.mono _ _)
      | (with_reducible exact LeO.refl _)
      | (with_reducible exact LeO.none _)
      | (with_reducible refine LeO.ite ?_ ?_)
      | (with_reducible refine LeO.bind ?_ (fun _ => ?_))
      | exact ih0 _ _ _ _ _
      | exact puncheonlaw10_awake.mono _
      | exact puncheonref08_Some.mono _ _ _
      | exact spread_Of.mono _ _
      | exact LeO.none _
      | refine LeO.ite ?_ ?_
      | refine LeO.bind ?_ (fun _ => ?_)
set_option maxHeartbeats 8000000 in
set_option maxRecDepth 100000 in
theorem puncheonlaw10_SpreadFirst.calls (k : Nat) (A0 : Option Addr) (c0 : Nat) (l0 : List Int) (a1 : Int) (r : Bool) (w : World) (hr0 : Kd.C (Kd.int .u16) w A0 l0.length l0) (hc0 : l0.length ≤ c0) (h : puncheonlaw10_SpreadFirst.f k l0 a1 = some r) :
    Calls Try.prog 7 #[.slice A0 l0.length c0, .int .u8 a1] w fun e w' => e = .returned (.bool r) ∧ Below w.heap.size w w' := by
  have HR0 := Aside0.mk hr0
  have HC0 := Aside0.mk hc0
  clear hr0 hc0
  have HB := Aside0.mk (Below.refl w.heap.size w)
  have H : ((puncheonlaw10_awake.f k).bind fun t294 => (if (l0.length : Int) > 80 then (some t294) else ((puncheonref08_Some.f k l0 a1).bind fun bt295 => ((spread_Of.f k bt295.1).bind fun bt299 => (if bt299.2 = 0 then (puncheonlaw10_SpreadFirst.l0 k t294 bt295.1 bt299.1 0 0) else (some false)))))) = some r := h
  clear h
  replace H := Option.bind_eq_some_iff.mp H
  obtain ⟨t294, A30, H⟩ := H
  replace H : (if (l0.length : Int) > 80 then (some t294) else ((puncheonref08_Some.f k l0 a1).bind fun bt295 => ((spread_Of.f k bt295.1).bind fun bt299 => (if bt299.2 = 0 then (puncheonlaw10_SpreadFirst.l0 k t294 bt295.1 bt299.1 0 0) else (some false))))) = some r := H
  have A3 := Aside0.mk A30
  clear A30
  by_cases c4 : (l0.length : Int) > 80
  · rw [if_pos c4] at H
    have c4b0 : decide (80 < (l0.length : Int)) = true := decide_eq_true c4
    have c4b1 : decide (80 < l0.length) = true := decide_eq_true (by omega)
    clear c4
    obtain rfl := Option.some.inj H
    go_enter Try.func7, Try.ntmps7
    go_wp2_with (first | ((with_reducible refine gate_callee (f := 8) rfl ?_); refine goesL_ (some 12) rfl rfl Try.func8 (by kernel_rfl) rfl #[] rfl (by (try simp only [List.map_toArray, List.map_cons, List.map_nil]); first | done | rfl | (simp only [List.length_drop, List.length_take]; rfl)) ?_; (with_reducible refine (puncheonlaw10_awake.calls k  t294 _ A3.out).mono ?_); rintro e w5 ⟨rfl, hb⟩; refine ⟨_, rfl, ?_⟩; have n0_ := Aside0.mk (below_step (by repeat (first | (with_reducible first | exact HB.out | apply below_alloc | apply pw_below_drewN | apply below_drew1) | exact HB.out)) hb); clear HB; have HB := n0_; clear n0_; (try clear hb); (try clear hb2); (try clear hk); (try clear hi)))
    go_ret
    exact ⟨by first | rfl | (simp [errW_none, errW_some] <;> rfl) | (simp [*, errW_none, errW_some] <;> rfl), by repeat (first | (with_reducible first | exact HB.out | apply below_alloc | apply pw_below_drewN | apply below_drew1) | exact HB.out)⟩
  · rw [if_neg c4] at H
    have c4b0 : decide (80 < (l0.length : Int)) = false := decide_eq_false c4
    have c4b1 : decide (80 < l0.length) = false := decide_eq_false (by omega)
    clear c4
    replace H := Option.bind_eq_some_iff.mp H
    obtain ⟨⟨t295, t296⟩, A60, H⟩ := H
    replace H : ((spread_Of.f k t295).bind fun bt299 => (if bt299.2 = 0 then (puncheonlaw10_SpreadFirst.l0 k t294 t295 bt299.1 0 0) else (some false))) = some r := H
    have A6 := Aside0.mk A60
    clear A60
    replace H := Option.bind_eq_some_iff.mp H
    obtain ⟨⟨t299, t300⟩, A70, H⟩ := H
    replace H : (if t300 = 0 then (puncheonlaw10_SpreadFirst.l0 k t294 t295 t299 0 0) else (some false)) = some r := H
    have A7 := Aside0.mk A70
    clear A70
    by_cases c8 : t300 = 0
    · rw [if_pos c8] at H
      have c8b0 : (t300 == 0) = true := beq_iff_eq.mpr c8
      have c8b1 : (t300 != 0) = false := bne_eq_false_iff_eq.mpr c8
      clear c8
      have H' := Aside0.mk H
      clear H
      go_enter Try.func7, Try.ntmps7
      go_wp2_with (first | ((with_reducible refine gate_callee (f := 8) rfl ?_); refine goesL_ (some 12) rfl rfl Try.func8 (by kernel_rfl) rfl #[] rfl (by (try simp only [List.map_toArray, List.map_cons, List.map_nil]); first | done | rfl | (simp only [List.length_drop, List.length_take]; rfl)) ?_; (with_reducible refine (puncheonlaw10_awake.calls k  t294 _ A3.out).mono ?_); rintro e w9 ⟨rfl, hb⟩; refine ⟨_, rfl, ?_⟩; have n0_ := Aside0.mk (below_step (by repeat (first | (with_reducible first | exact HB.out | apply below_alloc | apply pw_below_drewN | apply below_drew1) | exact HB.out)) hb); clear HB; have HB := n0_; clear n0_; (try clear hb); (try clear hb2); (try clear hk); (try clear hi)) | ((with_reducible refine gate_callee (f := 15) rfl ?_); refine goesL_ (some 20) rfl rfl Try.func15 (by kernel_rfl) rfl #[.slice A0 l0.length c0, .int .u8 a1] rfl (by (try simp only [List.map_toArray, List.map_cons, List.map_nil]); first | done | rfl | (simp only [List.length_drop, List.length_take]; rfl)) ?_; (with_reducible refine (puncheonref08_Some.calls k _ _ l0 a1 t295 t296 _ ?side1 ?side2 A6.out).mono ?_); (case side1 => repeat (first | exact (Kd.C_below HR0.out HB.out) | (with_reducible refine Kd.C_alloc ?_ _) | (with_reducible refine Kd.C_drewN ?_ _) | (with_reducible refine Kd.C_drew ?_))); (case side2 => exact HC0.out); rintro e w10 ⟨v297, rfl, ho0, hb⟩; refine ⟨_, rfl, ?_⟩; have n0_ := Aside0.mk (Kd.R_lower ho0 (below_size (by repeat (first | (with_reducible first | exact HB.out | apply below_alloc | apply pw_below_drewN | apply below_drew1) | exact HB.out)))); have n1_ := Aside0.mk (below_step (by repeat (first | (with_reducible first | exact HB.out | apply below_alloc | apply pw_below_drewN | apply below_drew1) | exact HB.out)) hb); clear HB; have HO298 := n0_; have HB := n1_; clear n0_ n1_; (try clear hb); (try clear hb2); (try clear hk); (try clear hi); (try clear ho0); obtain ⟨Ao11, co11, eo11⟩ := Kd.R_slice HO298.out; subst eo11) | ((with_reducible refine gate_callee (f := 10) rfl ?_); refine goesL_ (some 25) rfl rfl Try.func10 (by kernel_rfl) rfl #[.slice Ao11 t295.length co11] rfl (by (try simp only [List.map_toArray, List.map_cons, List.map_nil]); first | done | rfl | (simp only [List.length_drop, List.length_take]; rfl)) ?_; (with_reducible refine (spread_Of.calls k _ _ t295 t299 t300 _ ?side1 ?side2 A7.out).mono ?_); (case side1 => repeat (first | exact (Kd.R_reads' HO298.out).2.2 | (with_reducible refine Kd.C_alloc ?_ _) | (with_reducible refine Kd.C_drewN ?_ _) | (with_reducible refine Kd.C_drew ?_))); (case side2 => exact (Kd.R_reads' HO298.out).2.1); rintro e w12 ⟨v301, rfl, ho0, hb⟩; refine ⟨_, rfl, ?_⟩; have n0_ := Aside0.mk (Kd.R_below (by (with_reducible repeat (first | apply Kd.R_alloc | apply Kd.R_drewN | apply Kd.R_drew)); exact HO298.out) hb); have n1_ := Aside0.mk (Kd.R_lower ho0 (below_size (by repeat (first | (with_reducible first | exact HB.out | apply below_alloc | apply pw_below_drewN | apply below_drew1) | exact HB.out)))); have n2_ := Aside0.mk (below_step (by repeat (first | (with_reducible first | exact HB.out | apply below_alloc | apply pw_below_drewN | apply below_drew1) | exact HB.out)) hb); clear HO298; clear HB; have HO298 := n0_; have HO302 := n1_; have HB := n2_; clear n0_ n1_ n2_; (try clear hb); (try clear hb2); (try clear hk); (try clear hi); (try clear ho0)))
      go_loopg [10, 11] k (fun kq v10 v11 w' => ∃ (x10_1 : Int) (x11_1 : Int), v10 = .int .i64 x10_1 ∧ v11 = .int .i64 x11_1 ∧ Aside0 (puncheonlaw10_SpreadFirst.l0 kq t294 t295 t299 x10_1 x11_1 = some r) ∧ Aside0 (kq ≤ k) ∧ Aside0 (Kd.R (Kd.int .i64) 3 w' w.heap.size (fun _ => True) (.slice Ao11 t295.length co11) t295) ∧ Aside0 (Kd.R (Kd.int .u8) 5 w' w.heap.size (fun _ => True) v301 t299) ∧ Aside0 (Below w.heap.size w w'))
      case atStart => exact ⟨(0), (0), (by first | rfl | (simp; done) | (simp [*]; done)), (by first | rfl | (simp; done) | (simp [*]; done)), H', ⟨Nat.le_refl _⟩, ⟨by (with_reducible repeat (first | apply Kd.R_alloc | apply Kd.R_drewN | apply Kd.R_drew)); exact HO298.out⟩, ⟨by (with_reducible repeat (first | apply Kd.R_alloc | apply Kd.R_drewN | apply Kd.R_drew)); exact HO302.out⟩, ⟨by repeat (first | (with_reducible first | exact HB.out | apply below_alloc | apply pw_below_drewN | apply below_drew1) | exact HB.out)⟩⟩
      case round =>
        clear H'
        try clear c1
        try clear p2
        try clear c4
        try clear c4b0
        try clear c4b1
        try clear c7
        try clear c8
        try clear c8b0
        try clear c8b1
        try clear c10
        obtain ⟨x10_1, x11_1, rfl, rfl, HA, HK1, HO_6, HO_8, HB⟩ := hrel
        cases gk with
        | zero => exact absurd HA.out (by simp [puncheonlaw10_SpreadFirst.l0])
        | succ k1 =>
          have H := HA.out
          clear HA
          simp only [puncheonlaw10_SpreadFirst.l0] at H
          by_cases c13 : x11_1 < 256
          · rw [if_pos c13] at H
            have c13b0 : decide (x11_1 < 256) = true := decide_eq_true c13
            clear c13
            by_cases c14 : 0 ≤ x11_1
            · rw [if_pos c14] at H
              have c14b0 : decide (0 ≤ x11_1) = true := decide_eq_true c14
              clear c14
              by_cases c15 : x11_1 < (t295.length : Int)
              · rw [if_pos c15] at H
                have c15b0 : decide (x11_1 < (t295.length : Int)) = true := decide_eq_true c15
                clear c15
                by_cases c16 : (rd t295 x11_1) = 0
                · rw [if_pos c16] at H
                  have c16b0 : ((rd t295 x11_1) == 0) = true := beq_iff_eq.mpr c16
                  have c16b1 : ((rd t295 x11_1) != 0) = false := bne_eq_false_iff_eq.mpr c16
                  clear c16
                  have H' := Aside0.mk H
                  clear H
                  have p303 : 0 ≤ (x11_1 : Int) := of_decide_eq_true (by first | (with_reducible assumption) | assumption)
                  have q303 : x11_1 < (t295.length : Int) := of_decide_eq_true (by first | (with_reducible assumption) | assumption)
                  obtain ⟨ad303, e303, hx303_0⟩ := Kd.at_int (Kd.R_reads' HO_6.out).2.2 x11_1 p303 q303
                  cases e303
                  replace p303 := eq_true p303
                  replace q303 := eq_true q303
                  go_wp2
                  go_roundg k1
                  case measure => have := HK1.out; omega
                  case rel => exact ⟨(x10_1), (wrap64 (x11_1 + 1)), (by first | rfl | (simp; done) | (simp [*]; done)), (by first | rfl | (simp; done) | (simp [*]; done)), H', ⟨by have := HK1.out; omega⟩, ⟨by (with_reducible repeat (first | apply Kd.R_alloc | apply Kd.R_drewN | apply Kd.R_drew)); exact HO_6.out⟩, ⟨by (with_reducible repeat (first | apply Kd.R_alloc | apply Kd.R_drewN | apply Kd.R_drew)); exact HO_8.out⟩, ⟨by repeat (first | (with_reducible first | exact HB.out | apply below_alloc | apply pw_below_drewN | apply below_drew1) | exact HB.out)⟩⟩
                · rw [if_neg c16] at H
                  have c16b0 : ((rd t295 x11_1) == 0) = false := beq_eq_false_iff_ne.mpr c16
                  have c16b1 : ((rd t295 x11_1) != 0) = true := bne_iff_ne.mpr c16
                  by_cases c17 : x10_1 ≥ (t299.length : Int)
                  · rw [if_pos c17] at H
                    have c17b0 : decide ((t299.length : Int) ≤ x10_1) = true := decide_eq_true c17
                    clear c17
                    obtain rfl := Option.some.inj H
                    have p303 : 0 ≤ (x11_1 : Int) := of_decide_eq_true (by first | (with_reducible assumption) | assumption)
                    have q303 : x11_1 < (t295.length : Int) := of_decide_eq_true (by first | (with_reducible assumption) | assumption)
                    obtain ⟨ad303, e303, hx303_0⟩ := Kd.at_int (Kd.R_reads' HO_6.out).2.2 x11_1 p303 q303
                    cases e303
                    replace p303 := eq_true p303
                    replace q303 := eq_true q303
                    obtain ⟨Ao18, co18, eo18⟩ := Kd.R_slice HO_8.out
                    subst eo18
                    go_wp2
                    go_ret
                    exact ⟨by first | rfl | (simp [errW_none, errW_some] <;> rfl) | (simp [*, errW_none, errW_some] <;> rfl), by repeat (first | (with_reducible first | exact HB.out | apply below_alloc | apply pw_below_drewN | apply below_drew1) | exact HB.out)⟩
                  · rw [if_neg c17] at H
                    have c17b0 : decide ((t299.length : Int) ≤ x10_1) = false := decide_eq_false c17
                    clear c17
                    by_cases c19 : 0 ≤ x10_1
                    · rw [if_pos c19] at H
                      have c19b0 : decide (0 ≤ x10_1) = true := decide_eq_true c19
                      clear c19
                      by_cases c20 : x10_1 < (t299.length : Int)
                      · rw [if_pos c20] at H
                        have c20b0 : decide (x10_1 < (t299.length : Int)) = true := decide_eq_true c20
                        clear c20
                        by_cases c21 : (wrap64 (rd t299 x10_1)) = x11_1
                        · rw [if_pos c21] at H
                          have c21b0 : ((wrap64 (rd t299 x10_1)) == x11_1) = true := beq_iff_eq.mpr c21
                          have c21b1 : ((wrap64 (rd t299 x10_1)) != x11_1) = false := bne_eq_false_iff_eq.mpr c21
                          clear c21
                          have H' := Aside0.mk H
                          clear H
                          have p303 : 0 ≤ (x11_1 : Int) := of_decide_eq_true (by first | (with_reducible assumption) | assumption)
                          have q303 : x11_1 < (t295.length : Int) := of_decide_eq_true (by first | (with_reducible assumption) | assumption)
                          obtain ⟨ad303, e303, hx303_0⟩ := Kd.at_int (Kd.R_reads' HO_6.out).2.2 x11_1 p303 q303
                          cases e303
                          replace p303 := eq_true p303
                          replace q303 := eq_true q303
                          obtain ⟨Ao22, co22, eo22⟩ := Kd.R_slice HO_8.out
                          subst eo22
                          have p304 : 0 ≤ (x10_1 : Int) := of_decide_eq_true (by first | (with_reducible assumption) | assumption)
                          have q304 : x10_1 < (t299.length : Int) := of_decide_eq_true (by first | (with_reducible assumption) | assumption)
                          obtain ⟨ad304, e304, hx304_0⟩ := Kd.at_int (Kd.R_reads' HO_8.out).2.2 x10_1 p304 q304
                          cases e304
                          replace p304 := eq_true p304
                          replace q304 := eq_true q304
                          go_wp2
                          go_roundg k1
                          case measure => have := HK1.out; omega
                          case rel => exact ⟨(wrap64 (x10_1 + 1)), (wrap64 (x11_1 + 1)), (by first | rfl | (simp; done) | (simp [*]; done)), (by first | rfl | (simp; done) | (simp [*]; done)), H', ⟨by have := HK1.out; omega⟩, ⟨by (with_reducible repeat (first | apply Kd.R_alloc | apply Kd.R_drewN | apply Kd.R_drew)); exact HO_6.out⟩, ⟨by (with_reducible repeat (first | apply Kd.R_alloc | apply Kd.R_drewN | apply Kd.R_drew)); exact HO_8.out⟩, ⟨by repeat (first | (with_reducible first | exact HB.out | apply below_alloc | apply pw_below_drewN | apply below_drew1) | exact HB.out)⟩⟩
                        · rw [if_neg c21] at H
                          have c21b0 : ((wrap64 (rd t299 x10_1)) == x11_1) = false := beq_eq_false_iff_ne.mpr c21
                          have c21b1 : ((wrap64 (rd t299 x10_1)) != x11_1) = true := bne_iff_ne.mpr c21
                          obtain rfl := Option.some.inj H
                          have p303 : 0 ≤ (x11_1 : Int) := of_decide_eq_true (by first | (with_reducible assumption) | assumption)
                          have q303 : x11_1 < (t295.length : Int) := of_decide_eq_true (by first | (with_reducible assumption) | assumption)
                          obtain ⟨ad303, e303, hx303_0⟩ := Kd.at_int (Kd.R_reads' HO_6.out).2.2 x11_1 p303 q303
                          cases e303
                          replace p303 := eq_true p303
                          replace q303 := eq_true q303
                          obtain ⟨Ao23, co23, eo23⟩ := Kd.R_slice HO_8.out
                          subst eo23
                          have p304 : 0 ≤ (x10_1 : Int) := of_decide_eq_true (by first | (with_reducible assumption) | assumption)
                          have q304 : x10_1 < (t299.length : Int) := of_decide_eq_true (by first | (with_reducible assumption) | assumption)
                          obtain ⟨ad304, e304, hx304_0⟩ := Kd.at_int (Kd.R_reads' HO_8.out).2.2 x10_1 p304 q304
                          cases e304
                          replace p304 := eq_true p304
                          replace q304 := eq_true q304
                          go_wp2
                          go_ret
                          exact ⟨by first | rfl | (simp [errW_none, errW_some] <;> rfl) | (simp [*, errW_none, errW_some] <;> rfl), by repeat (first | (with_reducible first | exact HB.out | apply below_alloc | apply pw_below_drewN | apply below_drew1) | exact HB.out)⟩
                      · rw [if_neg c20] at H
                        exact absurd H (by simp)
                    · rw [if_neg c19] at H
                      exact absurd H (by simp)
              · rw [if_neg c15] at H
                exact absurd H (by simp)
            · rw [if_neg c14] at H
              exact absurd H (by simp)
          · rw [if_neg c13] at H
            have c13b0 : decide (x11_1 < 256) = false := decide_eq_false c13
            clear c13
            obtain rfl := Option.some.inj H
            go_wp2
            go_ret
            exact ⟨by first | rfl | (simp [errW_none, errW_some] <;> rfl) | (simp [*, errW_none, errW_some] <;> rfl), by repeat (first | (with_reducible first | exact HB.out | apply below_alloc | apply pw_below_drewN | apply below_drew1) | exact HB.out)⟩
    · rw [if_neg c8] at H
      have c8b0 : (t300 == 0) = false := beq_eq_false_iff_ne.mpr c8
      have c8b1 : (t300 != 0) = true := bne_iff_ne.mpr c8
      obtain rfl := Option.some.inj H
      go_enter Try.func7, Try.ntmps7
      go_wp2_with (first | ((with_reducible refine gate_callee (f := 8) rfl ?_); refine goesL_ (some 12) rfl rfl Try.func8 (by kernel_rfl) rfl #[] rfl (by (try simp only [List.map_toArray, List.map_cons, List.map_nil]); first | done | rfl | (simp only [List.length_drop, List.length_take]; rfl)) ?_; (with_reducible refine (puncheonlaw10_awake.calls k  t294 _ A3.out).mono ?_); rintro e w24 ⟨rfl, hb⟩; refine ⟨_, rfl, ?_⟩; have n0_ := Aside0.mk (below_step (by repeat (first | (with_reducible first | exact HB.out | apply below_alloc | apply pw_below_drewN | apply below_drew1) | exact HB.out)) hb); clear HB; have HB := n0_; clear n0_; (try clear hb); (try clear hb2); (try clear hk); (try clear hi)) | ((with_reducible refine gate_callee (f := 15) rfl ?_); refine goesL_ (some 20) rfl rfl Try.func15 (by kernel_rfl) rfl #[.slice A0 l0.length c0, .int .u8 a1] rfl (by (try simp only [List.map_toArray, List.map_cons, List.map_nil]); first | done | rfl | (simp only [List.length_drop, List.length_take]; rfl)) ?_; (with_reducible refine (puncheonref08_Some.calls k _ _ l0 a1 t295 t296 _ ?side1 ?side2 A6.out).mono ?_); (case side1 => repeat (first | exact (Kd.C_below HR0.out HB.out) | (with_reducible refine Kd.C_alloc ?_ _) | (with_reducible refine Kd.C_drewN ?_ _) | (with_reducible refine Kd.C_drew ?_))); (case side2 => exact HC0.out); rintro e w25 ⟨v297, rfl, ho0, hb⟩; refine ⟨_, rfl, ?_⟩; have n0_ := Aside0.mk (Kd.R_lower ho0 (below_size (by repeat (first | (with_reducible first | exact HB.out | apply below_alloc | apply pw_below_drewN | apply below_drew1) | exact HB.out)))); have n1_ := Aside0.mk (below_step (by repeat (first | (with_reducible first | exact HB.out | apply below_alloc | apply pw_below_drewN | apply below_drew1) | exact HB.out)) hb); clear HB; have HO298 := n0_; have HB := n1_; clear n0_ n1_; (try clear hb); (try clear hb2); (try clear hk); (try clear hi); (try clear ho0); obtain ⟨Ao26, co26, eo26⟩ := Kd.R_slice HO298.out; subst eo26) | ((with_reducible refine gate_callee (f := 10) rfl ?_); refine goesL_ (some 25) rfl rfl Try.func10 (by kernel_rfl) rfl #[.slice Ao26 t295.length co26] rfl (by (try simp only [List.map_toArray, List.map_cons, List.map_nil]); first | done | rfl | (simp only [List.length_drop, List.length_take]; rfl)) ?_; (with_reducible refine (spread_Of.calls k _ _ t295 t299 t300 _ ?side1 ?side2 A7.out).mono ?_); (case side1 => repeat (first | exact (Kd.R_reads' HO298.out).2.2 | (with_reducible refine Kd.C_alloc ?_ _) | (with_reducible refine Kd.C_drewN ?_ _) | (with_reducible refine Kd.C_drew ?_))); (case side2 => exact (Kd.R_reads' HO298.out).2.1); rintro e w27 ⟨v301, rfl, ho0, hb⟩; refine ⟨_, rfl, ?_⟩; have n0_ := Aside0.mk (Kd.R_below (by (with_reducible repeat (first | apply Kd.R_alloc | apply Kd.R_drewN | apply Kd.R_drew)); exact HO298.out) hb); have n1_ := Aside0.mk (Kd.R_lower ho0 (below_size (by repeat (first | (with_reducible first | exact HB.out | apply below_alloc | apply pw_below_drewN | apply below_drew1) | exact HB.out)))); have n2_ := Aside0.mk (below_step (by repeat (first | (with_reducible first | exact HB.out | apply below_alloc | apply pw_below_drewN | apply below_drew1) | exact HB.out)) hb); clear HO298; clear HB; have HO298 := n0_; have HO302 := n1_; have HB := n2_; clear n0_ n1_ n2_; (try clear hb); (try clear hb2); (try clear hk); (try clear hi); (try clear ho0)))
      go_ret
      exact ⟨by first | rfl | (simp [errW_none, errW_some] <;> rfl) | (simp [*, errW_none, errW_some] <;> rfl), by repeat (first | (with_reducible first | exact HB.out | apply below_alloc | apply pw_below_drewN | apply below_drew1) | exact HB.out)⟩

/-- THE ONE PURE STATEMENT of puncheonlaw10_SpreadFirst: yours. -/
def puncheonlaw10_SpreadFirst.Pure : Prop := ∀ (l0 : List Int) (a1 : Int), l0.length ≤ maxLen → l0.length * 2 ≤ 140737488351232 → (∀ x ∈ l0, (Lit.int .u16 x).wf = true) → (Lit.int .u8 a1).wf = true → ∃ k, puncheonlaw10_SpreadFirst.f k l0 a1 = some true
theorem puncheonlaw10_SpreadFirst.walk (P : puncheonlaw10_SpreadFirst.Pure) (a0 : Option Addr) (len0 cap0 : Nat) (z0 : List Int) (a1 : Int) (w : World) (w0 : (a0 = none ∧ len0 = 0 ∧ cap0 = 0 ∧ z0 = []) ∨ ∃ x, a0 = some x ∧ len0 ≤ cap0 ∧ cap0 ≤ maxLen ∧ z0.length = cap0 ∧ (∀ i, i < z0.length → w.cell? (x.add i) = some (.int .u16 (z0.getD i 0))) ∧ ∀ n ∈ z0, (Lit.int .u16 n).wf = true) (y0 : len0 * 2 ≤ 140737488351232) (w1 : (Lit.int .u8 a1).wf = true) :
    Calls Try.prog 7 #[.slice a0 len0 cap0, .int .u8 a1] w fun e w' => e = .returned (.bool true) ∧ Below w.heap.size w w' := by
  obtain ⟨l0, rfl, hr0, hm0, hw0, hc0⟩ := ReadsInt.ofRowC w0
  obtain ⟨k, h⟩ := P l0 a1 hm0 y0 hw0 w1
  refine (puncheonlaw10_SpreadFirst.calls k _ _ l0 a1 true w (Kd.C_of_reads (d := (0 : Int)) (h1 := fun _ => rfl) hr0) hc0 h).mono ?_
  rintro e w' ⟨rfl, hd⟩
  exact ⟨rfl, hd⟩

end Go.Proofs.Ytonicgihpjolmaa.PPr
