/- The machine's side of this seat's laws: what each function computes, and that its call computes it; written by a program (pr.py over the kit's print.py). -/
import Derived.Test.YtonicgihpjolmaaPPrx0
import Derived.Test.YtonicgihpjolmaaPPrx5
import Derived.Test.YtonicgihpjolmaaPPrx11
namespace Go.Proofs.Ytonicgihpjolmaa.PPr
open Go.RowKit Go.Proofs.YtonicgihpjolmaaW.PrintWords Go.Proofs.YtonicgihpjolmaaW.PrintLast Go.Proofs.YtonicgihpjolmaaW.PrintMore
attribute [local go_sem] max2_int min2_int max_two min_two max_three min_three max_four min_four   -- for this text's walks alone
set_option linter.unusedVariables false
set_option linter.unusedSimpArgs false

/-! ### puncheonlaw10_SpreadCounts: function 5 -/
mutual
def puncheonlaw10_SpreadCounts.j0 : Nat → Int → Bool → List Int → List Int → Bool → Option (Bool)
  | 0, _, _, _, _, _ => none
  | k + 1, x2, x7, x8, x10, x42 => if x42 = true then (some false) else (if 0 ≤ x2 then (if x2 < (x8.length : Int) then (puncheonlaw10_SpreadCounts.l0 k x2 x7 x8 x10 (rd x8 x2) 0) else (none)) else (none))
def puncheonlaw10_SpreadCounts.l0 : Nat → Int → Bool → List Int → List Int → Int → Int → Option (Bool)
  | 0, _, _, _, _, _, _ => none
  | k + 1, x2, x7, x8, x10, x12, x13 => if x13 < (x10.length : Int) then (if 0 ≤ x2 then (if x2 < (x8.length : Int) then (puncheonlaw10_SpreadCounts.j2 k x2 x7 x8 x10 x12 x13 (decide ((rd x8 x2) ≤ 32))) else (none)) else (none)) else (puncheonlaw10_SpreadCounts.j2 k x2 x7 x8 x10 x12 x13 false)
def puncheonlaw10_SpreadCounts.j2 : Nat → Int → Bool → List Int → List Int → Int → Int → Bool → Option (Bool)
  | 0, _, _, _, _, _, _, _ => none
  | k + 1, x2, x7, x8, x10, x12, x13, x57 => if x57 = true then (if 0 ≤ x13 then (if x13 < (x10.length : Int) then (if (rd x10 x13) = x2 then ((spread_Place.f k x8 (wrap64 (x2)) x12).bind fun bt275 => (if bt275.2 = true then (if bt275.1 = x13 then (puncheonlaw10_SpreadCounts.l0 k x2 x7 x8 x10 (wrap64 (x12 + 1)) (wrap64 (x13 + 1))) else (some false)) else (some false))) else (puncheonlaw10_SpreadCounts.l0 k x2 x7 x8 x10 x12 (wrap64 (x13 + 1)))) else (none)) else (none)) else (puncheonlaw10_SpreadCounts.l1 k x2 x7 x8 x10 x12 0 0)
def puncheonlaw10_SpreadCounts.l1 : Nat → Int → Bool → List Int → List Int → Int → Int → Int → Option (Bool)
  | 0, _, _, _, _, _, _, _ => none
  | k + 1, x2, x7, x8, x10, x12, x16, x17 => if x17 < (x10.length : Int) then (if 0 ≤ x17 then (if (rd x10 x17) = x2 then (puncheonlaw10_SpreadCounts.l1 k x2 x7 x8 x10 x12 (wrap64 (x16 + 1)) (wrap64 (x17 + 1))) else (puncheonlaw10_SpreadCounts.l1 k x2 x7 x8 x10 x12 x16 (wrap64 (x17 + 1)))) else (none)) else (if x7 = true then (if 0 ≤ x2 then (if x2 < (x8.length : Int) then (if x16 = (rd x8 x2) then (if (rd x8 x2) > 32 then (some true) else (some (x12 == (wrap64 (2 * (rd x8 x2)))))) else (some false)) else (none)) else (none)) else (some false))
end
def puncheonlaw10_SpreadCounts.f (k : Nat) (l0 : List Int) (a1 : Int) (a2 : Int) : Option (Bool) := (puncheonlaw10_awake.f k).bind fun t263 => (if (l0.length : Int) > 80 then (some t263) else ((puncheonref08_Some.f k l0 a1).bind fun bt264 => ((spread_Of.f k bt264.1).bind fun bt268 => (if bt268.2 = 0 then (if 0 ≤ bt264.2 then (puncheonlaw10_SpreadCounts.j0 k a2 t263 bt264.1 bt268.1 ((bt268.1.length : Int) != (shl .i64 1 bt264.2))) else (none)) else (puncheonlaw10_SpreadCounts.j0 k a2 t263 bt264.1 bt268.1 true)))))
theorem puncheonlaw10_SpreadCounts.mono_l : ∀ k, (∀ y0 y1 y2 y3 y4, LeO (puncheonlaw10_SpreadCounts.j0 k y0 y1 y2 y3 y4) (puncheonlaw10_SpreadCounts.j0 (k + 1) y0 y1 y2 y3 y4)) ∧ (∀ y0 y1 y2 y3 y4 y5, LeO (puncheonlaw10_SpreadCounts.l0 k y0 y1 y2 y3 y4 y5) (puncheonlaw10_SpreadCounts.l0 (k + 1) y0 y1 y2 y3 y4 y5)) ∧ (∀ y0 y1 y2 y3 y4 y5 y6, LeO (puncheonlaw10_SpreadCounts.j2 k y0 y1 y2 y3 y4 y5 y6) (puncheonlaw10_SpreadCounts.j2 (k + 1) y0 y1 y2 y3 y4 y5 y6)) ∧ (∀ y0 y1 y2 y3 y4 y5 y6, LeO (puncheonlaw10_SpreadCounts.l1 k y0 y1 y2 y3 y4 y5 y6) (puncheonlaw10_SpreadCounts.l1 (k + 1) y0 y1 y2 y3 y4 y5 y6))
  | 0 => ⟨fun _ _ _ _ _ r h => by simp [puncheonlaw10_SpreadCounts.j0] at h, fun _ _ _ _ _ _ r h => by simp [puncheonlaw10_SpreadCounts.l0] at h, fun _ _ _ _ _ _ _ r h => by simp [puncheonlaw10_SpreadCounts.j2] at h, fun _ _ _ _ _ _ _ r h => by simp [puncheonlaw10_SpreadCounts.l1] at h⟩
  | k + 1 => by
    obtain ⟨ih0, ih1, ih2, ih3⟩ := puncheonlaw10_SpreadCounts.mono_l k
    refine ⟨?_, ?_, ?_, ?_⟩
    · intro y0 y1 y2 y3 y4
      unfold puncheonlaw10_SpreadCounts.j0
      repeat' first
      | (with_reducible exact ih0 _ _ _ _ _)
      | (with_reducible exact ih1 _ _ _ _ _ _)
      | (with_reducible exact ih2 _ _ _ _ _ _ _)
      | (with_reducible exact ih3 _ _ _ _ _ _ _)
      | (with_reducible exact puncheonlaw10_awake.mono _)
      | (with_reducible exact puncheonref08_Some.mono _ _ _)
      | (with_reducible exact spread_Of.mono _ _)
      | (with_reducible exact spread_Place.mono _ _ _ _)
      | (with_reducible exact LeO.refl _)
      | (with_reducible exact LeO.none _)
      | (with_reducible refine LeO.ite ?_ ?_)
      | (with_reducible refine LeO.bind ?_ (fun _ => ?_))
      | exact ih0 _ _ _ _ _
      | exact ih1 _ _ _ _ _ _
      | exact ih2 _ _ _ _ _ _ _
      | exact ih3 _ _ _ _ _ _ _
      | exact puncheonlaw10_awake.mono _
      | exact puncheonref08_Some.mono _ _ _
      | exact spread_Of.mono _ _
      | exact spread_Place.mono _ _ _ _
      | exact LeO.none _
      | refine LeO.ite ?_ ?_
      | refine LeO.bind ?_ (fun _ => ?_)
    · intro y0 y1 y2 y3 y4 y5
      unfold puncheonlaw10_SpreadCounts.l0
      repeat' first
      | (with_reducible exact ih0 _ _ _ _ _)
      | (with_reducible exact ih1 _ _ _ _ _ _)
      | (with_reducible exact ih2 _ _ _ _ _ _ _)
      | (with_reducible exact ih3 _ _ _ _ _ _ _)
      | (with_reducible exact puncheonlaw10_awake.mono _)
      | (with_reducible exact puncheonref08_Some.mono _ _ _)
      | (with_reducible exact spread_Of.mono _ _)
      | (with_reducible exact spread_Place.mono _ _ _ _)
      | (with_reducible exact LeO.refl _)
      | (with_reducible exact LeO.none _)
      | (with_reducible refine LeO.ite ?_ ?_)
      | (with_reducible refine LeO.bind ?_ (fun _ => ?_))
      | exact ih0 _ _ _ _ _
      | exact ih1 _ _ _ _ _ _
      | exact ih2 _ _ _ _ _ _ _
      | exact ih3 _ _ _ _ _ _ _
      | exact puncheonlaw10_awake.mono _
      | exact puncheonref08_Some.mono _ _ _
      | exact spread_Of.mono _ _
      | exact spread_Place.mono _ _ _ _
      | exact LeO.none _
      | refine LeO.ite ?_ ?_
      | refine LeO.bind ?_ (fun _ => ?_)
    · intro y0 y1 y2 y3 y4 y5 y6
      unfold puncheonlaw10_SpreadCounts.j2
      repeat' first
      | (with_reducible exact ih0 _ _ _ _ _)
      | (with_reducible exact ih1 _ _ _ _ _ _)
      | (with_reducible exact ih2 _ _ _ _ _ _ _)
      | (with_reducible exact ih3 _ _ _ _ _ _ _)
      | (with_reducible exact puncheonlaw10_awake.mono _)
      | (with_reducible exact puncheonref08_Some.mono _ _ _)
      | (with_reducible exact spread_Of.mono _ _)
      | (with_reducible exact spread_Place.mono _ _ _ _)
      | (with_reducible exact LeO.refl _)
      | (with_reducible exact LeO.none _)
      | (with_reducible refine LeO.ite ?_ ?_)
      | (with_reducible refine LeO.bind ?_ (fun _ => ?_))
      | exact ih0 _ _ _ _ _
      | exact ih1 _ _ _ _ _ _
      | exact ih2 _ _ _ _ _ _ _
      | exact ih3 _ _ _ _ _ _ _
      | exact puncheonlaw10_awake.mono _
      | exact puncheonref08_Some.mono _ _ _
      | exact spread_Of.mono _ _
      | exact spread_Place.mono _ _ _ _
      | exact LeO.none _
      | refine LeO.ite ?_ ?_
      | refine LeO.bind ?_ (fun _ => ?_)
    · intro y0 y1 y2 y3 y4 y5 y6
      unfold puncheonlaw10_SpreadCounts.l1
      repeat' first
      | (with_reducible exact ih0 _ _ _ _ _)
      | (with_reducible exact ih1 _ _ _ _ _ _)
      | (with_reducible exact ih2 _ _ _ _ _ _ _)
      | (with_reducible exact ih3 _ _ _ _ _ _ _)
      | (with_reducible exact puncheonlaw10_awake.mono _)
      | (with_reducible exact puncheonref08_Some.mono _ _ _)
      | (with_reducible exact spread_Of.mono _ _)
      | (with_reducible exact spread_Place.mono _ _ _ _)
      | (with_reducible exact LeO.refl _)
      | (with_reducible exact LeO.none _)
      | (with_reducible refine LeO.ite ?_ ?_)
      | (with_reducible refine LeO.bind ?_ (fun _ => ?_))
      | exact ih0 _ _ _ _ _
      | exact ih1 _ _ _ _ _ _
      | exact ih2 _ _ _ _ _ _ _
      | exact ih3 _ _ _ _ _ _ _
      | exact puncheonlaw10_awake.mono _
      | exact puncheonref08_Some.mono _ _ _
      | exact spread_Of.mono _ _
      | exact spread_Place.mono _ _ _ _
      | exact LeO.none _
      | refine LeO.ite ?_ ?_
      | refine LeO.bind ?_ (fun _ => ?_)
theorem puncheonlaw10_SpreadCounts.mono : ∀ a0 a1 a2 k, LeO (puncheonlaw10_SpreadCounts.f k a0 a1 a2) (puncheonlaw10_SpreadCounts.f (k + 1) a0 a1 a2) := by
  intro a0 a1 a2 k
  obtain ⟨ih0, ih1, ih2, ih3⟩ := puncheonlaw10_SpreadCounts.mono_l k
  unfold puncheonlaw10_SpreadCounts.f
  repeat' first
      | (with_reducible exact ih0 _ _ _ _ _)
      | (with_reducible exact ih1 _ _ _ _ _ _)
      | (with_reducible exact ih2 _ _ _ _ _ _ _)
      | (with_reducible exact ih3 _ _ _ _ _ _ _)
      | (with_reducible exact puncheonlaw10_awake.mono _)
      | (with_reducible exact puncheonref08_Some.mono _ _ _)
      | (with_reducible exact spread_Of.mono _ _)
      | (with_reducible exact spread_Place.mono _ _ _ _)
      | (with_reducible exact LeO.refl _)
      | (with_reducible exact LeO.none _)
      | (with_reducible refine LeO.ite ?_ ?_)
      | (with_reducible refine LeO.bind ?_ (fun _ => ?_))
      | exact ih0 _ _ _ _ _
      | exact ih1 _ _ _ _ _ _
      | exact ih2 _ _ _ _ _ _ _
      | exact ih3 _ _ _ _ _ _ _
      | exact puncheonlaw10_awake.mono _
      | exact puncheonref08_Some.mono _ _ _
      | exact spread_Of.mono _ _
      | exact spread_Place.mono _ _ _ _
      | exact LeO.none _
      | refine LeO.ite ?_ ?_
      | refine LeO.bind ?_ (fun _ => ?_)
set_option maxHeartbeats 8000000 in
set_option maxRecDepth 100000 in
theorem puncheonlaw10_SpreadCounts.calls (k : Nat) (A0 : Option Addr) (c0 : Nat) (l0 : List Int) (a1 : Int) (a2 : Int) (r : Bool) (w : World) (hr0 : Kd.C (Kd.int .u16) w A0 l0.length l0) (hc0 : l0.length ≤ c0) (h : puncheonlaw10_SpreadCounts.f k l0 a1 a2 = some r) :
    Calls Try.prog 5 #[.slice A0 l0.length c0, .int .u8 a1, .int .u8 a2] w fun e w' => e = .returned (.bool r) ∧ Below w.heap.size w w' := by
  have HR0 := Aside0.mk hr0
  have HC0 := Aside0.mk hc0
  clear hr0 hc0
  have HB := Aside0.mk (Below.refl w.heap.size w)
  have H : ((puncheonlaw10_awake.f k).bind fun t263 => (if (l0.length : Int) > 80 then (some t263) else ((puncheonref08_Some.f k l0 a1).bind fun bt264 => ((spread_Of.f k bt264.1).bind fun bt268 => (if bt268.2 = 0 then (if 0 ≤ bt264.2 then (puncheonlaw10_SpreadCounts.j0 k a2 t263 bt264.1 bt268.1 ((bt268.1.length : Int) != (shl .i64 1 bt264.2))) else (none)) else (puncheonlaw10_SpreadCounts.j0 k a2 t263 bt264.1 bt268.1 true)))))) = some r := h
  clear h
  replace H := Option.bind_eq_some_iff.mp H
  obtain ⟨t263, A40, H⟩ := H
  replace H : (if (l0.length : Int) > 80 then (some t263) else ((puncheonref08_Some.f k l0 a1).bind fun bt264 => ((spread_Of.f k bt264.1).bind fun bt268 => (if bt268.2 = 0 then (if 0 ≤ bt264.2 then (puncheonlaw10_SpreadCounts.j0 k a2 t263 bt264.1 bt268.1 ((bt268.1.length : Int) != (shl .i64 1 bt264.2))) else (none)) else (puncheonlaw10_SpreadCounts.j0 k a2 t263 bt264.1 bt268.1 true))))) = some r := H
  have A4 := Aside0.mk A40
  clear A40
  by_cases c5 : (l0.length : Int) > 80
  · rw [if_pos c5] at H
    have c5b0 : decide (80 < (l0.length : Int)) = true := decide_eq_true c5
    have c5b1 : decide (80 < l0.length) = true := decide_eq_true (by omega)
    clear c5
    obtain rfl := Option.some.inj H
    go_enter Try.func5, Try.ntmps5
    go_wp2_with (first | ((with_reducible refine gate_callee (f := 8) rfl ?_); refine goesL_ (some 18) rfl rfl Try.func8 (by kernel_rfl) rfl #[] rfl (by (try simp only [List.map_toArray, List.map_cons, List.map_nil]); first | done | rfl | (simp only [List.length_drop, List.length_take]; rfl)) ?_; (with_reducible refine (puncheonlaw10_awake.calls k  t263 _ A4.out).mono ?_); rintro e w6 ⟨rfl, hb⟩; refine ⟨_, rfl, ?_⟩; have n0_ := Aside0.mk (below_step (by repeat (first | (with_reducible first | exact HB.out | apply below_alloc | apply pw_below_drewN | apply below_drew1) | exact HB.out)) hb); clear HB; have HB := n0_; clear n0_; (try clear hb); (try clear hb2); (try clear hk); (try clear hi)))
    go_ret
    exact ⟨by first | rfl | (simp [errW_none, errW_some] <;> rfl) | (simp [*, errW_none, errW_some] <;> rfl), by repeat (first | (with_reducible first | exact HB.out | apply below_alloc | apply pw_below_drewN | apply below_drew1) | exact HB.out)⟩
  · rw [if_neg c5] at H
    have c5b0 : decide (80 < (l0.length : Int)) = false := decide_eq_false c5
    have c5b1 : decide (80 < l0.length) = false := decide_eq_false (by omega)
    clear c5
    replace H := Option.bind_eq_some_iff.mp H
    obtain ⟨⟨t264, t265⟩, A70, H⟩ := H
    replace H : ((spread_Of.f k t264).bind fun bt268 => (if bt268.2 = 0 then (if 0 ≤ t265 then (puncheonlaw10_SpreadCounts.j0 k a2 t263 t264 bt268.1 ((bt268.1.length : Int) != (shl .i64 1 t265))) else (none)) else (puncheonlaw10_SpreadCounts.j0 k a2 t263 t264 bt268.1 true))) = some r := H
    have A7 := Aside0.mk A70
    clear A70
    replace H := Option.bind_eq_some_iff.mp H
    obtain ⟨⟨t268, t269⟩, A80, H⟩ := H
    replace H : (if t269 = 0 then (if 0 ≤ t265 then (puncheonlaw10_SpreadCounts.j0 k a2 t263 t264 t268 ((t268.length : Int) != (shl .i64 1 t265))) else (none)) else (puncheonlaw10_SpreadCounts.j0 k a2 t263 t264 t268 true)) = some r := H
    have A8 := Aside0.mk A80
    clear A80
    have HC9 := Aside0.mk H
    clear H
    go_enter Try.func5, Try.ntmps5
    go_upto_region 6 with (first | ((with_reducible refine gate_callee (f := 8) rfl ?_); refine goesL_ (some 18) rfl rfl Try.func8 (by kernel_rfl) rfl #[] rfl (by (try simp only [List.map_toArray, List.map_cons, List.map_nil]); first | done | rfl | (simp only [List.length_drop, List.length_take]; rfl)) ?_; (with_reducible refine (puncheonlaw10_awake.calls k  t263 _ A4.out).mono ?_); rintro e w10 ⟨rfl, hb⟩; refine ⟨_, rfl, ?_⟩; have n0_ := Aside0.mk (below_step (by repeat (first | (with_reducible first | exact HB.out | apply below_alloc | apply pw_below_drewN | apply below_drew1) | exact HB.out)) hb); clear HB; have HB := n0_; clear n0_; (try clear hb); (try clear hb2); (try clear hk); (try clear hi)) | ((with_reducible refine gate_callee (f := 15) rfl ?_); refine goesL_ (some 26) rfl rfl Try.func15 (by kernel_rfl) rfl #[.slice A0 l0.length c0, .int .u8 a1] rfl (by (try simp only [List.map_toArray, List.map_cons, List.map_nil]); first | done | rfl | (simp only [List.length_drop, List.length_take]; rfl)) ?_; (with_reducible refine (puncheonref08_Some.calls k _ _ l0 a1 t264 t265 _ ?side1 ?side2 A7.out).mono ?_); (case side1 => repeat (first | exact (Kd.C_below HR0.out HB.out) | (with_reducible refine Kd.C_alloc ?_ _) | (with_reducible refine Kd.C_drewN ?_ _) | (with_reducible refine Kd.C_drew ?_))); (case side2 => exact HC0.out); rintro e w11 ⟨v266, rfl, ho0, hb⟩; refine ⟨_, rfl, ?_⟩; have n0_ := Aside0.mk (Kd.R_lower ho0 (below_size (by repeat (first | (with_reducible first | exact HB.out | apply below_alloc | apply pw_below_drewN | apply below_drew1) | exact HB.out)))); have n1_ := Aside0.mk (below_step (by repeat (first | (with_reducible first | exact HB.out | apply below_alloc | apply pw_below_drewN | apply below_drew1) | exact HB.out)) hb); clear HB; have HO267 := n0_; have HB := n1_; clear n0_ n1_; (try clear hb); (try clear hb2); (try clear hk); (try clear hi); (try clear ho0); obtain ⟨Ao12, co12, eo12⟩ := Kd.R_slice HO267.out; subst eo12) | ((with_reducible refine gate_callee (f := 10) rfl ?_); refine goesL_ (some 31) rfl rfl Try.func10 (by kernel_rfl) rfl #[.slice Ao12 t264.length co12] rfl (by (try simp only [List.map_toArray, List.map_cons, List.map_nil]); first | done | rfl | (simp only [List.length_drop, List.length_take]; rfl)) ?_; (with_reducible refine (spread_Of.calls k _ _ t264 t268 t269 _ ?side1 ?side2 A8.out).mono ?_); (case side1 => repeat (first | exact (Kd.R_reads' HO267.out).2.2 | (with_reducible refine Kd.C_alloc ?_ _) | (with_reducible refine Kd.C_drewN ?_ _) | (with_reducible refine Kd.C_drew ?_))); (case side2 => exact (Kd.R_reads' HO267.out).2.1); rintro e w13 ⟨v270, rfl, ho0, hb⟩; refine ⟨_, rfl, ?_⟩; have n0_ := Aside0.mk (Kd.R_below (by (with_reducible repeat (first | apply Kd.R_alloc | apply Kd.R_drewN | apply Kd.R_drew)); exact HO267.out) hb); have n1_ := Aside0.mk (Kd.R_lower ho0 (below_size (by repeat (first | (with_reducible first | exact HB.out | apply below_alloc | apply pw_below_drewN | apply below_drew1) | exact HB.out)))); have n2_ := Aside0.mk (below_step (by repeat (first | (with_reducible first | exact HB.out | apply below_alloc | apply pw_below_drewN | apply below_drew1) | exact HB.out)) hb); clear HO267; clear HB; have HO267 := n0_; have HO271 := n1_; have HB := n2_; clear n0_ n1_ n2_; (try clear hb); (try clear hb2); (try clear hk); (try clear hi); (try clear ho0)))
    (try simp only [Act.put, List.setIfInBounds_toArray, List.set_cons_zero, List.set_cons_succ])
    go_cut [42] (fun v42 wc => ∃ (kq : Nat) (x42_8 : Bool), v42 = .bool x42_8 ∧ Aside0 (puncheonlaw10_SpreadCounts.j0 kq a2 t263 t264 t268 x42_8 = some r) ∧ Aside0 (kq ≤ k) ∧ Aside0 (Kd.R (Kd.int .i64) 3 wc w.heap.size (fun _ => True) (.slice Ao12 t264.length co12) t264) ∧ Aside0 (Kd.R (Kd.int .u8) 5 wc w.heap.size (fun _ => True) v270 t268) ∧ Aside0 (Below w.heap.size w wc))
    case first =>
      have H := HC9.out
      clear HC9
      by_cases c14 : t269 = 0
      · rw [if_pos c14] at H
        have c14b0 : (t269 == 0) = true := beq_iff_eq.mpr c14
        have c14b1 : (t269 != 0) = false := bne_eq_false_iff_eq.mpr c14
        clear c14
        (first | rw [c14b0] | (simp only [i64_w, i32_w]; rw [c14b0]) | skip)
        by_cases c15 : 0 ≤ t265
        · rw [if_pos c15] at H
          have c15b0 := eq_true c15
          have c15b1 : decide (0 ≤ t265) = true := decide_eq_true c15
          clear c15
          obtain ⟨ji16, hji16⟩ : ∃ j_ : Int, (shl .i64 1 t265) = j_ := ⟨_, rfl⟩
          replace H : (puncheonlaw10_SpreadCounts.j0 k a2 t263 t264 t268 ((t268.length : Int) != (ji16))) = some r := by first | (rw [hji16] at H; exact H) | (simp only [hji16] at H ⊢; exact H)
          have hji16_ : (IntKind.i64.wrap (1 * 2 ^ min t265.toNat 64)) = ji16 := hji16
          have hji16z : t265 ≤ 64 → (IntKind.i64.wrap (1 * 2 ^ t265.toNat)) = ji16 := shl_small hji16
          have hji16u : (IntKind.i64.wrap (2 ^ min t265.toNat 64)) = ji16 := by have h_ := hji16_; rw [Int.one_mul] at h_; exact h_
          have hji16v : t265 ≤ 64 → (IntKind.i64.wrap (2 ^ t265.toNat)) = ji16 := fun hle_ => by have h_ := hji16z hle_; rw [Int.one_mul] at h_; exact h_
          have hji16y : (wrap64 (1 * 2 ^ min t265.toNat 64)) = ji16 := (i64_w _).symm.trans hji16_
          have hji16x : t265 ≤ 64 → (wrap64 (1 * 2 ^ t265.toNat)) = ji16 := fun h_ => (i64_w _).symm.trans (hji16z h_)
          have H' := Aside0.mk H
          clear H
          obtain ⟨Ao17, co17, eo17⟩ := Kd.R_slice HO271.out
          subst eo17
          go_wp2
          subst hji16
          go_meet
          case rel => exact ⟨_, (((t268.length : Int) != ((shl .i64 1 t265)))), (by first | rfl | (simp; done) | (simp only [← hji16] <;> (first | rfl | simp)) | (simp [*]; done)), H', ⟨by first | omega | exact Nat.le_refl _⟩, ⟨by (with_reducible repeat (first | apply Kd.R_alloc | apply Kd.R_drewN | apply Kd.R_drew)); exact HO267.out⟩, ⟨by (with_reducible repeat (first | apply Kd.R_alloc | apply Kd.R_drewN | apply Kd.R_drew)); exact HO271.out⟩, ⟨by repeat (first | (with_reducible first | exact HB.out | apply below_alloc | apply pw_below_drewN | apply below_drew1) | exact HB.out)⟩⟩
        · rw [if_neg c15] at H
          exact absurd H (by simp)
      · rw [if_neg c14] at H
        have c14b0 : (t269 == 0) = false := beq_eq_false_iff_ne.mpr c14
        have c14b1 : (t269 != 0) = true := bne_iff_ne.mpr c14
        (first | rw [c14b0] | (simp only [i64_w, i32_w]; rw [c14b0]) | skip)
        have H' := Aside0.mk H
        clear H
        go_wp2
        go_meet
        case rel => exact ⟨_, (true), (by first | rfl | (simp; done) | (simp [*]; done)), H', ⟨by first | omega | exact Nat.le_refl _⟩, ⟨by (with_reducible repeat (first | apply Kd.R_alloc | apply Kd.R_drewN | apply Kd.R_drew)); exact HO267.out⟩, ⟨by (with_reducible repeat (first | apply Kd.R_alloc | apply Kd.R_drewN | apply Kd.R_drew)); exact HO271.out⟩, ⟨by repeat (first | (with_reducible first | exact HB.out | apply below_alloc | apply pw_below_drewN | apply below_drew1) | exact HB.out)⟩⟩
    case rest =>
      clear HC9
      try clear c1
      try clear p2
      try clear c5
      try clear c5b0
      try clear c5b1
      try clear p6
      try clear c8
      try clear c10
      try clear c14
      try clear c14b0
      try clear c14b1
      try clear c15
      try clear c15b0
      try clear c15b1
      obtain ⟨kq, x42_8, rfl, HA, HJ8, HO_8, HO_10, HB⟩ := hcut
      cases kq with
      | zero => exact absurd HA.out (by simp [puncheonlaw10_SpreadCounts.j0])
      | succ kj8 =>
        have H := HA.out
        clear HA
        simp only [puncheonlaw10_SpreadCounts.j0] at H
        by_cases c18 : x42_8 = true
        · subst c18
          have H1 : (some false) = some r := by rw [if_pos rfl] at H; exact H
          clear H
          have H := H1
          clear H1
          obtain rfl := Option.some.inj H
          go_wp2
          go_ret
          exact ⟨by first | rfl | (simp [errW_none, errW_some] <;> rfl) | (simp [*, errW_none, errW_some] <;> rfl), by repeat (first | (with_reducible first | exact HB.out | apply below_alloc | apply pw_below_drewN | apply below_drew1) | exact HB.out)⟩
        · replace c18 := Bool.eq_false_iff.mpr c18
          subst c18
          have H1 : (if 0 ≤ a2 then (if a2 < (t264.length : Int) then (puncheonlaw10_SpreadCounts.l0 kj8 a2 t263 t264 t268 (rd t264 a2) 0) else (none)) else (none)) = some r := by rw [if_neg (show ¬ (false = true) by decide)] at H; exact H
          clear H
          have H := H1
          clear H1
          by_cases c19 : 0 ≤ a2
          · rw [if_pos c19] at H
            have c19b0 : decide (0 ≤ a2) = true := decide_eq_true c19
            clear c19
            by_cases c20 : a2 < (t264.length : Int)
            · rw [if_pos c20] at H
              have c20b0 : decide (a2 < (t264.length : Int)) = true := decide_eq_true c20
              clear c20
              have H' := Aside0.mk H
              clear H
              have p272 : 0 ≤ (a2 : Int) := of_decide_eq_true (by first | (with_reducible assumption) | assumption)
              have q272 : a2 < (t264.length : Int) := of_decide_eq_true (by first | (with_reducible assumption) | assumption)
              obtain ⟨ad272, e272, hx272_0⟩ := Kd.at_int (Kd.R_reads' HO_8.out).2.2 a2 p272 q272
              cases e272
              replace p272 := eq_true p272
              replace q272 := eq_true q272
              go_wp2
              go_loopg [12, 13] kj8 (fun kq v12 v13 w' => ∃ (x12_2 : Int) (x13_2 : Int), v12 = .int .i64 x12_2 ∧ v13 = .int .i64 x13_2 ∧ Aside0 (puncheonlaw10_SpreadCounts.l0 kq a2 t263 t264 t268 x12_2 x13_2 = some r) ∧ Aside0 (kq ≤ kj8) ∧ Aside0 (Kd.R (Kd.int .i64) 3 w' w.heap.size (fun _ => True) (.slice (some ad272) t264.length co12) t264) ∧ Aside0 (Kd.R (Kd.int .u8) 5 w' w.heap.size (fun _ => True) v270 t268) ∧ Aside0 (Below w.heap.size w w'))
              case atStart => exact ⟨(rd t264 a2), (0), (by first | rfl | (simp; done) | (simp [*]; done)), (by first | rfl | (simp; done) | (simp [*]; done)), H', ⟨Nat.le_refl _⟩, ⟨by (with_reducible repeat (first | apply Kd.R_alloc | apply Kd.R_drewN | apply Kd.R_drew)); exact HO_8.out⟩, ⟨by (with_reducible repeat (first | apply Kd.R_alloc | apply Kd.R_drewN | apply Kd.R_drew)); exact HO_10.out⟩, ⟨by repeat (first | (with_reducible first | exact HB.out | apply below_alloc | apply pw_below_drewN | apply below_drew1) | exact HB.out)⟩⟩
              case round =>
                clear H'
                try clear c1
                try clear c2
                try clear p2
                try clear q2
                try clear hx2
                try clear c5
                try clear c5b0
                try clear c5b1
                try clear p6
                try clear c8
                try clear c10
                try clear c14
                try clear c14b0
                try clear c14b1
                try clear c15
                try clear c15b0
                try clear c15b1
                try clear c18
                try clear c19
                try clear c19b0
                try clear c20
                try clear c20b0
                try clear hx272_0
                try clear p2
                try clear p272
                try clear p6
                try clear q272
                obtain ⟨x12_2, x13_2, rfl, rfl, HA, HK2, HO_8, HO_10, HB⟩ := hrel
                cases gk with
                | zero => exact absurd HA.out (by simp [puncheonlaw10_SpreadCounts.l0])
                | succ k2 =>
                  have H := HA.out
                  clear HA
                  simp only [puncheonlaw10_SpreadCounts.l0] at H
                  have HC21 := Aside0.mk H
                  clear H
                  go_upto_region 10 with (fail)
                  go_cut [57] (fun v57 wc => ∃ (kq : Nat) (x57_20 : Bool), v57 = .bool x57_20 ∧ Aside0 (puncheonlaw10_SpreadCounts.j2 kq a2 t263 t264 t268 x12_2 x13_2 x57_20 = some r) ∧ Aside0 (kq ≤ k2) ∧ Aside0 (Kd.R (Kd.int .i64) 3 wc w.heap.size (fun _ => True) (.slice (some ad272) t264.length co12) t264) ∧ Aside0 (Kd.R (Kd.int .u8) 5 wc w.heap.size (fun _ => True) v270 t268) ∧ Aside0 (Below w.heap.size w wc))
                  case first =>
                    have H := HC21.out
                    clear HC21
                    by_cases c22 : x13_2 < (t268.length : Int)
                    · rw [if_pos c22] at H
                      have c22b0 : decide (x13_2 < (t268.length : Int)) = true := decide_eq_true c22
                      clear c22
                      (first | rw [c22b0] | (simp only [i64_w, i32_w]; rw [c22b0]) | skip)
                      by_cases c23 : 0 ≤ a2
                      · rw [if_pos c23] at H
                        have c23b0 : decide (0 ≤ a2) = true := decide_eq_true c23
                        clear c23
                        by_cases c24 : a2 < (t264.length : Int)
                        · rw [if_pos c24] at H
                          have c24b0 : decide (a2 < (t264.length : Int)) = true := decide_eq_true c24
                          clear c24
                          have H' := Aside0.mk H
                          clear H
                          obtain ⟨Ao25, co25, eo25⟩ := Kd.R_slice HO_10.out
                          subst eo25
                          have p273 : 0 ≤ (a2 : Int) := of_decide_eq_true (by first | (with_reducible assumption) | assumption)
                          have q273 : a2 < (t264.length : Int) := of_decide_eq_true (by first | (with_reducible assumption) | assumption)
                          obtain ⟨ad273, e273, hx273_0⟩ := Kd.at_int (Kd.R_reads' HO_8.out).2.2 a2 p273 q273
                          obtain rfl : ad272 = ad273 := (by injection e273)
                          replace p273 := eq_true p273
                          replace q273 := eq_true q273
                          go_wp2
                          go_meet
                          case rel => exact ⟨_, (decide ((rd t264 a2) ≤ 32)), (by first | rfl | (simp; done) | (simp [*]; done)), H', ⟨by have := HJ8.out; have := HK2.out; first | omega | exact Nat.le_refl _⟩, ⟨by (with_reducible repeat (first | apply Kd.R_alloc | apply Kd.R_drewN | apply Kd.R_drew)); exact HO_8.out⟩, ⟨by (with_reducible repeat (first | apply Kd.R_alloc | apply Kd.R_drewN | apply Kd.R_drew)); exact HO_10.out⟩, ⟨by repeat (first | (with_reducible first | exact HB.out | apply below_alloc | apply pw_below_drewN | apply below_drew1) | exact HB.out)⟩⟩
                        · rw [if_neg c24] at H
                          exact absurd H (by simp)
                      · rw [if_neg c23] at H
                        exact absurd H (by simp)
                    · rw [if_neg c22] at H
                      have c22b0 : decide (x13_2 < (t268.length : Int)) = false := decide_eq_false c22
                      clear c22
                      (first | rw [c22b0] | (simp only [i64_w, i32_w]; rw [c22b0]) | skip)
                      have H' := Aside0.mk H
                      clear H
                      obtain ⟨Ao26, co26, eo26⟩ := Kd.R_slice HO_10.out
                      subst eo26
                      go_wp2
                      go_meet
                      case rel => exact ⟨_, (false), (by first | rfl | (simp; done) | (simp [*]; done)), H', ⟨by have := HJ8.out; have := HK2.out; first | omega | exact Nat.le_refl _⟩, ⟨by (with_reducible repeat (first | apply Kd.R_alloc | apply Kd.R_drewN | apply Kd.R_drew)); exact HO_8.out⟩, ⟨by (with_reducible repeat (first | apply Kd.R_alloc | apply Kd.R_drewN | apply Kd.R_drew)); exact HO_10.out⟩, ⟨by repeat (first | (with_reducible first | exact HB.out | apply below_alloc | apply pw_below_drewN | apply below_drew1) | exact HB.out)⟩⟩
                  case rest =>
                    clear HC21
                    try clear c1
                    try clear c2
                    try clear p2
                    try clear q2
                    try clear hx2
                    try clear c5
                    try clear c5b0
                    try clear c5b1
                    try clear p6
                    try clear c8
                    try clear c10
                    try clear c14
                    try clear c14b0
                    try clear c14b1
                    try clear c15
                    try clear c15b0
                    try clear c15b1
                    try clear c18
                    try clear c19
                    try clear c19b0
                    try clear c20
                    try clear c20b0
                    try clear c22
                    try clear c22b0
                    try clear c23
                    try clear c23b0
                    try clear c24
                    try clear c24b0
                    try clear hx272_0
                    try clear hx273_0
                    try clear p2
                    try clear p272
                    try clear p273
                    try clear p6
                    try clear q2
                    try clear q272
                    try clear q273
                    obtain ⟨kq, x57_20, rfl, HA, HJ20, HO_8, HO_10, HB⟩ := hcut
                    cases kq with
                    | zero => exact absurd HA.out (by simp [puncheonlaw10_SpreadCounts.j2])
                    | succ kj20 =>
                      have H := HA.out
                      clear HA
                      simp only [puncheonlaw10_SpreadCounts.j2] at H
                      by_cases c27 : x57_20 = true
                      · subst c27
                        have H1 : (if 0 ≤ x13_2 then (if x13_2 < (t268.length : Int) then (if (rd t268 x13_2) = a2 then ((spread_Place.f kj20 t264 (wrap64 (a2)) x12_2).bind fun bt275 => (if bt275.2 = true then (if bt275.1 = x13_2 then (puncheonlaw10_SpreadCounts.l0 kj20 a2 t263 t264 t268 (wrap64 (x12_2 + 1)) (wrap64 (x13_2 + 1))) else (some false)) else (some false))) else (puncheonlaw10_SpreadCounts.l0 kj20 a2 t263 t264 t268 x12_2 (wrap64 (x13_2 + 1)))) else (none)) else (none)) = some r := by rw [if_pos rfl] at H; exact H
                        clear H
                        have H := H1
                        clear H1
                        by_cases c28 : 0 ≤ x13_2
                        · rw [if_pos c28] at H
                          have c28b0 : decide (0 ≤ x13_2) = true := decide_eq_true c28
                          clear c28
                          by_cases c29 : x13_2 < (t268.length : Int)
                          · rw [if_pos c29] at H
                            have c29b0 : decide (x13_2 < (t268.length : Int)) = true := decide_eq_true c29
                            clear c29
                            by_cases c30 : (rd t268 x13_2) = a2
                            · rw [if_pos c30] at H
                              have c30b0 : ((rd t268 x13_2) == a2) = true := beq_iff_eq.mpr c30
                              have c30b1 : ((rd t268 x13_2) != a2) = false := bne_eq_false_iff_eq.mpr c30
                              clear c30
                              replace H := Option.bind_eq_some_iff.mp H
                              obtain ⟨⟨t275, t276⟩, A310, H⟩ := H
                              replace H : (if t276 = true then (if t275 = x13_2 then (puncheonlaw10_SpreadCounts.l0 kj20 a2 t263 t264 t268 (wrap64 (x12_2 + 1)) (wrap64 (x13_2 + 1))) else (some false)) else (some false)) = some r := H
                              have A31 := Aside0.mk A310
                              clear A310
                              by_cases c32 : t276 = true
                              · subst c32
                                have H1 : (if t275 = x13_2 then (puncheonlaw10_SpreadCounts.l0 kj20 a2 t263 t264 t268 (wrap64 (x12_2 + 1)) (wrap64 (x13_2 + 1))) else (some false)) = some r := by rw [if_pos rfl] at H; exact H
                                clear H
                                have H := H1
                                clear H1
                                by_cases c33 : t275 = x13_2
                                · rw [if_pos c33] at H
                                  have c33b0 : (t275 == x13_2) = true := beq_iff_eq.mpr c33
                                  have c33b1 : (t275 != x13_2) = false := bne_eq_false_iff_eq.mpr c33
                                  clear c33
                                  have H' := Aside0.mk H
                                  clear H
                                  obtain ⟨Ao34, co34, eo34⟩ := Kd.R_slice HO_10.out
                                  subst eo34
                                  have p274 : 0 ≤ (x13_2 : Int) := of_decide_eq_true (by first | (with_reducible assumption) | assumption)
                                  have q274 : x13_2 < (t268.length : Int) := of_decide_eq_true (by first | (with_reducible assumption) | assumption)
                                  obtain ⟨ad274, e274, hx274_0⟩ := Kd.at_int (Kd.R_reads' HO_10.out).2.2 x13_2 p274 q274
                                  cases e274
                                  replace p274 := eq_true p274
                                  replace q274 := eq_true q274
                                  go_wp2_with (first | ((with_reducible refine gate_callee (f := 16) rfl ?_); refine goesL_ (some 71) rfl rfl Try.func16 (by kernel_rfl) rfl #[.slice (some ad272) t264.length co12, .int .i64 (wrap64 (a2)), .int .i64 x12_2] rfl (by (try simp only [List.map_toArray, List.map_cons, List.map_nil]); first | done | rfl | (simp only [List.length_drop, List.length_take]; rfl)) ?_; (with_reducible refine (spread_Place.calls kj20 _ _ t264 (wrap64 (a2)) x12_2 t275 true _ ?side1 ?side2 A31.out).mono ?_); (case side1 => repeat (first | exact (Kd.R_reads' HO_8.out).2.2 | (with_reducible refine Kd.C_alloc ?_ _) | (with_reducible refine Kd.C_drewN ?_ _) | (with_reducible refine Kd.C_drew ?_))); (case side2 => exact (Kd.R_reads' HO_8.out).2.1); rintro e w35 ⟨rfl, hb⟩; refine ⟨_, rfl, ?_⟩; have n0_ := Aside0.mk (Kd.R_below (by (with_reducible repeat (first | apply Kd.R_alloc | apply Kd.R_drewN | apply Kd.R_drew)); exact HO_8.out) hb); have n1_ := Aside0.mk (Kd.R_below (by (with_reducible repeat (first | apply Kd.R_alloc | apply Kd.R_drewN | apply Kd.R_drew)); exact HO_10.out) hb); have n2_ := Aside0.mk (below_step (by repeat (first | (with_reducible first | exact HB.out | apply below_alloc | apply pw_below_drewN | apply below_drew1) | exact HB.out)) hb); clear HO_8; clear HO_10; clear HB; have HO_8 := n0_; have HO_10 := n1_; have HB := n2_; clear n0_ n1_ n2_; (try clear hb); (try clear hb2); (try clear hk); (try clear hi)))
                                  go_roundg kj20
                                  case measure => have := HJ8.out; have := HK2.out; have := HJ20.out; omega
                                  case rel => exact ⟨(wrap64 (x12_2 + 1)), (wrap64 (x13_2 + 1)), (by first | rfl | (simp; done) | (simp [*]; done)), (by first | rfl | (simp; done) | (simp [*]; done)), H', ⟨by have := HJ8.out; have := HK2.out; have := HJ20.out; omega⟩, ⟨by (with_reducible repeat (first | apply Kd.R_alloc | apply Kd.R_drewN | apply Kd.R_drew)); exact HO_8.out⟩, ⟨by (with_reducible repeat (first | apply Kd.R_alloc | apply Kd.R_drewN | apply Kd.R_drew)); exact HO_10.out⟩, ⟨by repeat (first | (with_reducible first | exact HB.out | apply below_alloc | apply pw_below_drewN | apply below_drew1) | exact HB.out)⟩⟩
                                · rw [if_neg c33] at H
                                  have c33b0 : (t275 == x13_2) = false := beq_eq_false_iff_ne.mpr c33
                                  have c33b1 : (t275 != x13_2) = true := bne_iff_ne.mpr c33
                                  obtain rfl := Option.some.inj H
                                  obtain ⟨Ao36, co36, eo36⟩ := Kd.R_slice HO_10.out
                                  subst eo36
                                  have p274 : 0 ≤ (x13_2 : Int) := of_decide_eq_true (by first | (with_reducible assumption) | assumption)
                                  have q274 : x13_2 < (t268.length : Int) := of_decide_eq_true (by first | (with_reducible assumption) | assumption)
                                  obtain ⟨ad274, e274, hx274_0⟩ := Kd.at_int (Kd.R_reads' HO_10.out).2.2 x13_2 p274 q274
                                  cases e274
                                  replace p274 := eq_true p274
                                  replace q274 := eq_true q274
                                  go_wp2_with (first | ((with_reducible refine gate_callee (f := 16) rfl ?_); refine goesL_ (some 71) rfl rfl Try.func16 (by kernel_rfl) rfl #[.slice (some ad272) t264.length co12, .int .i64 (wrap64 (a2)), .int .i64 x12_2] rfl (by (try simp only [List.map_toArray, List.map_cons, List.map_nil]); first | done | rfl | (simp only [List.length_drop, List.length_take]; rfl)) ?_; (with_reducible refine (spread_Place.calls kj20 _ _ t264 (wrap64 (a2)) x12_2 t275 true _ ?side1 ?side2 A31.out).mono ?_); (case side1 => repeat (first | exact (Kd.R_reads' HO_8.out).2.2 | (with_reducible refine Kd.C_alloc ?_ _) | (with_reducible refine Kd.C_drewN ?_ _) | (with_reducible refine Kd.C_drew ?_))); (case side2 => exact (Kd.R_reads' HO_8.out).2.1); rintro e w37 ⟨rfl, hb⟩; refine ⟨_, rfl, ?_⟩; have n0_ := Aside0.mk (Kd.R_below (by (with_reducible repeat (first | apply Kd.R_alloc | apply Kd.R_drewN | apply Kd.R_drew)); exact HO_8.out) hb); have n1_ := Aside0.mk (Kd.R_below (by (with_reducible repeat (first | apply Kd.R_alloc | apply Kd.R_drewN | apply Kd.R_drew)); exact HO_10.out) hb); have n2_ := Aside0.mk (below_step (by repeat (first | (with_reducible first | exact HB.out | apply below_alloc | apply pw_below_drewN | apply below_drew1) | exact HB.out)) hb); clear HO_8; clear HO_10; clear HB; have HO_8 := n0_; have HO_10 := n1_; have HB := n2_; clear n0_ n1_ n2_; (try clear hb); (try clear hb2); (try clear hk); (try clear hi)))
                                  go_ret
                                  exact ⟨by first | rfl | (simp [errW_none, errW_some] <;> rfl) | (simp [*, errW_none, errW_some] <;> rfl), by repeat (first | (with_reducible first | exact HB.out | apply below_alloc | apply pw_below_drewN | apply below_drew1) | exact HB.out)⟩
                              · replace c32 := Bool.eq_false_iff.mpr c32
                                subst c32
                                have H1 : (some false) = some r := by rw [if_neg (show ¬ (false = true) by decide)] at H; exact H
                                clear H
                                have H := H1
                                clear H1
                                obtain rfl := Option.some.inj H
                                obtain ⟨Ao38, co38, eo38⟩ := Kd.R_slice HO_10.out
                                subst eo38
                                have p274 : 0 ≤ (x13_2 : Int) := of_decide_eq_true (by first | (with_reducible assumption) | assumption)
                                have q274 : x13_2 < (t268.length : Int) := of_decide_eq_true (by first | (with_reducible assumption) | assumption)
                                obtain ⟨ad274, e274, hx274_0⟩ := Kd.at_int (Kd.R_reads' HO_10.out).2.2 x13_2 p274 q274
                                cases e274
                                replace p274 := eq_true p274
                                replace q274 := eq_true q274
                                go_wp2_with (first | ((with_reducible refine gate_callee (f := 16) rfl ?_); refine goesL_ (some 71) rfl rfl Try.func16 (by kernel_rfl) rfl #[.slice (some ad272) t264.length co12, .int .i64 (wrap64 (a2)), .int .i64 x12_2] rfl (by (try simp only [List.map_toArray, List.map_cons, List.map_nil]); first | done | rfl | (simp only [List.length_drop, List.length_take]; rfl)) ?_; (with_reducible refine (spread_Place.calls kj20 _ _ t264 (wrap64 (a2)) x12_2 t275 false _ ?side1 ?side2 A31.out).mono ?_); (case side1 => repeat (first | exact (Kd.R_reads' HO_8.out).2.2 | (with_reducible refine Kd.C_alloc ?_ _) | (with_reducible refine Kd.C_drewN ?_ _) | (with_reducible refine Kd.C_drew ?_))); (case side2 => exact (Kd.R_reads' HO_8.out).2.1); rintro e w39 ⟨rfl, hb⟩; refine ⟨_, rfl, ?_⟩; have n0_ := Aside0.mk (Kd.R_below (by (with_reducible repeat (first | apply Kd.R_alloc | apply Kd.R_drewN | apply Kd.R_drew)); exact HO_8.out) hb); have n1_ := Aside0.mk (Kd.R_below (by (with_reducible repeat (first | apply Kd.R_alloc | apply Kd.R_drewN | apply Kd.R_drew)); exact HO_10.out) hb); have n2_ := Aside0.mk (below_step (by repeat (first | (with_reducible first | exact HB.out | apply below_alloc | apply pw_below_drewN | apply below_drew1) | exact HB.out)) hb); clear HO_8; clear HO_10; clear HB; have HO_8 := n0_; have HO_10 := n1_; have HB := n2_; clear n0_ n1_ n2_; (try clear hb); (try clear hb2); (try clear hk); (try clear hi)))
                                go_ret
                                exact ⟨by first | rfl | (simp [errW_none, errW_some] <;> rfl) | (simp [*, errW_none, errW_some] <;> rfl), by repeat (first | (with_reducible first | exact HB.out | apply below_alloc | apply pw_below_drewN | apply below_drew1) | exact HB.out)⟩
                            · rw [if_neg c30] at H
                              have c30b0 : ((rd t268 x13_2) == a2) = false := beq_eq_false_iff_ne.mpr c30
                              have c30b1 : ((rd t268 x13_2) != a2) = true := bne_iff_ne.mpr c30
                              have H' := Aside0.mk H
                              clear H
                              obtain ⟨Ao40, co40, eo40⟩ := Kd.R_slice HO_10.out
                              subst eo40
                              have p274 : 0 ≤ (x13_2 : Int) := of_decide_eq_true (by first | (with_reducible assumption) | assumption)
                              have q274 : x13_2 < (t268.length : Int) := of_decide_eq_true (by first | (with_reducible assumption) | assumption)
                              obtain ⟨ad274, e274, hx274_0⟩ := Kd.at_int (Kd.R_reads' HO_10.out).2.2 x13_2 p274 q274
                              cases e274
                              replace p274 := eq_true p274
                              replace q274 := eq_true q274
                              go_wp2
                              go_roundg kj20
                              case measure => have := HJ8.out; have := HK2.out; have := HJ20.out; omega
                              case rel => exact ⟨(x12_2), (wrap64 (x13_2 + 1)), (by first | rfl | (simp; done) | (simp [*]; done)), (by first | rfl | (simp; done) | (simp [*]; done)), H', ⟨by have := HJ8.out; have := HK2.out; have := HJ20.out; omega⟩, ⟨by (with_reducible repeat (first | apply Kd.R_alloc | apply Kd.R_drewN | apply Kd.R_drew)); exact HO_8.out⟩, ⟨by (with_reducible repeat (first | apply Kd.R_alloc | apply Kd.R_drewN | apply Kd.R_drew)); exact HO_10.out⟩, ⟨by repeat (first | (with_reducible first | exact HB.out | apply below_alloc | apply pw_below_drewN | apply below_drew1) | exact HB.out)⟩⟩
                          · rw [if_neg c29] at H
                            exact absurd H (by simp)
                        · rw [if_neg c28] at H
                          exact absurd H (by simp)
                      · replace c27 := Bool.eq_false_iff.mpr c27
                        subst c27
                        have H1 : (puncheonlaw10_SpreadCounts.l1 kj20 a2 t263 t264 t268 x12_2 0 0) = some r := by rw [if_neg (show ¬ (false = true) by decide)] at H; exact H
                        clear H
                        have H := H1
                        clear H1
                        have H' := Aside0.mk H
                        clear H
                        go_wp2
                        go_loopg [16, 17] kj20 (fun kq v16 v17 w' => ∃ (x16_4 : Int) (x17_4 : Int), v16 = .int .i64 x16_4 ∧ v17 = .int .i64 x17_4 ∧ Aside0 (puncheonlaw10_SpreadCounts.l1 kq a2 t263 t264 t268 x12_2 x16_4 x17_4 = some r) ∧ Aside0 (kq ≤ kj20) ∧ Aside0 (Kd.R (Kd.int .i64) 3 w' w.heap.size (fun _ => True) (.slice (some ad272) t264.length co12) t264) ∧ Aside0 (Kd.R (Kd.int .u8) 5 w' w.heap.size (fun _ => True) v270 t268) ∧ Aside0 (Below w.heap.size w w'))
                        case atStart => exact ⟨(0), (0), (by first | rfl | (simp; done) | (simp [*]; done)), (by first | rfl | (simp; done) | (simp [*]; done)), H', ⟨Nat.le_refl _⟩, ⟨by (with_reducible repeat (first | apply Kd.R_alloc | apply Kd.R_drewN | apply Kd.R_drew)); exact HO_8.out⟩, ⟨by (with_reducible repeat (first | apply Kd.R_alloc | apply Kd.R_drewN | apply Kd.R_drew)); exact HO_10.out⟩, ⟨by repeat (first | (with_reducible first | exact HB.out | apply below_alloc | apply pw_below_drewN | apply below_drew1) | exact HB.out)⟩⟩
                        case round =>
                          clear H'
                          try clear c1
                          try clear c2
                          try clear p2
                          try clear q2
                          try clear hx2
                          try clear c3
                          try clear c5
                          try clear c5b0
                          try clear c5b1
                          try clear p6
                          try clear c8
                          try clear c10
                          try clear c14
                          try clear c14b0
                          try clear c14b1
                          try clear c15
                          try clear c15b0
                          try clear c15b1
                          try clear c16
                          try clear c18
                          try clear c19
                          try clear c19b0
                          try clear c20
                          try clear c20b0
                          try clear c22
                          try clear c22b0
                          try clear c23
                          try clear c23b0
                          try clear c24
                          try clear c24b0
                          try clear c27
                          try clear p27
                          try clear q27
                          try clear hx27
                          try clear c28
                          try clear c28b0
                          try clear c29
                          try clear c29b0
                          try clear c30
                          try clear c30b0
                          try clear c30b1
                          try clear c32
                          try clear c33
                          try clear c33b0
                          try clear c33b1
                          try clear hx272_0
                          try clear hx273_0
                          try clear hx274_0
                          try clear p2
                          try clear p272
                          try clear p273
                          try clear p274
                          try clear p6
                          try clear q2
                          try clear q272
                          try clear q273
                          try clear q274
                          obtain ⟨x16_4, x17_4, rfl, rfl, HA, HK4, HO_8, HO_10, HB⟩ := hrel
                          cases gk with
                          | zero => exact absurd HA.out (by simp [puncheonlaw10_SpreadCounts.l1])
                          | succ k4 =>
                            have H := HA.out
                            clear HA
                            simp only [puncheonlaw10_SpreadCounts.l1] at H
                            by_cases c41 : x17_4 < (t268.length : Int)
                            · rw [if_pos c41] at H
                              have c41b0 : decide (x17_4 < (t268.length : Int)) = true := decide_eq_true c41
                              clear c41
                              by_cases c42 : 0 ≤ x17_4
                              · rw [if_pos c42] at H
                                have c42b0 : decide (0 ≤ x17_4) = true := decide_eq_true c42
                                clear c42
                                by_cases c43 : (rd t268 x17_4) = a2
                                · rw [if_pos c43] at H
                                  have c43b0 : ((rd t268 x17_4) == a2) = true := beq_iff_eq.mpr c43
                                  have c43b1 : ((rd t268 x17_4) != a2) = false := bne_eq_false_iff_eq.mpr c43
                                  clear c43
                                  have H' := Aside0.mk H
                                  clear H
                                  obtain ⟨Ao44, co44, eo44⟩ := Kd.R_slice HO_10.out
                                  subst eo44
                                  have p277 : 0 ≤ (x17_4 : Int) := of_decide_eq_true (by first | (with_reducible assumption) | assumption)
                                  have q277 : x17_4 < (t268.length : Int) := of_decide_eq_true (by first | (with_reducible assumption) | assumption)
                                  obtain ⟨ad277, e277, hx277_0⟩ := Kd.at_int (Kd.R_reads' HO_10.out).2.2 x17_4 p277 q277
                                  cases e277
                                  replace p277 := eq_true p277
                                  replace q277 := eq_true q277
                                  go_wp2
                                  go_roundg k4
                                  case measure => have := HJ8.out; have := HK2.out; have := HJ20.out; have := HK4.out; omega
                                  case rel => exact ⟨(wrap64 (x16_4 + 1)), (wrap64 (x17_4 + 1)), (by first | rfl | (simp; done) | (simp [*]; done)), (by first | rfl | (simp; done) | (simp [*]; done)), H', ⟨by have := HJ8.out; have := HK2.out; have := HJ20.out; have := HK4.out; omega⟩, ⟨by (with_reducible repeat (first | apply Kd.R_alloc | apply Kd.R_drewN | apply Kd.R_drew)); exact HO_8.out⟩, ⟨by (with_reducible repeat (first | apply Kd.R_alloc | apply Kd.R_drewN | apply Kd.R_drew)); exact HO_10.out⟩, ⟨by repeat (first | (with_reducible first | exact HB.out | apply below_alloc | apply pw_below_drewN | apply below_drew1) | exact HB.out)⟩⟩
                                · rw [if_neg c43] at H
                                  have c43b0 : ((rd t268 x17_4) == a2) = false := beq_eq_false_iff_ne.mpr c43
                                  have c43b1 : ((rd t268 x17_4) != a2) = true := bne_iff_ne.mpr c43
                                  have H' := Aside0.mk H
                                  clear H
                                  obtain ⟨Ao45, co45, eo45⟩ := Kd.R_slice HO_10.out
                                  subst eo45
                                  have p277 : 0 ≤ (x17_4 : Int) := of_decide_eq_true (by first | (with_reducible assumption) | assumption)
                                  have q277 : x17_4 < (t268.length : Int) := of_decide_eq_true (by first | (with_reducible assumption) | assumption)
                                  obtain ⟨ad277, e277, hx277_0⟩ := Kd.at_int (Kd.R_reads' HO_10.out).2.2 x17_4 p277 q277
                                  cases e277
                                  replace p277 := eq_true p277
                                  replace q277 := eq_true q277
                                  go_wp2
                                  go_roundg k4
                                  case measure => have := HJ8.out; have := HK2.out; have := HJ20.out; have := HK4.out; omega
                                  case rel => exact ⟨(x16_4), (wrap64 (x17_4 + 1)), (by first | rfl | (simp; done) | (simp [*]; done)), (by first | rfl | (simp; done) | (simp [*]; done)), H', ⟨by have := HJ8.out; have := HK2.out; have := HJ20.out; have := HK4.out; omega⟩, ⟨by (with_reducible repeat (first | apply Kd.R_alloc | apply Kd.R_drewN | apply Kd.R_drew)); exact HO_8.out⟩, ⟨by (with_reducible repeat (first | apply Kd.R_alloc | apply Kd.R_drewN | apply Kd.R_drew)); exact HO_10.out⟩, ⟨by repeat (first | (with_reducible first | exact HB.out | apply below_alloc | apply pw_below_drewN | apply below_drew1) | exact HB.out)⟩⟩
                              · rw [if_neg c42] at H
                                exact absurd H (by simp)
                            · rw [if_neg c41] at H
                              have c41b0 : decide (x17_4 < (t268.length : Int)) = false := decide_eq_false c41
                              clear c41
                              by_cases c46 : t263 = true
                              · subst c46
                                have H1 : (if 0 ≤ a2 then (if a2 < (t264.length : Int) then (if x16_4 = (rd t264 a2) then (if (rd t264 a2) > 32 then (some true) else (some (x12_2 == (wrap64 (2 * (rd t264 a2)))))) else (some false)) else (none)) else (none)) = some r := by rw [if_pos rfl] at H; exact H
                                clear H
                                have H := H1
                                clear H1
                                by_cases c47 : 0 ≤ a2
                                · rw [if_pos c47] at H
                                  have c47b0 : decide (0 ≤ a2) = true := decide_eq_true c47
                                  clear c47
                                  by_cases c48 : a2 < (t264.length : Int)
                                  · rw [if_pos c48] at H
                                    have c48b0 : decide (a2 < (t264.length : Int)) = true := decide_eq_true c48
                                    clear c48
                                    by_cases c49 : x16_4 = (rd t264 a2)
                                    · rw [if_pos c49] at H
                                      have c49b0 : (x16_4 == (rd t264 a2)) = true := beq_iff_eq.mpr c49
                                      have c49b1 : (x16_4 != (rd t264 a2)) = false := bne_eq_false_iff_eq.mpr c49
                                      clear c49
                                      by_cases c50 : (rd t264 a2) > 32
                                      · rw [if_pos c50] at H
                                        have c50b0 : decide (32 < (rd t264 a2)) = true := decide_eq_true c50
                                        clear c50
                                        obtain rfl := Option.some.inj H
                                        obtain ⟨Ao51, co51, eo51⟩ := Kd.R_slice HO_10.out
                                        subst eo51
                                        have p278 : 0 ≤ (a2 : Int) := of_decide_eq_true (by first | (with_reducible assumption) | assumption)
                                        have q278 : a2 < (t264.length : Int) := of_decide_eq_true (by first | (with_reducible assumption) | assumption)
                                        obtain ⟨ad278, e278, hx278_0⟩ := Kd.at_int (Kd.R_reads' HO_8.out).2.2 a2 p278 q278
                                        obtain rfl : ad272 = ad278 := (by injection e278)
                                        replace p278 := eq_true p278
                                        replace q278 := eq_true q278
                                        have p279 : 0 ≤ (a2 : Int) := of_decide_eq_true (by first | (with_reducible assumption) | assumption)
                                        have q279 : a2 < (t264.length : Int) := of_decide_eq_true (by first | (with_reducible assumption) | assumption)
                                        obtain ⟨ad279, e279, hx279_0⟩ := Kd.at_int (Kd.R_reads' HO_8.out).2.2 a2 p279 q279
                                        obtain rfl : ad272 = ad279 := (by injection e279)
                                        replace p279 := eq_true p279
                                        replace q279 := eq_true q279
                                        go_wp2
                                        go_ret
                                        exact ⟨by first | rfl | (simp [errW_none, errW_some] <;> rfl) | (simp [*, errW_none, errW_some] <;> rfl), by repeat (first | (with_reducible first | exact HB.out | apply below_alloc | apply pw_below_drewN | apply below_drew1) | exact HB.out)⟩
                                      · rw [if_neg c50] at H
                                        have c50b0 : decide (32 < (rd t264 a2)) = false := decide_eq_false c50
                                        clear c50
                                        obtain rfl := Option.some.inj H
                                        obtain ⟨Ao52, co52, eo52⟩ := Kd.R_slice HO_10.out
                                        subst eo52
                                        have p278 : 0 ≤ (a2 : Int) := of_decide_eq_true (by first | (with_reducible assumption) | assumption)
                                        have q278 : a2 < (t264.length : Int) := of_decide_eq_true (by first | (with_reducible assumption) | assumption)
                                        obtain ⟨ad278, e278, hx278_0⟩ := Kd.at_int (Kd.R_reads' HO_8.out).2.2 a2 p278 q278
                                        obtain rfl : ad272 = ad278 := (by injection e278)
                                        replace p278 := eq_true p278
                                        replace q278 := eq_true q278
                                        have p279 : 0 ≤ (a2 : Int) := of_decide_eq_true (by first | (with_reducible assumption) | assumption)
                                        have q279 : a2 < (t264.length : Int) := of_decide_eq_true (by first | (with_reducible assumption) | assumption)
                                        obtain ⟨ad279, e279, hx279_0⟩ := Kd.at_int (Kd.R_reads' HO_8.out).2.2 a2 p279 q279
                                        obtain rfl : ad272 = ad279 := (by injection e279)
                                        replace p279 := eq_true p279
                                        replace q279 := eq_true q279
                                        have p280 : 0 ≤ (a2 : Int) := of_decide_eq_true (by first | (with_reducible assumption) | assumption)
                                        have q280 : a2 < (t264.length : Int) := of_decide_eq_true (by first | (with_reducible assumption) | assumption)
                                        obtain ⟨ad280, e280, hx280_0⟩ := Kd.at_int (Kd.R_reads' HO_8.out).2.2 a2 p280 q280
                                        obtain rfl : ad272 = ad280 := (by injection e280)
                                        replace p280 := eq_true p280
                                        replace q280 := eq_true q280
                                        go_wp2
                                        go_ret
                                        exact ⟨by first | rfl | (simp [errW_none, errW_some] <;> rfl) | (simp [*, errW_none, errW_some] <;> rfl), by repeat (first | (with_reducible first | exact HB.out | apply below_alloc | apply pw_below_drewN | apply below_drew1) | exact HB.out)⟩
                                    · rw [if_neg c49] at H
                                      have c49b0 : (x16_4 == (rd t264 a2)) = false := beq_eq_false_iff_ne.mpr c49
                                      have c49b1 : (x16_4 != (rd t264 a2)) = true := bne_iff_ne.mpr c49
                                      obtain rfl := Option.some.inj H
                                      obtain ⟨Ao53, co53, eo53⟩ := Kd.R_slice HO_10.out
                                      subst eo53
                                      have p278 : 0 ≤ (a2 : Int) := of_decide_eq_true (by first | (with_reducible assumption) | assumption)
                                      have q278 : a2 < (t264.length : Int) := of_decide_eq_true (by first | (with_reducible assumption) | assumption)
                                      obtain ⟨ad278, e278, hx278_0⟩ := Kd.at_int (Kd.R_reads' HO_8.out).2.2 a2 p278 q278
                                      obtain rfl : ad272 = ad278 := (by injection e278)
                                      replace p278 := eq_true p278
                                      replace q278 := eq_true q278
                                      go_wp2
                                      go_ret
                                      exact ⟨by first | rfl | (simp [errW_none, errW_some] <;> rfl) | (simp [*, errW_none, errW_some] <;> rfl), by repeat (first | (with_reducible first | exact HB.out | apply below_alloc | apply pw_below_drewN | apply below_drew1) | exact HB.out)⟩
                                  · rw [if_neg c48] at H
                                    exact absurd H (by simp)
                                · rw [if_neg c47] at H
                                  exact absurd H (by simp)
                              · replace c46 := Bool.eq_false_iff.mpr c46
                                subst c46
                                have H1 : (some false) = some r := by rw [if_neg (show ¬ (false = true) by decide)] at H; exact H
                                clear H
                                have H := H1
                                clear H1
                                obtain rfl := Option.some.inj H
                                obtain ⟨Ao54, co54, eo54⟩ := Kd.R_slice HO_10.out
                                subst eo54
                                go_wp2
                                go_ret
                                exact ⟨by first | rfl | (simp [errW_none, errW_some] <;> rfl) | (simp [*, errW_none, errW_some] <;> rfl), by repeat (first | (with_reducible first | exact HB.out | apply below_alloc | apply pw_below_drewN | apply below_drew1) | exact HB.out)⟩
            · rw [if_neg c20] at H
              exact absurd H (by simp)
          · rw [if_neg c19] at H
            exact absurd H (by simp)

/-- THE ONE PURE STATEMENT of puncheonlaw10_SpreadCounts: yours. -/
def puncheonlaw10_SpreadCounts.Pure : Prop := ∀ (l0 : List Int) (a1 : Int) (a2 : Int), l0.length ≤ maxLen → l0.length * 2 ≤ 140737488351232 → (∀ x ∈ l0, (Lit.int .u16 x).wf = true) → (Lit.int .u8 a1).wf = true → (Lit.int .u8 a2).wf = true → ∃ k, puncheonlaw10_SpreadCounts.f k l0 a1 a2 = some true
theorem puncheonlaw10_SpreadCounts.walk (P : puncheonlaw10_SpreadCounts.Pure) (a0 : Option Addr) (len0 cap0 : Nat) (z0 : List Int) (a1 : Int) (a2 : Int) (w : World) (w0 : (a0 = none ∧ len0 = 0 ∧ cap0 = 0 ∧ z0 = []) ∨ ∃ x, a0 = some x ∧ len0 ≤ cap0 ∧ cap0 ≤ maxLen ∧ z0.length = cap0 ∧ (∀ i, i < z0.length → w.cell? (x.add i) = some (.int .u16 (z0.getD i 0))) ∧ ∀ n ∈ z0, (Lit.int .u16 n).wf = true) (y0 : len0 * 2 ≤ 140737488351232) (w1 : (Lit.int .u8 a1).wf = true) (w2 : (Lit.int .u8 a2).wf = true) :
    Calls Try.prog 5 #[.slice a0 len0 cap0, .int .u8 a1, .int .u8 a2] w fun e w' => e = .returned (.bool true) ∧ Below w.heap.size w w' := by
  obtain ⟨l0, rfl, hr0, hm0, hw0, hc0⟩ := ReadsInt.ofRowC w0
  obtain ⟨k, h⟩ := P l0 a1 a2 hm0 y0 hw0 w1 w2
  refine (puncheonlaw10_SpreadCounts.calls k _ _ l0 a1 a2 true w (Kd.C_of_reads (d := (0 : Int)) (h1 := fun _ => rfl) hr0) hc0 h).mono ?_
  rintro e w' ⟨rfl, hd⟩
  exact ⟨rfl, hd⟩

end Go.Proofs.Ytonicgihpjolmaa.PPr
