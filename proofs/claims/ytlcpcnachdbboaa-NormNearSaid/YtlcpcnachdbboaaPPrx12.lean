/- The machine's side of this seat's laws: what each function computes, and that its call computes it; written by a program (pr.py over the kit's print.py). -/
import Derived.Test.YtlcpcnachdbboaaPPrx0
import Derived.Test.YtlcpcnachdbboaaPPrx2
import Derived.Test.YtlcpcnachdbboaaPPrx6
import Derived.Test.YtlcpcnachdbboaaPPrx7
import Derived.Test.YtlcpcnachdbboaaPPrx10
namespace Go.Proofs.Ytlcpcnachdbboaa.PPr
open Go.RowKit Go.Proofs.YtlcpcnachdbboaaW.PrintWords Go.Proofs.YtlcpcnachdbboaaW.PrintLast Go.Proofs.YtlcpcnachdbboaaW.PrintMore
attribute [local go_sem] max2_int min2_int max_two min_two max_three min_three max_four min_four   -- for this text's walks alone
set_option linter.unusedVariables false
set_option linter.unusedSimpArgs false

/-! ### puncheonlaw08_NormNear: function 7 -/
def puncheonlaw08_NormNear.l0 : Nat → Int → Bool → List Int → Int → List Int → Int → Bool → Int → Option (Bool)
  | 0, _, _, _, _, _, _, _, _ => none
  | k + 1, x2, x7, x8, x9, x10, x12, x13, x14 => if x14 < 256 then (if 0 ≤ x14 then (if x14 < (x8.length : Int) then (if (rd x8 x14) > 0 then (if 0 ≤ x9 then (if (shl .i64 (rd x8 x14) x9) < x12 then (puncheonlaw08_NormNear.l0 k x2 x7 x8 x9 x10 x12 true (wrap64 (x14 + 1))) else (puncheonlaw08_NormNear.l0 k x2 x7 x8 x9 x10 x12 x13 (wrap64 (x14 + 1)))) else (none)) else (puncheonlaw08_NormNear.l0 k x2 x7 x8 x9 x10 x12 x13 (wrap64 (x14 + 1)))) else (none)) else (none)) else (if 0 ≤ x2 then (if x2 < (x8.length : Int) then (if 0 ≤ x9 then (if x7 = true then (if x2 < (x10.length : Int) then (if (wrap64 ((rd x10 x2) * x12)) < (wrap64 ((shl .i64 (rd x8 x2) x9) + x12)) then (if x13 = true then (some true) else (some (decide ((wrap64 ((rd x10 x2) * x12)) > (wrap64 ((shl .i64 (rd x8 x2) x9) - x12)))))) else (some false)) else (none)) else (some false)) else (none)) else (none)) else (none))
def puncheonlaw08_NormNear.f (k : Nat) (l0 : List Int) (a1 : Int) (a2 : Int) : Option (Bool) := (puncheonlaw08_awake.f k).bind fun t252 => (if (l0.length : Int) > 80 then (some t252) else ((puncheonref05_Some.f k l0).bind fun t253 => ((norm_Counts.f k t253 (wrap64 (1 + (wrap64 (Int.tmod a1 12))))).bind fun bt256 => (if bt256.2 = 0 then (if (bt256.1.length : Int) = 256 then ((hist_Total.f k t253).bind fun t260 => (puncheonlaw08_NormNear.l0 k a2 t252 t253 (wrap64 (1 + (wrap64 (Int.tmod a1 12)))) bt256.1 t260 false 0)) else (some false)) else (if t252 = true then (some ((bt256.1.length : Int) == 0)) else (some false))))))
theorem puncheonlaw08_NormNear.mono_l : ∀ k, (∀ y0 y1 y2 y3 y4 y5 y6 y7, LeO (puncheonlaw08_NormNear.l0 k y0 y1 y2 y3 y4 y5 y6 y7) (puncheonlaw08_NormNear.l0 (k + 1) y0 y1 y2 y3 y4 y5 y6 y7))
  | 0 => fun _ _ _ _ _ _ _ _ r h => by simp [puncheonlaw08_NormNear.l0] at h
  | k + 1 => by
    have ih0 := puncheonlaw08_NormNear.mono_l k
    · intro y0 y1 y2 y3 y4 y5 y6 y7
      unfold puncheonlaw08_NormNear.l0
      repeat' first
      | (with_reducible exact ih0 _ _ _ _ _ _ _ _)
      | (with_reducible exact hist_Total.mono _ _)
      | (with_reducible exact norm_Counts.mono _ _ _)
      | (with_reducible exact puncheonlaw08_awake.mono _)
      | (with_reducible exact puncheonref05_Some.mono _ _)
      | (with_reducible exact LeO.refl _)
      | (with_reducible exact LeO.none _)
      | (with_reducible refine LeO.ite ?_ ?_)
      | (with_reducible refine LeO.bind ?_ (fun _ => ?_))
      | exact ih0 _ _ _ _ _ _ _ _
      | exact hist_Total.mono _ _
      | exact norm_Counts.mono _ _ _
      | exact puncheonlaw08_awake.mono _
      | exact puncheonref05_Some.mono _ _
      | exact LeO.none _
      | refine LeO.ite ?_ ?_
      | refine LeO.bind ?_ (fun _ => ?_)
theorem puncheonlaw08_NormNear.mono : ∀ a0 a1 a2 k, LeO (puncheonlaw08_NormNear.f k a0 a1 a2) (puncheonlaw08_NormNear.f (k + 1) a0 a1 a2) := by
  intro a0 a1 a2 k
  have ih0 := puncheonlaw08_NormNear.mono_l k
  unfold puncheonlaw08_NormNear.f
  repeat' first
      | (with_reducible exact ih0 _ _ _ _ _ _ _ _)
      | (with_reducible exact hist_Total.mono _ _)
      | (with_reducible exact norm_Counts.mono _ _ _)
      | (with_reducible exact puncheonlaw08_awake.mono _)
      | (with_reducible exact puncheonref05_Some.mono _ _)
      | (with_reducible exact LeO.refl _)
      | (with_reducible exact LeO.none _)
      | (with_reducible refine LeO.ite ?_ ?_)
      | (with_reducible refine LeO.bind ?_ (fun _ => ?_))
      | exact ih0 _ _ _ _ _ _ _ _
      | exact hist_Total.mono _ _
      | exact norm_Counts.mono _ _ _
      | exact puncheonlaw08_awake.mono _
      | exact puncheonref05_Some.mono _ _
      | exact LeO.none _
      | refine LeO.ite ?_ ?_
      | refine LeO.bind ?_ (fun _ => ?_)
set_option maxHeartbeats 8000000 in
set_option maxRecDepth 100000 in
theorem puncheonlaw08_NormNear.calls (k : Nat) (A0 : Option Addr) (c0 : Nat) (l0 : List Int) (a1 : Int) (a2 : Int) (r : Bool) (w : World) (hr0 : Kd.C (Kd.int .u16) w A0 l0.length l0) (hc0 : l0.length ≤ c0) (h : puncheonlaw08_NormNear.f k l0 a1 a2 = some r) :
    Calls Try.prog 7 #[.slice A0 l0.length c0, .int .u8 a1, .int .u8 a2] w fun e w' => e = .returned (.bool r) ∧ Below w.heap.size w w' := by
  have HR0 := Aside0.mk hr0
  have HC0 := Aside0.mk hc0
  clear hr0 hc0
  have HB := Aside0.mk (Below.refl w.heap.size w)
  have H : ((puncheonlaw08_awake.f k).bind fun t252 => (if (l0.length : Int) > 80 then (some t252) else ((puncheonref05_Some.f k l0).bind fun t253 => ((norm_Counts.f k t253 (wrap64 (1 + (wrap64 (Int.tmod a1 12))))).bind fun bt256 => (if bt256.2 = 0 then (if (bt256.1.length : Int) = 256 then ((hist_Total.f k t253).bind fun t260 => (puncheonlaw08_NormNear.l0 k a2 t252 t253 (wrap64 (1 + (wrap64 (Int.tmod a1 12)))) bt256.1 t260 false 0)) else (some false)) else (if t252 = true then (some ((bt256.1.length : Int) == 0)) else (some false))))))) = some r := h
  clear h
  replace H := Option.bind_eq_some_iff.mp H
  obtain ⟨t252, A40, H⟩ := H
  replace H : (if (l0.length : Int) > 80 then (some t252) else ((puncheonref05_Some.f k l0).bind fun t253 => ((norm_Counts.f k t253 (wrap64 (1 + (wrap64 (Int.tmod a1 12))))).bind fun bt256 => (if bt256.2 = 0 then (if (bt256.1.length : Int) = 256 then ((hist_Total.f k t253).bind fun t260 => (puncheonlaw08_NormNear.l0 k a2 t252 t253 (wrap64 (1 + (wrap64 (Int.tmod a1 12)))) bt256.1 t260 false 0)) else (some false)) else (if t252 = true then (some ((bt256.1.length : Int) == 0)) else (some false)))))) = some r := H
  have A4 := Aside0.mk A40
  clear A40
  by_cases c5 : (l0.length : Int) > 80
  · rw [if_pos c5] at H
    have c5b0 : decide (80 < (l0.length : Int)) = true := decide_eq_true c5
    have c5b1 : decide (80 < l0.length) = true := decide_eq_true (by omega)
    clear c5
    obtain rfl := Option.some.inj H
    go_enter Try.func7, Try.ntmps7
    go_wp2_with (first | ((with_reducible refine gate_callee (f := 9) rfl ?_); refine goesL_ (some 16) rfl rfl Try.func9 (by kernel_rfl) rfl #[] rfl (by (try simp only [List.map_toArray, List.map_cons, List.map_nil]); first | done | rfl | (simp only [List.length_drop, List.length_take]; rfl)) ?_; (with_reducible refine (puncheonlaw08_awake.calls k  t252 _ A4.out).mono ?_); rintro e w6 ⟨rfl, hb⟩; refine ⟨_, rfl, ?_⟩; have n0_ := Aside0.mk (below_step (by repeat (first | (with_reducible first | exact HB.out | apply below_alloc | apply pw_below_drewN | apply below_drew1) | exact HB.out)) hb); clear HB; have HB := n0_; clear n0_; (try clear hb); (try clear hb2); (try clear hk); (try clear hi)))
    go_ret
    exact ⟨by first | rfl | (simp [errW_none, errW_some] <;> rfl) | (simp [*, errW_none, errW_some] <;> rfl), by repeat (first | (with_reducible first | exact HB.out | apply below_alloc | apply pw_below_drewN | apply below_drew1) | exact HB.out)⟩
  · rw [if_neg c5] at H
    have c5b0 : decide (80 < (l0.length : Int)) = false := decide_eq_false c5
    have c5b1 : decide (80 < l0.length) = false := decide_eq_false (by omega)
    clear c5
    replace H := Option.bind_eq_some_iff.mp H
    obtain ⟨t253, A70, H⟩ := H
    replace H : ((norm_Counts.f k t253 (wrap64 (1 + (wrap64 (Int.tmod a1 12))))).bind fun bt256 => (if bt256.2 = 0 then (if (bt256.1.length : Int) = 256 then ((hist_Total.f k t253).bind fun t260 => (puncheonlaw08_NormNear.l0 k a2 t252 t253 (wrap64 (1 + (wrap64 (Int.tmod a1 12)))) bt256.1 t260 false 0)) else (some false)) else (if t252 = true then (some ((bt256.1.length : Int) == 0)) else (some false)))) = some r := H
    have A7 := Aside0.mk A70
    clear A70
    replace H := Option.bind_eq_some_iff.mp H
    obtain ⟨⟨t256, t257⟩, A80, H⟩ := H
    replace H : (if t257 = 0 then (if (t256.length : Int) = 256 then ((hist_Total.f k t253).bind fun t260 => (puncheonlaw08_NormNear.l0 k a2 t252 t253 (wrap64 (1 + (wrap64 (Int.tmod a1 12)))) t256 t260 false 0)) else (some false)) else (if t252 = true then (some ((t256.length : Int) == 0)) else (some false))) = some r := H
    have A8 := Aside0.mk A80
    clear A80
    by_cases c9 : t257 = 0
    · rw [if_pos c9] at H
      have c9b0 : (t257 == 0) = true := beq_iff_eq.mpr c9
      have c9b1 : (t257 != 0) = false := bne_eq_false_iff_eq.mpr c9
      clear c9
      by_cases c10 : (t256.length : Int) = 256
      · rw [if_pos c10] at H
        have c10b0 : ((t256.length : Int) == 256) = true := beq_iff_eq.mpr c10
        have c10b1 : ((t256.length : Int) != 256) = false := bne_eq_false_iff_eq.mpr c10
        clear c10
        replace H := Option.bind_eq_some_iff.mp H
        obtain ⟨t260, A110, H⟩ := H
        replace H : (puncheonlaw08_NormNear.l0 k a2 t252 t253 (wrap64 (1 + (wrap64 (Int.tmod a1 12)))) t256 t260 false 0) = some r := H
        have A11 := Aside0.mk A110
        clear A110
        have H' := Aside0.mk H
        clear H
        go_enter Try.func7, Try.ntmps7
        go_wp2_with (first | ((with_reducible refine gate_callee (f := 9) rfl ?_); refine goesL_ (some 16) rfl rfl Try.func9 (by kernel_rfl) rfl #[] rfl (by (try simp only [List.map_toArray, List.map_cons, List.map_nil]); first | done | rfl | (simp only [List.length_drop, List.length_take]; rfl)) ?_; (with_reducible refine (puncheonlaw08_awake.calls k  t252 _ A4.out).mono ?_); rintro e w12 ⟨rfl, hb⟩; refine ⟨_, rfl, ?_⟩; have n0_ := Aside0.mk (below_step (by repeat (first | (with_reducible first | exact HB.out | apply below_alloc | apply pw_below_drewN | apply below_drew1) | exact HB.out)) hb); clear HB; have HB := n0_; clear n0_; (try clear hb); (try clear hb2); (try clear hk); (try clear hi)) | ((with_reducible refine gate_callee (f := 16) rfl ?_); refine goesL_ (some 22) rfl rfl Try.func16 (by kernel_rfl) rfl #[.slice A0 l0.length c0] rfl (by (try simp only [List.map_toArray, List.map_cons, List.map_nil]); first | done | rfl | (simp only [List.length_drop, List.length_take]; rfl)) ?_; (with_reducible refine (puncheonref05_Some.calls k _ _ l0 t253 _ ?side1 ?side2 A7.out).mono ?_); (case side1 => repeat (first | exact (Kd.C_below HR0.out HB.out) | (with_reducible refine Kd.C_alloc ?_ _) | (with_reducible refine Kd.C_drewN ?_ _) | (with_reducible refine Kd.C_drew ?_))); (case side2 => exact HC0.out); rintro e w13 ⟨v254, rfl, ho0, hb⟩; refine ⟨_, rfl, ?_⟩; have n0_ := Aside0.mk (Kd.R_lower ho0 (below_size (by repeat (first | (with_reducible first | exact HB.out | apply below_alloc | apply pw_below_drewN | apply below_drew1) | exact HB.out)))); have n1_ := Aside0.mk (below_step (by repeat (first | (with_reducible first | exact HB.out | apply below_alloc | apply pw_below_drewN | apply below_drew1) | exact HB.out)) hb); clear HB; have HO255 := n0_; have HB := n1_; clear n0_ n1_; (try clear hb); (try clear hb2); (try clear hk); (try clear hi); (try clear ho0); obtain ⟨Ao14, co14, eo14⟩ := Kd.R_slice HO255.out; subst eo14) | ((with_reducible refine gate_callee (f := 10) rfl ?_); refine goesL_ (some 30) rfl rfl Try.func10 (by kernel_rfl) rfl #[.slice Ao14 t253.length co14, .int .i64 (wrap64 (1 + (wrap64 (Int.tmod a1 12))))] rfl (by (try simp only [List.map_toArray, List.map_cons, List.map_nil]); first | done | rfl | (simp only [List.length_drop, List.length_take]; rfl)) ?_; (with_reducible refine (norm_Counts.calls k _ _ t253 (wrap64 (1 + (wrap64 (Int.tmod a1 12)))) t256 t257 _ ?side1 ?side2 A8.out).mono ?_); (case side1 => repeat (first | exact (Kd.R_reads' HO255.out).2.2 | (with_reducible refine Kd.C_alloc ?_ _) | (with_reducible refine Kd.C_drewN ?_ _) | (with_reducible refine Kd.C_drew ?_))); (case side2 => exact (Kd.R_reads' HO255.out).2.1); rintro e w15 ⟨v258, rfl, ho0, hb⟩; refine ⟨_, rfl, ?_⟩; have n0_ := Aside0.mk (Kd.R_elder' (by (with_reducible repeat (first | apply Kd.R_alloc | apply Kd.R_drewN | apply Kd.R_drew)); exact HO255.out) (Kd.R_base ho0) hb); have n1_ := Aside0.mk (Kd.R_lower (Kd.R_new' ho0 (Kd.R_lt (by (with_reducible repeat (first | apply Kd.R_alloc | apply Kd.R_drewN | apply Kd.R_drew)); exact HO255.out))) (below_size (by repeat (first | (with_reducible first | exact HB.out | apply below_alloc | apply pw_below_drewN | apply below_drew1) | exact HB.out)))); have n2_ := Aside0.mk (below_step (by repeat (first | (with_reducible first | exact HB.out | apply below_alloc | apply pw_below_drewN | apply below_drew1) | exact HB.out)) hb); clear HO255; clear HB; have HO255 := n0_; have HO259 := n1_; have HB := n2_; clear n0_ n1_ n2_; (try clear hb); (try clear hb2); (try clear hk); (try clear hi); (try clear ho0); obtain ⟨Ao16, co16, eo16⟩ := Kd.R_slice HO259.out; subst eo16) | ((with_reducible refine gate_callee (f := 17) rfl ?_); refine goesL_ (some 45) rfl rfl Try.func17 (by kernel_rfl) rfl #[.slice Ao14 t253.length co14] rfl (by (try simp only [List.map_toArray, List.map_cons, List.map_nil]); first | done | rfl | (simp only [List.length_drop, List.length_take]; rfl)) ?_; (with_reducible refine (hist_Total.calls k _ _ t253 t260 _ ?side1 ?side2 A11.out).mono ?_); (case side1 => repeat (first | exact (Kd.R_reads' HO255.out).2.2 | (with_reducible refine Kd.C_alloc ?_ _) | (with_reducible refine Kd.C_drewN ?_ _) | (with_reducible refine Kd.C_drew ?_))); (case side2 => exact (Kd.R_reads' HO255.out).2.1); rintro e w' ⟨rfl, ⟨nd, rfl⟩⟩; refine ⟨_, rfl, ?_⟩))
        go_loopg [13, 14] k (fun kq v13 v14 w' => ∃ (x13_1 : Bool) (x14_1 : Int), v13 = .bool x13_1 ∧ v14 = .int .i64 x14_1 ∧ Aside0 (puncheonlaw08_NormNear.l0 kq a2 t252 t253 (wrap64 (1 + (wrap64 (Int.tmod a1 12)))) t256 t260 x13_1 x14_1 = some r) ∧ Aside0 (kq ≤ k) ∧ Aside0 (Kd.R (Kd.int .i64) 3 w' w.heap.size (fun k_ => some k_ ≠ ((.slice Ao16 t256.length co16) : Value).ownBlock) (.slice Ao14 t253.length co14) t253) ∧ Aside0 (Kd.R (Kd.int .i64) 3 w' w.heap.size (fun k_ => some k_ ≠ ((.slice Ao14 t253.length co14) : Value).ownBlock) (.slice Ao16 t256.length co16) t256) ∧ Aside0 (Below w.heap.size w w'))
        case atStart => exact ⟨(false), (0), (by first | rfl | (simp; done) | (simp [*]; done)), (by first | rfl | (simp; done) | (simp [*]; done)), H', ⟨Nat.le_refl _⟩, ⟨by (with_reducible repeat (first | apply Kd.R_alloc | apply Kd.R_drewN | apply Kd.R_drew)); exact Kd.R_mono HO255.out (fun _ hk => hk.2)⟩, ⟨by (with_reducible repeat (first | apply Kd.R_alloc | apply Kd.R_drewN | apply Kd.R_drew)); exact Kd.R_mono HO259.out (fun _ hk => hk.2)⟩, ⟨by repeat (first | (with_reducible first | exact HB.out | apply below_alloc | apply pw_below_drewN | apply below_drew1) | exact HB.out)⟩⟩
        case round =>
          clear H'
          try clear c1
          try clear p2
          try clear c5
          try clear c5b0
          try clear c5b1
          try clear p6
          try clear c7
          try clear c9
          try clear c9b0
          try clear c9b1
          try clear c10
          try clear c10b0
          try clear c10b1
          try clear c16
          obtain ⟨x13_1, x14_1, rfl, rfl, HA, HK1, HO_8, HO_10, HB⟩ := hrel
          cases gk with
          | zero => exact absurd HA.out (by simp [puncheonlaw08_NormNear.l0])
          | succ k1 =>
            have H := HA.out
            clear HA
            simp only [puncheonlaw08_NormNear.l0] at H
            by_cases c17 : x14_1 < 256
            · rw [if_pos c17] at H
              have c17b0 : decide (x14_1 < 256) = true := decide_eq_true c17
              clear c17
              by_cases c18 : 0 ≤ x14_1
              · rw [if_pos c18] at H
                have c18b0 : decide (0 ≤ x14_1) = true := decide_eq_true c18
                clear c18
                by_cases c19 : x14_1 < (t253.length : Int)
                · rw [if_pos c19] at H
                  have c19b0 : decide (x14_1 < (t253.length : Int)) = true := decide_eq_true c19
                  clear c19
                  by_cases c20 : (rd t253 x14_1) > 0
                  · rw [if_pos c20] at H
                    have c20b0 : decide (0 < (rd t253 x14_1)) = true := decide_eq_true c20
                    clear c20
                    obtain ⟨ji21, hji21⟩ : ∃ j_ : Int, (wrap64 (1 + (wrap64 (Int.tmod a1 12)))) = j_ := ⟨_, rfl⟩
                    replace H : (if 0 ≤ (ji21) then (if (shl .i64 (rd t253 x14_1) (ji21)) < t260 then (puncheonlaw08_NormNear.l0 k1 a2 t252 t253 (ji21) t256 t260 true (wrap64 (x14_1 + 1))) else (puncheonlaw08_NormNear.l0 k1 a2 t252 t253 (ji21) t256 t260 x13_1 (wrap64 (x14_1 + 1)))) else (none)) = some r := by first | (rw [hji21] at H; exact H) | (simp only [hji21] at H ⊢; exact H)
                    have hji21w : (IntKind.i64.wrap (1 + (wrap64 (Int.tmod a1 12)))) = ji21 := (i64_w _).trans hji21
                    by_cases c22 : 0 ≤ (ji21)
                    · rw [if_pos c22] at H
                      have c22b0 := eq_true c22
                      have c22b1 : decide (0 ≤ (ji21)) = true := decide_eq_true c22
                      clear c22
                      obtain ⟨ji23, hji23⟩ : ∃ j_ : Int, (shl .i64 (rd t253 x14_1) (ji21)) = j_ := ⟨_, rfl⟩
                      replace H : (if (ji23) < t260 then (puncheonlaw08_NormNear.l0 k1 a2 t252 t253 (ji21) t256 t260 true (wrap64 (x14_1 + 1))) else (puncheonlaw08_NormNear.l0 k1 a2 t252 t253 (ji21) t256 t260 x13_1 (wrap64 (x14_1 + 1)))) = some r := by first | (rw [hji23] at H; exact H) | (simp only [hji23] at H ⊢; exact H)
                      have hji23_ : (IntKind.i64.wrap ((rd t253 x14_1) * 2 ^ min (ji21).toNat 64)) = ji23 := hji23
                      have hji23z : (ji21) ≤ 64 → (IntKind.i64.wrap ((rd t253 x14_1) * 2 ^ (ji21).toNat)) = ji23 := shl_small hji23
                      have hji23y : (wrap64 ((rd t253 x14_1) * 2 ^ min (ji21).toNat 64)) = ji23 := (i64_w _).symm.trans hji23_
                      have hji23x : (ji21) ≤ 64 → (wrap64 ((rd t253 x14_1) * 2 ^ (ji21).toNat)) = ji23 := fun h_ => (i64_w _).symm.trans (hji23z h_)
                      by_cases c24 : (ji23) < t260
                      · rw [if_pos c24] at H
                        have c24b0 : decide ((ji23) < t260) = true := decide_eq_true c24
                        clear c24
                        have H' := Aside0.mk H
                        clear H
                        have p261 : 0 ≤ (x14_1 : Int) := of_decide_eq_true (by first | (with_reducible assumption) | assumption)
                        have q261 : x14_1 < (t253.length : Int) := of_decide_eq_true (by first | (with_reducible assumption) | assumption)
                        obtain ⟨ad261, e261, hx261_0⟩ := Kd.at_int (Kd.R_reads' HO_8.out).2.2 x14_1 p261 q261
                        cases e261
                        replace p261 := eq_true p261
                        replace q261 := eq_true q261
                        have p262 : 0 ≤ (x14_1 : Int) := of_decide_eq_true (by first | (with_reducible assumption) | assumption)
                        have q262 : x14_1 < (t253.length : Int) := of_decide_eq_true (by first | (with_reducible assumption) | assumption)
                        obtain ⟨ad262, e262, hx262_0⟩ := Kd.at_int (Kd.R_reads' HO_8.out).2.2 x14_1 p262 q262
                        obtain rfl : ad261 = ad262 := (by injection e262)
                        replace p262 := eq_true p262
                        replace q262 := eq_true q262
                        go_wp2
                        subst hji23; subst hji21
                        go_roundg k1
                        case measure => have := HK1.out; omega
                        case rel => exact ⟨(true), (wrap64 (x14_1 + 1)), (by first | rfl | (simp; done) | (simp [*]; done)), (by first | rfl | (simp; done) | (simp [*]; done)), H', ⟨by have := HK1.out; omega⟩, ⟨by (with_reducible repeat (first | apply Kd.R_alloc | apply Kd.R_drewN | apply Kd.R_drew)); exact HO_8.out⟩, ⟨by (with_reducible repeat (first | apply Kd.R_alloc | apply Kd.R_drewN | apply Kd.R_drew)); exact HO_10.out⟩, ⟨by repeat (first | (with_reducible first | exact HB.out | apply below_alloc | apply pw_below_drewN | apply below_drew1) | exact HB.out)⟩⟩
                      · rw [if_neg c24] at H
                        have c24b0 : decide ((ji23) < t260) = false := decide_eq_false c24
                        clear c24
                        have H' := Aside0.mk H
                        clear H
                        have p261 : 0 ≤ (x14_1 : Int) := of_decide_eq_true (by first | (with_reducible assumption) | assumption)
                        have q261 : x14_1 < (t253.length : Int) := of_decide_eq_true (by first | (with_reducible assumption) | assumption)
                        obtain ⟨ad261, e261, hx261_0⟩ := Kd.at_int (Kd.R_reads' HO_8.out).2.2 x14_1 p261 q261
                        cases e261
                        replace p261 := eq_true p261
                        replace q261 := eq_true q261
                        have p262 : 0 ≤ (x14_1 : Int) := of_decide_eq_true (by first | (with_reducible assumption) | assumption)
                        have q262 : x14_1 < (t253.length : Int) := of_decide_eq_true (by first | (with_reducible assumption) | assumption)
                        obtain ⟨ad262, e262, hx262_0⟩ := Kd.at_int (Kd.R_reads' HO_8.out).2.2 x14_1 p262 q262
                        obtain rfl : ad261 = ad262 := (by injection e262)
                        replace p262 := eq_true p262
                        replace q262 := eq_true q262
                        go_wp2
                        subst hji23; subst hji21
                        go_roundg k1
                        case measure => have := HK1.out; omega
                        case rel => exact ⟨(x13_1), (wrap64 (x14_1 + 1)), (by first | rfl | (simp; done) | (simp [*]; done)), (by first | rfl | (simp; done) | (simp [*]; done)), H', ⟨by have := HK1.out; omega⟩, ⟨by (with_reducible repeat (first | apply Kd.R_alloc | apply Kd.R_drewN | apply Kd.R_drew)); exact HO_8.out⟩, ⟨by (with_reducible repeat (first | apply Kd.R_alloc | apply Kd.R_drewN | apply Kd.R_drew)); exact HO_10.out⟩, ⟨by repeat (first | (with_reducible first | exact HB.out | apply below_alloc | apply pw_below_drewN | apply below_drew1) | exact HB.out)⟩⟩
                    · rw [if_neg c22] at H
                      exact absurd H (by simp)
                  · rw [if_neg c20] at H
                    have c20b0 : decide (0 < (rd t253 x14_1)) = false := decide_eq_false c20
                    clear c20
                    have H' := Aside0.mk H
                    clear H
                    have p261 : 0 ≤ (x14_1 : Int) := of_decide_eq_true (by first | (with_reducible assumption) | assumption)
                    have q261 : x14_1 < (t253.length : Int) := of_decide_eq_true (by first | (with_reducible assumption) | assumption)
                    obtain ⟨ad261, e261, hx261_0⟩ := Kd.at_int (Kd.R_reads' HO_8.out).2.2 x14_1 p261 q261
                    cases e261
                    replace p261 := eq_true p261
                    replace q261 := eq_true q261
                    go_wp2
                    go_roundg k1
                    case measure => have := HK1.out; omega
                    case rel => exact ⟨(x13_1), (wrap64 (x14_1 + 1)), (by first | rfl | (simp; done) | (simp [*]; done)), (by first | rfl | (simp; done) | (simp [*]; done)), H', ⟨by have := HK1.out; omega⟩, ⟨by (with_reducible repeat (first | apply Kd.R_alloc | apply Kd.R_drewN | apply Kd.R_drew)); exact HO_8.out⟩, ⟨by (with_reducible repeat (first | apply Kd.R_alloc | apply Kd.R_drewN | apply Kd.R_drew)); exact HO_10.out⟩, ⟨by repeat (first | (with_reducible first | exact HB.out | apply below_alloc | apply pw_below_drewN | apply below_drew1) | exact HB.out)⟩⟩
                · rw [if_neg c19] at H
                  exact absurd H (by simp)
              · rw [if_neg c18] at H
                exact absurd H (by simp)
            · rw [if_neg c17] at H
              have c17b0 : decide (x14_1 < 256) = false := decide_eq_false c17
              clear c17
              by_cases c25 : 0 ≤ a2
              · rw [if_pos c25] at H
                have c25b0 : decide (0 ≤ a2) = true := decide_eq_true c25
                clear c25
                by_cases c26 : a2 < (t253.length : Int)
                · rw [if_pos c26] at H
                  have c26b0 : decide (a2 < (t253.length : Int)) = true := decide_eq_true c26
                  clear c26
                  obtain ⟨ji27, hji27⟩ : ∃ j_ : Int, (wrap64 (1 + (wrap64 (Int.tmod a1 12)))) = j_ := ⟨_, rfl⟩
                  replace H : (if 0 ≤ (ji27) then (if t252 = true then (if a2 < (t256.length : Int) then (if (wrap64 ((rd t256 a2) * t260)) < (wrap64 ((shl .i64 (rd t253 a2) (ji27)) + t260)) then (if x13_1 = true then (some true) else (some (decide ((wrap64 ((rd t256 a2) * t260)) > (wrap64 ((shl .i64 (rd t253 a2) (ji27)) - t260)))))) else (some false)) else (none)) else (some false)) else (none)) = some r := by first | (rw [hji27] at H; exact H) | (simp only [hji27] at H ⊢; exact H)
                  have hji27w : (IntKind.i64.wrap (1 + (wrap64 (Int.tmod a1 12)))) = ji27 := (i64_w _).trans hji27
                  by_cases c28 : 0 ≤ (ji27)
                  · rw [if_pos c28] at H
                    have c28b0 := eq_true c28
                    have c28b1 : decide (0 ≤ (ji27)) = true := decide_eq_true c28
                    clear c28
                    obtain ⟨ji29, hji29⟩ : ∃ j_ : Int, (shl .i64 (rd t253 a2) (ji27)) = j_ := ⟨_, rfl⟩
                    replace H : (if t252 = true then (if a2 < (t256.length : Int) then (if (wrap64 ((rd t256 a2) * t260)) < (wrap64 ((ji29) + t260)) then (if x13_1 = true then (some true) else (some (decide ((wrap64 ((rd t256 a2) * t260)) > (wrap64 ((ji29) - t260)))))) else (some false)) else (none)) else (some false)) = some r := by first | (rw [hji29] at H; exact H) | (simp only [hji29] at H ⊢; exact H)
                    have hji29_ : (IntKind.i64.wrap ((rd t253 a2) * 2 ^ min (ji27).toNat 64)) = ji29 := hji29
                    have hji29z : (ji27) ≤ 64 → (IntKind.i64.wrap ((rd t253 a2) * 2 ^ (ji27).toNat)) = ji29 := shl_small hji29
                    have hji29y : (wrap64 ((rd t253 a2) * 2 ^ min (ji27).toNat 64)) = ji29 := (i64_w _).symm.trans hji29_
                    have hji29x : (ji27) ≤ 64 → (wrap64 ((rd t253 a2) * 2 ^ (ji27).toNat)) = ji29 := fun h_ => (i64_w _).symm.trans (hji29z h_)
                    by_cases c30 : t252 = true
                    · subst c30
                      have H1 : (if a2 < (t256.length : Int) then (if (wrap64 ((rd t256 a2) * t260)) < (wrap64 ((ji29) + t260)) then (if x13_1 = true then (some true) else (some (decide ((wrap64 ((rd t256 a2) * t260)) > (wrap64 ((ji29) - t260)))))) else (some false)) else (none)) = some r := by rw [if_pos rfl] at H; exact H
                      clear H
                      have H := H1
                      clear H1
                      by_cases c31 : a2 < (t256.length : Int)
                      · rw [if_pos c31] at H
                        have c31b0 : decide (a2 < (t256.length : Int)) = true := decide_eq_true c31
                        clear c31
                        by_cases c32 : (wrap64 ((rd t256 a2) * t260)) < (wrap64 ((ji29) + t260))
                        · rw [if_pos c32] at H
                          have c32b0 : decide ((wrap64 ((rd t256 a2) * t260)) < (wrap64 ((ji29) + t260))) = true := decide_eq_true c32
                          clear c32
                          by_cases c33 : x13_1 = true
                          · subst c33
                            have H1 : (some true) = some r := by rw [if_pos rfl] at H; exact H
                            clear H
                            have H := H1
                            clear H1
                            obtain rfl := Option.some.inj H
                            have p263 : 0 ≤ (a2 : Int) := of_decide_eq_true (by first | (with_reducible assumption) | assumption)
                            have q263 : a2 < (t253.length : Int) := of_decide_eq_true (by first | (with_reducible assumption) | assumption)
                            obtain ⟨ad263, e263, hx263_0⟩ := Kd.at_int (Kd.R_reads' HO_8.out).2.2 a2 p263 q263
                            cases e263
                            replace p263 := eq_true p263
                            replace q263 := eq_true q263
                            have p264 : 0 ≤ (a2 : Int) := of_decide_eq_true (by first | (with_reducible assumption) | assumption)
                            have q264 : a2 < (t256.length : Int) := of_decide_eq_true (by first | (with_reducible assumption) | assumption)
                            obtain ⟨ad264, e264, hx264_0⟩ := Kd.at_int (Kd.R_reads' HO_10.out).2.2 a2 p264 q264
                            cases e264
                            replace p264 := eq_true p264
                            replace q264 := eq_true q264
                            go_wp2
                            go_ret
                            exact ⟨by first | rfl | (simp [errW_none, errW_some] <;> rfl) | (simp only [← hji27, ← hji29]; first | rfl | (simp [errW_none, errW_some] <;> rfl)) | (simp [*, errW_none, errW_some] <;> rfl), by repeat (first | (with_reducible first | exact HB.out | apply below_alloc | apply pw_below_drewN | apply below_drew1) | exact HB.out)⟩
                          · replace c33 := Bool.eq_false_iff.mpr c33
                            subst c33
                            have H1 : (some (decide ((wrap64 ((rd t256 a2) * t260)) > (wrap64 ((ji29) - t260))))) = some r := by rw [if_neg (show ¬ (false = true) by decide)] at H; exact H
                            clear H
                            have H := H1
                            clear H1
                            obtain rfl := Option.some.inj H
                            have p263 : 0 ≤ (a2 : Int) := of_decide_eq_true (by first | (with_reducible assumption) | assumption)
                            have q263 : a2 < (t253.length : Int) := of_decide_eq_true (by first | (with_reducible assumption) | assumption)
                            obtain ⟨ad263, e263, hx263_0⟩ := Kd.at_int (Kd.R_reads' HO_8.out).2.2 a2 p263 q263
                            cases e263
                            replace p263 := eq_true p263
                            replace q263 := eq_true q263
                            have p264 : 0 ≤ (a2 : Int) := of_decide_eq_true (by first | (with_reducible assumption) | assumption)
                            have q264 : a2 < (t256.length : Int) := of_decide_eq_true (by first | (with_reducible assumption) | assumption)
                            obtain ⟨ad264, e264, hx264_0⟩ := Kd.at_int (Kd.R_reads' HO_10.out).2.2 a2 p264 q264
                            cases e264
                            replace p264 := eq_true p264
                            replace q264 := eq_true q264
                            have p265 : 0 ≤ (a2 : Int) := of_decide_eq_true (by first | (with_reducible assumption) | assumption)
                            have q265 : a2 < (t256.length : Int) := of_decide_eq_true (by first | (with_reducible assumption) | assumption)
                            obtain ⟨ad265, e265, hx265_0⟩ := Kd.at_int (Kd.R_reads' HO_10.out).2.2 a2 p265 q265
                            obtain rfl : ad264 = ad265 := (by injection e265)
                            replace p265 := eq_true p265
                            replace q265 := eq_true q265
                            go_wp2
                            go_ret
                            exact ⟨by first | rfl | (simp [errW_none, errW_some] <;> rfl) | (simp only [← hji27, ← hji29]; first | rfl | (simp [errW_none, errW_some] <;> rfl)) | (simp [*, errW_none, errW_some] <;> rfl), by repeat (first | (with_reducible first | exact HB.out | apply below_alloc | apply pw_below_drewN | apply below_drew1) | exact HB.out)⟩
                        · rw [if_neg c32] at H
                          have c32b0 : decide ((wrap64 ((rd t256 a2) * t260)) < (wrap64 ((ji29) + t260))) = false := decide_eq_false c32
                          clear c32
                          obtain rfl := Option.some.inj H
                          have p263 : 0 ≤ (a2 : Int) := of_decide_eq_true (by first | (with_reducible assumption) | assumption)
                          have q263 : a2 < (t253.length : Int) := of_decide_eq_true (by first | (with_reducible assumption) | assumption)
                          obtain ⟨ad263, e263, hx263_0⟩ := Kd.at_int (Kd.R_reads' HO_8.out).2.2 a2 p263 q263
                          cases e263
                          replace p263 := eq_true p263
                          replace q263 := eq_true q263
                          have p264 : 0 ≤ (a2 : Int) := of_decide_eq_true (by first | (with_reducible assumption) | assumption)
                          have q264 : a2 < (t256.length : Int) := of_decide_eq_true (by first | (with_reducible assumption) | assumption)
                          obtain ⟨ad264, e264, hx264_0⟩ := Kd.at_int (Kd.R_reads' HO_10.out).2.2 a2 p264 q264
                          cases e264
                          replace p264 := eq_true p264
                          replace q264 := eq_true q264
                          go_wp2
                          go_ret
                          exact ⟨by first | rfl | (simp [errW_none, errW_some] <;> rfl) | (simp only [← hji27, ← hji29]; first | rfl | (simp [errW_none, errW_some] <;> rfl)) | (simp [*, errW_none, errW_some] <;> rfl), by repeat (first | (with_reducible first | exact HB.out | apply below_alloc | apply pw_below_drewN | apply below_drew1) | exact HB.out)⟩
                      · rw [if_neg c31] at H
                        exact absurd H (by simp)
                    · replace c30 := Bool.eq_false_iff.mpr c30
                      subst c30
                      have H1 : (some false) = some r := by rw [if_neg (show ¬ (false = true) by decide)] at H; exact H
                      clear H
                      have H := H1
                      clear H1
                      obtain rfl := Option.some.inj H
                      have p263 : 0 ≤ (a2 : Int) := of_decide_eq_true (by first | (with_reducible assumption) | assumption)
                      have q263 : a2 < (t253.length : Int) := of_decide_eq_true (by first | (with_reducible assumption) | assumption)
                      obtain ⟨ad263, e263, hx263_0⟩ := Kd.at_int (Kd.R_reads' HO_8.out).2.2 a2 p263 q263
                      cases e263
                      replace p263 := eq_true p263
                      replace q263 := eq_true q263
                      go_wp2
                      go_ret
                      exact ⟨by first | rfl | (simp [errW_none, errW_some] <;> rfl) | (simp only [← hji27, ← hji29]; first | rfl | (simp [errW_none, errW_some] <;> rfl)) | (simp [*, errW_none, errW_some] <;> rfl), by repeat (first | (with_reducible first | exact HB.out | apply below_alloc | apply pw_below_drewN | apply below_drew1) | exact HB.out)⟩
                  · rw [if_neg c28] at H
                    exact absurd H (by simp)
                · rw [if_neg c26] at H
                  exact absurd H (by simp)
              · rw [if_neg c25] at H
                exact absurd H (by simp)
      · rw [if_neg c10] at H
        have c10b0 : ((t256.length : Int) == 256) = false := beq_eq_false_iff_ne.mpr c10
        have c10b1 : ((t256.length : Int) != 256) = true := bne_iff_ne.mpr c10
        obtain rfl := Option.some.inj H
        go_enter Try.func7, Try.ntmps7
        go_wp2_with (first | ((with_reducible refine gate_callee (f := 9) rfl ?_); refine goesL_ (some 16) rfl rfl Try.func9 (by kernel_rfl) rfl #[] rfl (by (try simp only [List.map_toArray, List.map_cons, List.map_nil]); first | done | rfl | (simp only [List.length_drop, List.length_take]; rfl)) ?_; (with_reducible refine (puncheonlaw08_awake.calls k  t252 _ A4.out).mono ?_); rintro e w34 ⟨rfl, hb⟩; refine ⟨_, rfl, ?_⟩; have n0_ := Aside0.mk (below_step (by repeat (first | (with_reducible first | exact HB.out | apply below_alloc | apply pw_below_drewN | apply below_drew1) | exact HB.out)) hb); clear HB; have HB := n0_; clear n0_; (try clear hb); (try clear hb2); (try clear hk); (try clear hi)) | ((with_reducible refine gate_callee (f := 16) rfl ?_); refine goesL_ (some 22) rfl rfl Try.func16 (by kernel_rfl) rfl #[.slice A0 l0.length c0] rfl (by (try simp only [List.map_toArray, List.map_cons, List.map_nil]); first | done | rfl | (simp only [List.length_drop, List.length_take]; rfl)) ?_; (with_reducible refine (puncheonref05_Some.calls k _ _ l0 t253 _ ?side1 ?side2 A7.out).mono ?_); (case side1 => repeat (first | exact (Kd.C_below HR0.out HB.out) | (with_reducible refine Kd.C_alloc ?_ _) | (with_reducible refine Kd.C_drewN ?_ _) | (with_reducible refine Kd.C_drew ?_))); (case side2 => exact HC0.out); rintro e w35 ⟨v254, rfl, ho0, hb⟩; refine ⟨_, rfl, ?_⟩; have n0_ := Aside0.mk (Kd.R_lower ho0 (below_size (by repeat (first | (with_reducible first | exact HB.out | apply below_alloc | apply pw_below_drewN | apply below_drew1) | exact HB.out)))); have n1_ := Aside0.mk (below_step (by repeat (first | (with_reducible first | exact HB.out | apply below_alloc | apply pw_below_drewN | apply below_drew1) | exact HB.out)) hb); clear HB; have HO255 := n0_; have HB := n1_; clear n0_ n1_; (try clear hb); (try clear hb2); (try clear hk); (try clear hi); (try clear ho0); obtain ⟨Ao36, co36, eo36⟩ := Kd.R_slice HO255.out; subst eo36) | ((with_reducible refine gate_callee (f := 10) rfl ?_); refine goesL_ (some 30) rfl rfl Try.func10 (by kernel_rfl) rfl #[.slice Ao36 t253.length co36, .int .i64 (wrap64 (1 + (wrap64 (Int.tmod a1 12))))] rfl (by (try simp only [List.map_toArray, List.map_cons, List.map_nil]); first | done | rfl | (simp only [List.length_drop, List.length_take]; rfl)) ?_; (with_reducible refine (norm_Counts.calls k _ _ t253 (wrap64 (1 + (wrap64 (Int.tmod a1 12)))) t256 t257 _ ?side1 ?side2 A8.out).mono ?_); (case side1 => repeat (first | exact (Kd.R_reads' HO255.out).2.2 | (with_reducible refine Kd.C_alloc ?_ _) | (with_reducible refine Kd.C_drewN ?_ _) | (with_reducible refine Kd.C_drew ?_))); (case side2 => exact (Kd.R_reads' HO255.out).2.1); rintro e w37 ⟨v258, rfl, ho0, hb⟩; refine ⟨_, rfl, ?_⟩; have n0_ := Aside0.mk (Kd.R_elder' (by (with_reducible repeat (first | apply Kd.R_alloc | apply Kd.R_drewN | apply Kd.R_drew)); exact HO255.out) (Kd.R_base ho0) hb); have n1_ := Aside0.mk (Kd.R_lower (Kd.R_new' ho0 (Kd.R_lt (by (with_reducible repeat (first | apply Kd.R_alloc | apply Kd.R_drewN | apply Kd.R_drew)); exact HO255.out))) (below_size (by repeat (first | (with_reducible first | exact HB.out | apply below_alloc | apply pw_below_drewN | apply below_drew1) | exact HB.out)))); have n2_ := Aside0.mk (below_step (by repeat (first | (with_reducible first | exact HB.out | apply below_alloc | apply pw_below_drewN | apply below_drew1) | exact HB.out)) hb); clear HO255; clear HB; have HO255 := n0_; have HO259 := n1_; have HB := n2_; clear n0_ n1_ n2_; (try clear hb); (try clear hb2); (try clear hk); (try clear hi); (try clear ho0); obtain ⟨Ao38, co38, eo38⟩ := Kd.R_slice HO259.out; subst eo38))
        go_ret
        exact ⟨by first | rfl | (simp [errW_none, errW_some] <;> rfl) | (simp [*, errW_none, errW_some] <;> rfl), by repeat (first | (with_reducible first | exact HB.out | apply below_alloc | apply pw_below_drewN | apply below_drew1) | exact HB.out)⟩
    · rw [if_neg c9] at H
      have c9b0 : (t257 == 0) = false := beq_eq_false_iff_ne.mpr c9
      have c9b1 : (t257 != 0) = true := bne_iff_ne.mpr c9
      by_cases c39 : t252 = true
      · subst c39
        have H1 : (some ((t256.length : Int) == 0)) = some r := by rw [if_pos rfl] at H; exact H
        clear H
        have H := H1
        clear H1
        obtain rfl := Option.some.inj H
        go_enter Try.func7, Try.ntmps7
        go_wp2_with (first | ((with_reducible refine gate_callee (f := 9) rfl ?_); refine goesL_ (some 16) rfl rfl Try.func9 (by kernel_rfl) rfl #[] rfl (by (try simp only [List.map_toArray, List.map_cons, List.map_nil]); first | done | rfl | (simp only [List.length_drop, List.length_take]; rfl)) ?_; (with_reducible refine (puncheonlaw08_awake.calls k  true _ A4.out).mono ?_); rintro e w40 ⟨rfl, hb⟩; refine ⟨_, rfl, ?_⟩; have n0_ := Aside0.mk (below_step (by repeat (first | (with_reducible first | exact HB.out | apply below_alloc | apply pw_below_drewN | apply below_drew1) | exact HB.out)) hb); clear HB; have HB := n0_; clear n0_; (try clear hb); (try clear hb2); (try clear hk); (try clear hi)) | ((with_reducible refine gate_callee (f := 16) rfl ?_); refine goesL_ (some 22) rfl rfl Try.func16 (by kernel_rfl) rfl #[.slice A0 l0.length c0] rfl (by (try simp only [List.map_toArray, List.map_cons, List.map_nil]); first | done | rfl | (simp only [List.length_drop, List.length_take]; rfl)) ?_; (with_reducible refine (puncheonref05_Some.calls k _ _ l0 t253 _ ?side1 ?side2 A7.out).mono ?_); (case side1 => repeat (first | exact (Kd.C_below HR0.out HB.out) | (with_reducible refine Kd.C_alloc ?_ _) | (with_reducible refine Kd.C_drewN ?_ _) | (with_reducible refine Kd.C_drew ?_))); (case side2 => exact HC0.out); rintro e w41 ⟨v254, rfl, ho0, hb⟩; refine ⟨_, rfl, ?_⟩; have n0_ := Aside0.mk (Kd.R_lower ho0 (below_size (by repeat (first | (with_reducible first | exact HB.out | apply below_alloc | apply pw_below_drewN | apply below_drew1) | exact HB.out)))); have n1_ := Aside0.mk (below_step (by repeat (first | (with_reducible first | exact HB.out | apply below_alloc | apply pw_below_drewN | apply below_drew1) | exact HB.out)) hb); clear HB; have HO255 := n0_; have HB := n1_; clear n0_ n1_; (try clear hb); (try clear hb2); (try clear hk); (try clear hi); (try clear ho0); obtain ⟨Ao42, co42, eo42⟩ := Kd.R_slice HO255.out; subst eo42) | ((with_reducible refine gate_callee (f := 10) rfl ?_); refine goesL_ (some 30) rfl rfl Try.func10 (by kernel_rfl) rfl #[.slice Ao42 t253.length co42, .int .i64 (wrap64 (1 + (wrap64 (Int.tmod a1 12))))] rfl (by (try simp only [List.map_toArray, List.map_cons, List.map_nil]); first | done | rfl | (simp only [List.length_drop, List.length_take]; rfl)) ?_; (with_reducible refine (norm_Counts.calls k _ _ t253 (wrap64 (1 + (wrap64 (Int.tmod a1 12)))) t256 t257 _ ?side1 ?side2 A8.out).mono ?_); (case side1 => repeat (first | exact (Kd.R_reads' HO255.out).2.2 | (with_reducible refine Kd.C_alloc ?_ _) | (with_reducible refine Kd.C_drewN ?_ _) | (with_reducible refine Kd.C_drew ?_))); (case side2 => exact (Kd.R_reads' HO255.out).2.1); rintro e w43 ⟨v258, rfl, ho0, hb⟩; refine ⟨_, rfl, ?_⟩; have n0_ := Aside0.mk (Kd.R_elder' (by (with_reducible repeat (first | apply Kd.R_alloc | apply Kd.R_drewN | apply Kd.R_drew)); exact HO255.out) (Kd.R_base ho0) hb); have n1_ := Aside0.mk (Kd.R_lower (Kd.R_new' ho0 (Kd.R_lt (by (with_reducible repeat (first | apply Kd.R_alloc | apply Kd.R_drewN | apply Kd.R_drew)); exact HO255.out))) (below_size (by repeat (first | (with_reducible first | exact HB.out | apply below_alloc | apply pw_below_drewN | apply below_drew1) | exact HB.out)))); have n2_ := Aside0.mk (below_step (by repeat (first | (with_reducible first | exact HB.out | apply below_alloc | apply pw_below_drewN | apply below_drew1) | exact HB.out)) hb); clear HO255; clear HB; have HO255 := n0_; have HO259 := n1_; have HB := n2_; clear n0_ n1_ n2_; (try clear hb); (try clear hb2); (try clear hk); (try clear hi); (try clear ho0); obtain ⟨Ao44, co44, eo44⟩ := Kd.R_slice HO259.out; subst eo44))
        go_ret
        exact ⟨by first | rfl | (simp [errW_none, errW_some] <;> rfl) | (simp [*, errW_none, errW_some] <;> rfl), by repeat (first | (with_reducible first | exact HB.out | apply below_alloc | apply pw_below_drewN | apply below_drew1) | exact HB.out)⟩
      · replace c39 := Bool.eq_false_iff.mpr c39
        subst c39
        have H1 : (some false) = some r := by rw [if_neg (show ¬ (false = true) by decide)] at H; exact H
        clear H
        have H := H1
        clear H1
        obtain rfl := Option.some.inj H
        go_enter Try.func7, Try.ntmps7
        go_wp2_with (first | ((with_reducible refine gate_callee (f := 9) rfl ?_); refine goesL_ (some 16) rfl rfl Try.func9 (by kernel_rfl) rfl #[] rfl (by (try simp only [List.map_toArray, List.map_cons, List.map_nil]); first | done | rfl | (simp only [List.length_drop, List.length_take]; rfl)) ?_; (with_reducible refine (puncheonlaw08_awake.calls k  false _ A4.out).mono ?_); rintro e w45 ⟨rfl, hb⟩; refine ⟨_, rfl, ?_⟩; have n0_ := Aside0.mk (below_step (by repeat (first | (with_reducible first | exact HB.out | apply below_alloc | apply pw_below_drewN | apply below_drew1) | exact HB.out)) hb); clear HB; have HB := n0_; clear n0_; (try clear hb); (try clear hb2); (try clear hk); (try clear hi)) | ((with_reducible refine gate_callee (f := 16) rfl ?_); refine goesL_ (some 22) rfl rfl Try.func16 (by kernel_rfl) rfl #[.slice A0 l0.length c0] rfl (by (try simp only [List.map_toArray, List.map_cons, List.map_nil]); first | done | rfl | (simp only [List.length_drop, List.length_take]; rfl)) ?_; (with_reducible refine (puncheonref05_Some.calls k _ _ l0 t253 _ ?side1 ?side2 A7.out).mono ?_); (case side1 => repeat (first | exact (Kd.C_below HR0.out HB.out) | (with_reducible refine Kd.C_alloc ?_ _) | (with_reducible refine Kd.C_drewN ?_ _) | (with_reducible refine Kd.C_drew ?_))); (case side2 => exact HC0.out); rintro e w46 ⟨v254, rfl, ho0, hb⟩; refine ⟨_, rfl, ?_⟩; have n0_ := Aside0.mk (Kd.R_lower ho0 (below_size (by repeat (first | (with_reducible first | exact HB.out | apply below_alloc | apply pw_below_drewN | apply below_drew1) | exact HB.out)))); have n1_ := Aside0.mk (below_step (by repeat (first | (with_reducible first | exact HB.out | apply below_alloc | apply pw_below_drewN | apply below_drew1) | exact HB.out)) hb); clear HB; have HO255 := n0_; have HB := n1_; clear n0_ n1_; (try clear hb); (try clear hb2); (try clear hk); (try clear hi); (try clear ho0); obtain ⟨Ao47, co47, eo47⟩ := Kd.R_slice HO255.out; subst eo47) | ((with_reducible refine gate_callee (f := 10) rfl ?_); refine goesL_ (some 30) rfl rfl Try.func10 (by kernel_rfl) rfl #[.slice Ao47 t253.length co47, .int .i64 (wrap64 (1 + (wrap64 (Int.tmod a1 12))))] rfl (by (try simp only [List.map_toArray, List.map_cons, List.map_nil]); first | done | rfl | (simp only [List.length_drop, List.length_take]; rfl)) ?_; (with_reducible refine (norm_Counts.calls k _ _ t253 (wrap64 (1 + (wrap64 (Int.tmod a1 12)))) t256 t257 _ ?side1 ?side2 A8.out).mono ?_); (case side1 => repeat (first | exact (Kd.R_reads' HO255.out).2.2 | (with_reducible refine Kd.C_alloc ?_ _) | (with_reducible refine Kd.C_drewN ?_ _) | (with_reducible refine Kd.C_drew ?_))); (case side2 => exact (Kd.R_reads' HO255.out).2.1); rintro e w48 ⟨v258, rfl, ho0, hb⟩; refine ⟨_, rfl, ?_⟩; have n0_ := Aside0.mk (Kd.R_elder' (by (with_reducible repeat (first | apply Kd.R_alloc | apply Kd.R_drewN | apply Kd.R_drew)); exact HO255.out) (Kd.R_base ho0) hb); have n1_ := Aside0.mk (Kd.R_lower (Kd.R_new' ho0 (Kd.R_lt (by (with_reducible repeat (first | apply Kd.R_alloc | apply Kd.R_drewN | apply Kd.R_drew)); exact HO255.out))) (below_size (by repeat (first | (with_reducible first | exact HB.out | apply below_alloc | apply pw_below_drewN | apply below_drew1) | exact HB.out)))); have n2_ := Aside0.mk (below_step (by repeat (first | (with_reducible first | exact HB.out | apply below_alloc | apply pw_below_drewN | apply below_drew1) | exact HB.out)) hb); clear HO255; clear HB; have HO255 := n0_; have HO259 := n1_; have HB := n2_; clear n0_ n1_ n2_; (try clear hb); (try clear hb2); (try clear hk); (try clear hi); (try clear ho0)))
        go_ret
        exact ⟨by first | rfl | (simp [errW_none, errW_some] <;> rfl) | (simp [*, errW_none, errW_some] <;> rfl), by repeat (first | (with_reducible first | exact HB.out | apply below_alloc | apply pw_below_drewN | apply below_drew1) | exact HB.out)⟩

/-- THE ONE PURE STATEMENT of puncheonlaw08_NormNear: yours. -/
def puncheonlaw08_NormNear.Pure : Prop := ∀ (l0 : List Int) (a1 : Int) (a2 : Int), l0.length ≤ maxLen → l0.length * 2 ≤ 140737488351232 → (∀ x ∈ l0, (Lit.int .u16 x).wf = true) → (Lit.int .u8 a1).wf = true → (Lit.int .u8 a2).wf = true → ∃ k, puncheonlaw08_NormNear.f k l0 a1 a2 = some true
theorem puncheonlaw08_NormNear.walk (P : puncheonlaw08_NormNear.Pure) (a0 : Option Addr) (len0 cap0 : Nat) (z0 : List Int) (a1 : Int) (a2 : Int) (w : World) (w0 : (a0 = none ∧ len0 = 0 ∧ cap0 = 0 ∧ z0 = []) ∨ ∃ x, a0 = some x ∧ len0 ≤ cap0 ∧ cap0 ≤ maxLen ∧ z0.length = cap0 ∧ (∀ i, i < z0.length → w.cell? (x.add i) = some (.int .u16 (z0.getD i 0))) ∧ ∀ n ∈ z0, (Lit.int .u16 n).wf = true) (y0 : len0 * 2 ≤ 140737488351232) (w1 : (Lit.int .u8 a1).wf = true) (w2 : (Lit.int .u8 a2).wf = true) :
    Calls Try.prog 7 #[.slice a0 len0 cap0, .int .u8 a1, .int .u8 a2] w fun e w' => e = .returned (.bool true) ∧ Below w.heap.size w w' := by
  obtain ⟨l0, rfl, hr0, hm0, hw0, hc0⟩ := ReadsInt.ofRowC w0
  obtain ⟨k, h⟩ := P l0 a1 a2 hm0 y0 hw0 w1 w2
  refine (puncheonlaw08_NormNear.calls k _ _ l0 a1 a2 true w (Kd.C_of_reads (d := (0 : Int)) (h1 := fun _ => rfl) hr0) hc0 h).mono ?_
  rintro e w' ⟨rfl, hd⟩
  exact ⟨rfl, hd⟩

/-! ### puncheonlaw08_NormTimes: function 8 -/
def puncheonlaw08_NormTimes.l0 : Nat → Int → Int → Bool → List Int → List Int → Int → Option (Bool)
  | 0, _, _, _, _, _, _ => none
  | k + 1, x1, x2, x7, x8, x9, x10 => if x10 < 256 then (if 0 ≤ x10 then (if x10 < (x8.length : Int) then (if x10 < (x9.length : Int) then (puncheonlaw08_NormTimes.l0 k x1 x2 x7 x8 (x9.set (x10 : Int).toNat (wrap64 ((rd x8 x10) * (wrap64 ((wrap64 (x2)) + 1))))) (wrap64 (x10 + 1))) else (none)) else (none)) else (none)) else ((norm_Counts.f k x8 (wrap64 (1 + (wrap64 (Int.tmod x1 12))))).bind fun bt275 => ((norm_Counts.f k x9 (wrap64 (1 + (wrap64 (Int.tmod x1 12))))).bind fun bt279 => (if x7 = true then (if bt275.2 = bt279.2 then ((puncheonref01_Ints.f k bt279.1 bt275.1).bind fun t283 => (some t283)) else (some false)) else (some false))))
def puncheonlaw08_NormTimes.f (k : Nat) (l0 : List Int) (a1 : Int) (a2 : Int) : Option (Bool) := (puncheonlaw08_awake.f k).bind fun t266 => (if (l0.length : Int) > 80 then (some t266) else ((puncheonref05_Some.f k l0).bind fun t267 => (if 256 ≤ 35184372088832 then (puncheonlaw08_NormTimes.l0 k a1 a2 t266 t267 (List.replicate 256 0) 0) else (none))))
theorem puncheonlaw08_NormTimes.mono_l : ∀ k, (∀ y0 y1 y2 y3 y4 y5, LeO (puncheonlaw08_NormTimes.l0 k y0 y1 y2 y3 y4 y5) (puncheonlaw08_NormTimes.l0 (k + 1) y0 y1 y2 y3 y4 y5))
  | 0 => fun _ _ _ _ _ _ r h => by simp [puncheonlaw08_NormTimes.l0] at h
  | k + 1 => by
    have ih0 := puncheonlaw08_NormTimes.mono_l k
    · intro y0 y1 y2 y3 y4 y5
      unfold puncheonlaw08_NormTimes.l0
      repeat' first
      | (with_reducible exact ih0 _ _ _ _ _ _)
      | (with_reducible exact norm_Counts.mono _ _ _)
      | (with_reducible exact puncheonlaw08_awake.mono _)
      | (with_reducible exact puncheonref01_Ints.mono _ _ _)
      | (with_reducible exact puncheonref05_Some.mono _ _)
      | (with_reducible exact LeO.refl _)
      | (with_reducible exact LeO.none _)
      | (with_reducible refine LeO.ite ?_ ?_)
      | (with_reducible refine LeO.bind ?_ (fun _ => ?_))
      | exact ih0 _ _ _ _ _ _
      | exact norm_Counts.mono _ _ _
      | exact puncheonlaw08_awake.mono _
      | exact puncheonref01_Ints.mono _ _ _
      | exact puncheonref05_Some.mono _ _
      | exact LeO.none _
      | refine LeO.ite ?_ ?_
      | refine LeO.bind ?_ (fun _ => ?_)
theorem puncheonlaw08_NormTimes.mono : ∀ a0 a1 a2 k, LeO (puncheonlaw08_NormTimes.f k a0 a1 a2) (puncheonlaw08_NormTimes.f (k + 1) a0 a1 a2) := by
  intro a0 a1 a2 k
  have ih0 := puncheonlaw08_NormTimes.mono_l k
  unfold puncheonlaw08_NormTimes.f
  repeat' first
      | (with_reducible exact ih0 _ _ _ _ _ _)
      | (with_reducible exact norm_Counts.mono _ _ _)
      | (with_reducible exact puncheonlaw08_awake.mono _)
      | (with_reducible exact puncheonref01_Ints.mono _ _ _)
      | (with_reducible exact puncheonref05_Some.mono _ _)
      | (with_reducible exact LeO.refl _)
      | (with_reducible exact LeO.none _)
      | (with_reducible refine LeO.ite ?_ ?_)
      | (with_reducible refine LeO.bind ?_ (fun _ => ?_))
      | exact ih0 _ _ _ _ _ _
      | exact norm_Counts.mono _ _ _
      | exact puncheonlaw08_awake.mono _
      | exact puncheonref01_Ints.mono _ _ _
      | exact puncheonref05_Some.mono _ _
      | exact LeO.none _
      | refine LeO.ite ?_ ?_
      | refine LeO.bind ?_ (fun _ => ?_)
set_option maxHeartbeats 8000000 in
set_option maxRecDepth 100000 in
theorem puncheonlaw08_NormTimes.calls (k : Nat) (A0 : Option Addr) (c0 : Nat) (l0 : List Int) (a1 : Int) (a2 : Int) (r : Bool) (w : World) (hr0 : Kd.C (Kd.int .u16) w A0 l0.length l0) (hc0 : l0.length ≤ c0) (h : puncheonlaw08_NormTimes.f k l0 a1 a2 = some r) :
    Calls Try.prog 8 #[.slice A0 l0.length c0, .int .u8 a1, .int .u8 a2] w fun e w' => e = .returned (.bool r) ∧ Below w.heap.size w w' := by
  have HR0 := Aside0.mk hr0
  have HC0 := Aside0.mk hc0
  clear hr0 hc0
  have HB := Aside0.mk (Below.refl w.heap.size w)
  have H : ((puncheonlaw08_awake.f k).bind fun t266 => (if (l0.length : Int) > 80 then (some t266) else ((puncheonref05_Some.f k l0).bind fun t267 => (if 256 ≤ 35184372088832 then (puncheonlaw08_NormTimes.l0 k a1 a2 t266 t267 (List.replicate 256 0) 0) else (none))))) = some r := h
  clear h
  replace H := Option.bind_eq_some_iff.mp H
  obtain ⟨t266, A40, H⟩ := H
  replace H : (if (l0.length : Int) > 80 then (some t266) else ((puncheonref05_Some.f k l0).bind fun t267 => (if 256 ≤ 35184372088832 then (puncheonlaw08_NormTimes.l0 k a1 a2 t266 t267 (List.replicate 256 0) 0) else (none)))) = some r := H
  have A4 := Aside0.mk A40
  clear A40
  by_cases c5 : (l0.length : Int) > 80
  · rw [if_pos c5] at H
    have c5b0 : decide (80 < (l0.length : Int)) = true := decide_eq_true c5
    have c5b1 : decide (80 < l0.length) = true := decide_eq_true (by omega)
    clear c5
    obtain rfl := Option.some.inj H
    go_enter Try.func8, Try.ntmps8
    go_wp2_with (first | ((with_reducible refine gate_callee (f := 9) rfl ?_); refine goesL_ (some 16) rfl rfl Try.func9 (by kernel_rfl) rfl #[] rfl (by (try simp only [List.map_toArray, List.map_cons, List.map_nil]); first | done | rfl | (simp only [List.length_drop, List.length_take]; rfl)) ?_; (with_reducible refine (puncheonlaw08_awake.calls k  t266 _ A4.out).mono ?_); rintro e w6 ⟨rfl, hb⟩; refine ⟨_, rfl, ?_⟩; have n0_ := Aside0.mk (below_step (by repeat (first | (with_reducible first | exact HB.out | apply below_alloc | apply pw_below_drewN | apply below_drew1) | exact HB.out)) hb); clear HB; have HB := n0_; clear n0_; (try clear hb); (try clear hb2); (try clear hk); (try clear hi)))
    go_ret
    exact ⟨by first | rfl | (simp [errW_none, errW_some] <;> rfl) | (simp [*, errW_none, errW_some] <;> rfl), by repeat (first | (with_reducible first | exact HB.out | apply below_alloc | apply pw_below_drewN | apply below_drew1) | exact HB.out)⟩
  · rw [if_neg c5] at H
    have c5b0 : decide (80 < (l0.length : Int)) = false := decide_eq_false c5
    have c5b1 : decide (80 < l0.length) = false := decide_eq_false (by omega)
    clear c5
    replace H := Option.bind_eq_some_iff.mp H
    obtain ⟨t267, A70, H⟩ := H
    replace H : (if 256 ≤ 35184372088832 then (puncheonlaw08_NormTimes.l0 k a1 a2 t266 t267 (List.replicate 256 0) 0) else (none)) = some r := H
    have A7 := Aside0.mk A70
    clear A70
    by_cases c8 : 256 ≤ 35184372088832
    · rw [if_pos c8] at H
      have c8b0 := eq_true c8
      have c8b1 : decide (256 ≤ 35184372088832) = true := decide_eq_true c8
      clear c8
      obtain ⟨y270, hy270⟩ : ∃ y_ : List Int, y_ = (List.replicate 256 0) := ⟨_, rfl⟩
      replace H : (puncheonlaw08_NormTimes.l0 k a1 a2 t266 t267 y270 0) = some r := by first | (rw [hy270]; with_reducible exact H) | (have H2_ := (Option.bind_some _ _).symm.trans H; rw [hy270]; with_reducible exact H2_) | (have H2_ := (Option.bind_some _ _).symm.trans H; with_reducible exact H2_) | with_reducible exact H | (rw [hy270]; exact H) | exact H
      have Ny270 := Aside0.mk hy270
      clear hy270
      have H' := Aside0.mk H
      clear H
      go_enter Try.func8, Try.ntmps8
      go_wp2_with (first | ((with_reducible refine gate_callee (f := 9) rfl ?_); refine goesL_ (some 16) rfl rfl Try.func9 (by kernel_rfl) rfl #[] rfl (by (try simp only [List.map_toArray, List.map_cons, List.map_nil]); first | done | rfl | (simp only [List.length_drop, List.length_take]; rfl)) ?_; (with_reducible refine (puncheonlaw08_awake.calls k  t266 _ A4.out).mono ?_); rintro e w9 ⟨rfl, hb⟩; refine ⟨_, rfl, ?_⟩; have n0_ := Aside0.mk (below_step (by repeat (first | (with_reducible first | exact HB.out | apply below_alloc | apply pw_below_drewN | apply below_drew1) | exact HB.out)) hb); clear HB; have HB := n0_; clear n0_; (try clear hb); (try clear hb2); (try clear hk); (try clear hi)) | ((with_reducible refine gate_callee (f := 16) rfl ?_); refine goesL_ (some 22) rfl rfl Try.func16 (by kernel_rfl) rfl #[.slice A0 l0.length c0] rfl (by (try simp only [List.map_toArray, List.map_cons, List.map_nil]); first | done | rfl | (simp only [List.length_drop, List.length_take]; rfl)) ?_; (with_reducible refine (puncheonref05_Some.calls k _ _ l0 t267 _ ?side1 ?side2 A7.out).mono ?_); (case side1 => repeat (first | exact (Kd.C_below HR0.out HB.out) | (with_reducible refine Kd.C_alloc ?_ _) | (with_reducible refine Kd.C_drewN ?_ _) | (with_reducible refine Kd.C_drew ?_))); (case side2 => exact HC0.out); rintro e w10 ⟨v268, rfl, ho0, hb⟩; refine ⟨_, rfl, ?_⟩; have n0_ := Aside0.mk (Kd.R_lower ho0 (below_size (by repeat (first | (with_reducible first | exact HB.out | apply below_alloc | apply pw_below_drewN | apply below_drew1) | exact HB.out)))); have n1_ := Aside0.mk (below_step (by repeat (first | (with_reducible first | exact HB.out | apply below_alloc | apply pw_below_drewN | apply below_drew1) | exact HB.out)) hb); clear HB; have HO269 := n0_; have HB := n1_; clear n0_ n1_; (try clear hb); (try clear hb2); (try clear hk); (try clear hi); (try clear ho0)) | ((with_reducible refine gate_dst (N := 23) rfl ?_); refine Kd.R_make (Kd.int .i64) _ 3 rfl (N := 23) rfl 22 _ _ rfl 256 rfl rfl Try.underlying22 (.int .i64 0) 8 info3 rfl (by decide) (by omega) 0 (ok := fun _ => True) (okp := fun _ => True) rfl (fun _ hk => hk) trivial (by omega) (by omega) (Below.refl _ _) (Nat.le_refl _) ?_; intro v271 w11 ho12 hb hg_ hnew_; clear hg_ hnew_; (first | rw [← Ny270.out] at ho12 | (simp only [Int.reduceToNat] at ho12; rw [← Ny270.out] at ho12)); have n0_ := Aside0.mk (Kd.R_elder' (by (with_reducible repeat (first | apply Kd.R_alloc | apply Kd.R_drewN | apply Kd.R_drew)); exact HO269.out) (Kd.R_base ho12) hb); have n1_ := Aside0.mk (Kd.R_lower (Kd.R_new' ho12 (Kd.R_lt (by (with_reducible repeat (first | apply Kd.R_alloc | apply Kd.R_drewN | apply Kd.R_drew)); exact HO269.out))) (below_size (by repeat (first | (with_reducible first | exact HB.out | apply below_alloc | apply pw_below_drewN | apply below_drew1) | exact HB.out)))); have n2_ := Aside0.mk (below_step (by repeat (first | (with_reducible first | exact HB.out | apply below_alloc | apply pw_below_drewN | apply below_drew1) | exact HB.out)) hb); clear HO269; clear HB; have HO269 := n0_; have HO272 := n1_; have HB := n2_; clear n0_ n1_ n2_; clear hb ho12))
      go_loopg [10] k (fun kq v10 w' => ∃ (x9_1 : List Int) (x10_1 : Int), v10 = .int .i64 x10_1 ∧ Aside0 (puncheonlaw08_NormTimes.l0 kq a1 a2 t266 t267 x9_1 x10_1 = some r) ∧ Aside0 (kq ≤ k) ∧ Aside0 (Kd.R (Kd.int .i64) 3 w' w.heap.size (fun k_ => some k_ ≠ (v271 : Value).ownBlock) v268 t267) ∧ Aside0 (Kd.R (Kd.int .i64) 3 w' w.heap.size (fun k_ => some k_ ≠ (v268 : Value).ownBlock) v271 x9_1) ∧ Aside0 (Below w.heap.size w w'))
      case atStart => exact ⟨(y270), (0), (by first | rfl | (simp; done) | (simp [*]; done)), H', ⟨Nat.le_refl _⟩, ⟨by (with_reducible repeat (first | apply Kd.R_alloc | apply Kd.R_drewN | apply Kd.R_drew)); exact Kd.R_mono HO269.out (fun _ hk => hk.2)⟩, ⟨by (with_reducible repeat (first | apply Kd.R_alloc | apply Kd.R_drewN | apply Kd.R_drew)); exact Kd.R_mono HO272.out (fun _ hk => hk.2)⟩, ⟨by repeat (first | (with_reducible first | exact HB.out | apply below_alloc | apply pw_below_drewN | apply below_drew1) | exact HB.out)⟩⟩
      case round =>
        clear H'
        try clear c1
        try clear p2
        try clear c5
        try clear c5b0
        try clear c5b1
        try clear c8
        try clear c8b0
        try clear c8b1
        try clear c9
        obtain ⟨x9_1, x10_1, rfl, HA, HK1, HO_8, HO_9, HB⟩ := hrel
        cases gk with
        | zero => exact absurd HA.out (by simp [puncheonlaw08_NormTimes.l0])
        | succ k1 =>
          have H := HA.out
          clear HA
          simp only [puncheonlaw08_NormTimes.l0] at H
          by_cases c13 : x10_1 < 256
          · rw [if_pos c13] at H
            have c13b0 : decide (x10_1 < 256) = true := decide_eq_true c13
            clear c13
            by_cases c14 : 0 ≤ x10_1
            · rw [if_pos c14] at H
              have c14b0 : decide (0 ≤ x10_1) = true := decide_eq_true c14
              clear c14
              by_cases c15 : x10_1 < (t267.length : Int)
              · rw [if_pos c15] at H
                have c15b0 : decide (x10_1 < (t267.length : Int)) = true := decide_eq_true c15
                clear c15
                by_cases c16 : x10_1 < (x9_1.length : Int)
                · rw [if_pos c16] at H
                  have c16b0 : decide (x10_1 < (x9_1.length : Int)) = true := decide_eq_true c16
                  clear c16
                  obtain ⟨y274, hy274⟩ : ∃ y_ : List Int, y_ = (x9_1.set (x10_1 : Int).toNat (wrap64 ((rd t267 x10_1) * (wrap64 ((wrap64 (a2)) + 1))))) := ⟨_, rfl⟩
                  replace H : (puncheonlaw08_NormTimes.l0 k1 a1 a2 t266 t267 y274 (wrap64 (x10_1 + 1))) = some r := by first | (rw [hy274]; with_reducible exact H) | (have H2_ := (Option.bind_some _ _).symm.trans H; rw [hy274]; with_reducible exact H2_) | (have H2_ := (Option.bind_some _ _).symm.trans H; with_reducible exact H2_) | with_reducible exact H | (rw [hy274]; exact H) | exact H
                  have Ny274 := Aside0.mk hy274
                  clear hy274
                  have H' := Aside0.mk H
                  clear H
                  obtain ⟨Ao18, co18, eo18⟩ := Kd.R_slice HO_8.out
                  subst eo18
                  have p273 : 0 ≤ (x10_1 : Int) := of_decide_eq_true (by first | (with_reducible assumption) | assumption)
                  have q273 : x10_1 < (t267.length : Int) := of_decide_eq_true (by first | (with_reducible assumption) | assumption)
                  obtain ⟨ad273, e273, hx273_0⟩ := Kd.at_int (Kd.R_reads' HO_8.out).2.2 x10_1 p273 q273
                  cases e273
                  replace p273 := eq_true p273
                  replace q273 := eq_true q273
                  have p17 : 0 ≤ (x10_1 : Int) := of_decide_eq_true (by first | (with_reducible assumption) | assumption)
                  have q17 : (x10_1 : Int) < ((x9_1.length : Int) : Int) := of_decide_eq_true (by first | (with_reducible assumption) | assumption)
                  obtain ⟨go17, co17, eo17, gb17, gl17, cl17, HG17⟩ := Kd.R_form HO_9.out (by omega)
                  (first | cases eo17 | (injection eo17 with ea_ en_ ec_; (first | subst ea_ | (injection ea_ with ea_; subst ea_)); subst ec_; clear en_))
                  have GB17 := Aside0.mk gb17
                  have GG17 := Aside0.mk HG17
                  clear gb17 gl17 HG17
                  obtain ⟨hx17_0, hf17_0⟩ := Kd.R_celln 0 HO_9.out (x10_1 : Int) p17 q17
                  replace p17 := eq_true p17
                  replace q17 := eq_true q17
                  have HP19 := Kd.R_putg HO_9.out (x10_1 : Int) (wrap64 ((rd t267 x10_1) * (wrap64 ((wrap64 (a2)) + 1))))
                  go_wp2_with (first | ((with_reducible refine gate_store (t := 3) (p := 38) rfl ?_); refine store_event (t := 3) (p := 38) (v := ?vo_w20) (w1 := (wr.setCell ⟨go17, (x10_1 : Int).toNat, none⟩ (.int .i64 (wrap64 ((rd t267 x10_1) * (wrap64 ((wrap64 (a2)) + 1))))))) ?hg ?ho ?hn ?hr ?_; (case ho => rfl); (case hg => rfl); (case hn => rfl); (case hr => first | (go_simp; done) | (go_simp; rfl)); intro w20 hw; have hg : wr.grownBy w20 (some go17) := (by rw [hw]; exact HP19.2); have hp_ : Kd.R (Kd.int .i64) 3 w20 w.heap.size (fun k_ => some k_ ≠ (.slice (some ad273) t267.length co18 : Value).ownBlock) (.slice (some ⟨go17, 0, none⟩) x9_1.length co17) y274 := (by rw [hw, Ny274.out]; exact HP19.1); clear HP19; have n0_ := Aside0.mk (Kd.R_after (v := (.slice (some ⟨go17, 0, none⟩) x9_1.length co17)) (v1 := (.slice (some ⟨go17, 0, none⟩) x9_1.length co17)) (ok := (fun _ => True)) (by (with_reducible repeat (first | apply Kd.R_alloc | apply Kd.R_drewN | apply Kd.R_drew)); exact Kd.R_mono HO_8.out (fun _ hk => ⟨trivial, hk⟩)) hg (.inl rfl)); have n1_ := Aside0.mk (hp_); have n2_ := Aside0.mk ((by rw [hw]; exact below_set (HB.out) GB17.out : Below w.heap.size w w20)); clear HO_8; clear HO_9; clear HB; have HO_8 := n0_; have HO_9 := n1_; have HB := n2_; clear n0_ n1_ n2_; clear hg hw hp_))
                  go_roundg k1
                  case measure => have := HK1.out; omega
                  case rel => exact ⟨(y274), (wrap64 (x10_1 + 1)), (by first | rfl | (simp; done) | (simp [*]; done)), H', ⟨by have := HK1.out; omega⟩, ⟨by (with_reducible repeat (first | apply Kd.R_alloc | apply Kd.R_drewN | apply Kd.R_drew)); exact Kd.R_mono HO_8.out (fun _ hk => hk.2)⟩, ⟨by (with_reducible repeat (first | apply Kd.R_alloc | apply Kd.R_drewN | apply Kd.R_drew)); exact HO_9.out⟩, ⟨by repeat (first | (with_reducible first | exact HB.out | apply below_alloc | apply pw_below_drewN | apply below_drew1) | exact HB.out)⟩⟩
                · rw [if_neg c16] at H
                  exact absurd H (by simp)
              · rw [if_neg c15] at H
                exact absurd H (by simp)
            · rw [if_neg c14] at H
              exact absurd H (by simp)
          · rw [if_neg c13] at H
            have c13b0 : decide (x10_1 < 256) = false := decide_eq_false c13
            clear c13
            replace H := Option.bind_eq_some_iff.mp H
            obtain ⟨⟨t275, t276⟩, A210, H⟩ := H
            replace H : ((norm_Counts.f k1 x9_1 (wrap64 (1 + (wrap64 (Int.tmod a1 12))))).bind fun bt279 => (if t266 = true then (if t276 = bt279.2 then ((puncheonref01_Ints.f k1 bt279.1 t275).bind fun t283 => (some t283)) else (some false)) else (some false))) = some r := H
            have A21 := Aside0.mk A210
            clear A210
            replace H := Option.bind_eq_some_iff.mp H
            obtain ⟨⟨t279, t280⟩, A220, H⟩ := H
            replace H : (if t266 = true then (if t276 = t280 then ((puncheonref01_Ints.f k1 t279 t275).bind fun t283 => (some t283)) else (some false)) else (some false)) = some r := H
            have A22 := Aside0.mk A220
            clear A220
            by_cases c23 : t266 = true
            · subst c23
              have H1 : (if t276 = t280 then ((puncheonref01_Ints.f k1 t279 t275).bind fun t283 => (some t283)) else (some false)) = some r := by rw [if_pos rfl] at H; exact H
              clear H
              have H := H1
              clear H1
              by_cases c24 : t276 = t280
              · rw [if_pos c24] at H
                have c24b0 : (t276 == t280) = true := beq_iff_eq.mpr c24
                have c24b1 : (t276 != t280) = false := bne_eq_false_iff_eq.mpr c24
                clear c24
                replace H := Option.bind_eq_some_iff.mp H
                obtain ⟨t283, A250, H⟩ := H
                replace H : (some t283) = some r := H
                have A25 := Aside0.mk A250
                clear A250
                obtain rfl := Option.some.inj H
                obtain ⟨Ao26, co26, eo26⟩ := Kd.R_slice HO_8.out
                subst eo26
                go_wp2_with (first | ((with_reducible refine gate_callee (f := 10) rfl ?_); refine goesL_ (some 46) rfl rfl Try.func10 (by kernel_rfl) rfl #[.slice Ao26 t267.length co26, .int .i64 (wrap64 (1 + (wrap64 (Int.tmod a1 12))))] rfl (by (try simp only [List.map_toArray, List.map_cons, List.map_nil]); first | done | rfl | (simp only [List.length_drop, List.length_take]; rfl)) ?_; (with_reducible refine (norm_Counts.calls k1 _ _ t267 (wrap64 (1 + (wrap64 (Int.tmod a1 12)))) t275 t276 _ ?side1 ?side2 A21.out).mono ?_); (case side1 => repeat (first | exact (Kd.R_reads' HO_8.out).2.2 | (with_reducible refine Kd.C_alloc ?_ _) | (with_reducible refine Kd.C_drewN ?_ _) | (with_reducible refine Kd.C_drew ?_))); (case side2 => exact (Kd.R_reads' HO_8.out).2.1); rintro e w27 ⟨v277, rfl, ho0, hb⟩; refine ⟨_, rfl, ?_⟩; have n0_ := Aside0.mk (Kd.R_elder' (by (with_reducible repeat (first | apply Kd.R_alloc | apply Kd.R_drewN | apply Kd.R_drew)); exact HO_8.out) (Kd.R_base ho0) hb); have n1_ := Aside0.mk (Kd.R_elder' (by (with_reducible repeat (first | apply Kd.R_alloc | apply Kd.R_drewN | apply Kd.R_drew)); exact HO_9.out) (Kd.R_base ho0) hb); have n2_ := Aside0.mk (Kd.R_lower (Kd.R_new' (Kd.R_new' ho0 (Kd.R_lt (by (with_reducible repeat (first | apply Kd.R_alloc | apply Kd.R_drewN | apply Kd.R_drew)); exact HO_8.out))) (Kd.R_lt (by (with_reducible repeat (first | apply Kd.R_alloc | apply Kd.R_drewN | apply Kd.R_drew)); exact HO_9.out))) (below_size (by repeat (first | (with_reducible first | exact HB.out | apply below_alloc | apply pw_below_drewN | apply below_drew1) | exact HB.out)))); have n3_ := Aside0.mk (below_step (by repeat (first | (with_reducible first | exact HB.out | apply below_alloc | apply pw_below_drewN | apply below_drew1) | exact HB.out)) hb); clear HO_8; clear HO_9; clear HB; have HO_8 := n0_; have HO_9 := n1_; have HO278 := n2_; have HB := n3_; clear n0_ n1_ n2_ n3_; (try clear hb); (try clear hb2); (try clear hk); (try clear hi); (try clear ho0); obtain ⟨Ao28, co28, eo28⟩ := Kd.R_slice HO_9.out; subst eo28) | ((with_reducible refine gate_callee (f := 10) rfl ?_); refine goesL_ (some 52) rfl rfl Try.func10 (by kernel_rfl) rfl #[.slice Ao28 x9_1.length co28, .int .i64 (wrap64 (1 + (wrap64 (Int.tmod a1 12))))] rfl (by (try simp only [List.map_toArray, List.map_cons, List.map_nil]); first | done | rfl | (simp only [List.length_drop, List.length_take]; rfl)) ?_; (with_reducible refine (norm_Counts.calls k1 _ _ x9_1 (wrap64 (1 + (wrap64 (Int.tmod a1 12)))) t279 t280 _ ?side1 ?side2 A22.out).mono ?_); (case side1 => repeat (first | exact (Kd.R_reads' HO_9.out).2.2 | (with_reducible refine Kd.C_alloc ?_ _) | (with_reducible refine Kd.C_drewN ?_ _) | (with_reducible refine Kd.C_drew ?_))); (case side2 => exact (Kd.R_reads' HO_9.out).2.1); rintro e w29 ⟨v281, rfl, ho0, hb⟩; refine ⟨_, rfl, ?_⟩; have n0_ := Aside0.mk (Kd.R_elder' (by (with_reducible repeat (first | apply Kd.R_alloc | apply Kd.R_drewN | apply Kd.R_drew)); exact HO_8.out) (Kd.R_base ho0) hb); have n1_ := Aside0.mk (Kd.R_elder' (by (with_reducible repeat (first | apply Kd.R_alloc | apply Kd.R_drewN | apply Kd.R_drew)); exact HO_9.out) (Kd.R_base ho0) hb); have n2_ := Aside0.mk (Kd.R_elder' (by (with_reducible repeat (first | apply Kd.R_alloc | apply Kd.R_drewN | apply Kd.R_drew)); exact HO278.out) (Kd.R_base ho0) hb); have n3_ := Aside0.mk (Kd.R_lower (Kd.R_new' (Kd.R_new' (Kd.R_new' ho0 (Kd.R_lt (by (with_reducible repeat (first | apply Kd.R_alloc | apply Kd.R_drewN | apply Kd.R_drew)); exact HO_8.out))) (Kd.R_lt (by (with_reducible repeat (first | apply Kd.R_alloc | apply Kd.R_drewN | apply Kd.R_drew)); exact HO_9.out))) (Kd.R_lt (by (with_reducible repeat (first | apply Kd.R_alloc | apply Kd.R_drewN | apply Kd.R_drew)); exact HO278.out))) (below_size (by repeat (first | (with_reducible first | exact HB.out | apply below_alloc | apply pw_below_drewN | apply below_drew1) | exact HB.out)))); have n4_ := Aside0.mk (below_step (by repeat (first | (with_reducible first | exact HB.out | apply below_alloc | apply pw_below_drewN | apply below_drew1) | exact HB.out)) hb); clear HO_8; clear HO_9; clear HO278; clear HB; have HO_8 := n0_; have HO_9 := n1_; have HO278 := n2_; have HO282 := n3_; have HB := n4_; clear n0_ n1_ n2_ n3_ n4_; (try clear hb); (try clear hb2); (try clear hk); (try clear hi); (try clear ho0); obtain ⟨Ao30, co30, eo30⟩ := Kd.R_slice HO282.out; subst eo30; obtain ⟨Ao31, co31, eo31⟩ := Kd.R_slice HO278.out; subst eo31) | (go_at_call 12; (with_reducible refine (puncheonref01_Ints.calls k1 _ _ t279 _ _ t275 t283 _ ?side1 ?side2 ?side3 ?side4 A25.out).mono ?_); (case side1 => repeat (first | exact (Kd.R_reads' HO282.out).2.2 | (with_reducible refine Kd.C_alloc ?_ _) | (with_reducible refine Kd.C_drewN ?_ _) | (with_reducible refine Kd.C_drew ?_))); (case side2 => exact (Kd.R_reads' HO282.out).2.1); (case side3 => repeat (first | exact (Kd.R_reads' HO278.out).2.2 | (with_reducible refine Kd.C_alloc ?_ _) | (with_reducible refine Kd.C_drewN ?_ _) | (with_reducible refine Kd.C_drew ?_))); (case side4 => exact (Kd.R_reads' HO278.out).2.1); rintro e w' ⟨rfl, ⟨nd, rfl⟩⟩))
                go_ret
                exact ⟨by first | rfl | (simp [errW_none, errW_some] <;> rfl) | (simp [*, errW_none, errW_some] <;> rfl), by repeat (first | (with_reducible first | exact HB.out | apply below_alloc | apply pw_below_drewN | apply below_drew1) | exact HB.out)⟩
              · rw [if_neg c24] at H
                have c24b0 : (t276 == t280) = false := beq_eq_false_iff_ne.mpr c24
                have c24b1 : (t276 != t280) = true := bne_iff_ne.mpr c24
                obtain rfl := Option.some.inj H
                obtain ⟨Ao32, co32, eo32⟩ := Kd.R_slice HO_8.out
                subst eo32
                go_wp2_with (first | ((with_reducible refine gate_callee (f := 10) rfl ?_); refine goesL_ (some 46) rfl rfl Try.func10 (by kernel_rfl) rfl #[.slice Ao32 t267.length co32, .int .i64 (wrap64 (1 + (wrap64 (Int.tmod a1 12))))] rfl (by (try simp only [List.map_toArray, List.map_cons, List.map_nil]); first | done | rfl | (simp only [List.length_drop, List.length_take]; rfl)) ?_; (with_reducible refine (norm_Counts.calls k1 _ _ t267 (wrap64 (1 + (wrap64 (Int.tmod a1 12)))) t275 t276 _ ?side1 ?side2 A21.out).mono ?_); (case side1 => repeat (first | exact (Kd.R_reads' HO_8.out).2.2 | (with_reducible refine Kd.C_alloc ?_ _) | (with_reducible refine Kd.C_drewN ?_ _) | (with_reducible refine Kd.C_drew ?_))); (case side2 => exact (Kd.R_reads' HO_8.out).2.1); rintro e w33 ⟨v277, rfl, ho0, hb⟩; refine ⟨_, rfl, ?_⟩; have n0_ := Aside0.mk (Kd.R_elder' (by (with_reducible repeat (first | apply Kd.R_alloc | apply Kd.R_drewN | apply Kd.R_drew)); exact HO_8.out) (Kd.R_base ho0) hb); have n1_ := Aside0.mk (Kd.R_elder' (by (with_reducible repeat (first | apply Kd.R_alloc | apply Kd.R_drewN | apply Kd.R_drew)); exact HO_9.out) (Kd.R_base ho0) hb); have n2_ := Aside0.mk (Kd.R_lower (Kd.R_new' (Kd.R_new' ho0 (Kd.R_lt (by (with_reducible repeat (first | apply Kd.R_alloc | apply Kd.R_drewN | apply Kd.R_drew)); exact HO_8.out))) (Kd.R_lt (by (with_reducible repeat (first | apply Kd.R_alloc | apply Kd.R_drewN | apply Kd.R_drew)); exact HO_9.out))) (below_size (by repeat (first | (with_reducible first | exact HB.out | apply below_alloc | apply pw_below_drewN | apply below_drew1) | exact HB.out)))); have n3_ := Aside0.mk (below_step (by repeat (first | (with_reducible first | exact HB.out | apply below_alloc | apply pw_below_drewN | apply below_drew1) | exact HB.out)) hb); clear HO_8; clear HO_9; clear HB; have HO_8 := n0_; have HO_9 := n1_; have HO278 := n2_; have HB := n3_; clear n0_ n1_ n2_ n3_; (try clear hb); (try clear hb2); (try clear hk); (try clear hi); (try clear ho0); obtain ⟨Ao34, co34, eo34⟩ := Kd.R_slice HO_9.out; subst eo34) | ((with_reducible refine gate_callee (f := 10) rfl ?_); refine goesL_ (some 52) rfl rfl Try.func10 (by kernel_rfl) rfl #[.slice Ao34 x9_1.length co34, .int .i64 (wrap64 (1 + (wrap64 (Int.tmod a1 12))))] rfl (by (try simp only [List.map_toArray, List.map_cons, List.map_nil]); first | done | rfl | (simp only [List.length_drop, List.length_take]; rfl)) ?_; (with_reducible refine (norm_Counts.calls k1 _ _ x9_1 (wrap64 (1 + (wrap64 (Int.tmod a1 12)))) t279 t280 _ ?side1 ?side2 A22.out).mono ?_); (case side1 => repeat (first | exact (Kd.R_reads' HO_9.out).2.2 | (with_reducible refine Kd.C_alloc ?_ _) | (with_reducible refine Kd.C_drewN ?_ _) | (with_reducible refine Kd.C_drew ?_))); (case side2 => exact (Kd.R_reads' HO_9.out).2.1); rintro e w35 ⟨v281, rfl, ho0, hb⟩; refine ⟨_, rfl, ?_⟩; have n0_ := Aside0.mk (Kd.R_elder' (by (with_reducible repeat (first | apply Kd.R_alloc | apply Kd.R_drewN | apply Kd.R_drew)); exact HO_8.out) (Kd.R_base ho0) hb); have n1_ := Aside0.mk (Kd.R_elder' (by (with_reducible repeat (first | apply Kd.R_alloc | apply Kd.R_drewN | apply Kd.R_drew)); exact HO_9.out) (Kd.R_base ho0) hb); have n2_ := Aside0.mk (Kd.R_elder' (by (with_reducible repeat (first | apply Kd.R_alloc | apply Kd.R_drewN | apply Kd.R_drew)); exact HO278.out) (Kd.R_base ho0) hb); have n3_ := Aside0.mk (Kd.R_lower (Kd.R_new' (Kd.R_new' (Kd.R_new' ho0 (Kd.R_lt (by (with_reducible repeat (first | apply Kd.R_alloc | apply Kd.R_drewN | apply Kd.R_drew)); exact HO_8.out))) (Kd.R_lt (by (with_reducible repeat (first | apply Kd.R_alloc | apply Kd.R_drewN | apply Kd.R_drew)); exact HO_9.out))) (Kd.R_lt (by (with_reducible repeat (first | apply Kd.R_alloc | apply Kd.R_drewN | apply Kd.R_drew)); exact HO278.out))) (below_size (by repeat (first | (with_reducible first | exact HB.out | apply below_alloc | apply pw_below_drewN | apply below_drew1) | exact HB.out)))); have n4_ := Aside0.mk (below_step (by repeat (first | (with_reducible first | exact HB.out | apply below_alloc | apply pw_below_drewN | apply below_drew1) | exact HB.out)) hb); clear HO_8; clear HO_9; clear HO278; clear HB; have HO_8 := n0_; have HO_9 := n1_; have HO278 := n2_; have HO282 := n3_; have HB := n4_; clear n0_ n1_ n2_ n3_ n4_; (try clear hb); (try clear hb2); (try clear hk); (try clear hi); (try clear ho0)))
                go_ret
                exact ⟨by first | rfl | (simp [errW_none, errW_some] <;> rfl) | (simp [*, errW_none, errW_some] <;> rfl), by repeat (first | (with_reducible first | exact HB.out | apply below_alloc | apply pw_below_drewN | apply below_drew1) | exact HB.out)⟩
            · replace c23 := Bool.eq_false_iff.mpr c23
              subst c23
              have H1 : (some false) = some r := by rw [if_neg (show ¬ (false = true) by decide)] at H; exact H
              clear H
              have H := H1
              clear H1
              obtain rfl := Option.some.inj H
              obtain ⟨Ao36, co36, eo36⟩ := Kd.R_slice HO_8.out
              subst eo36
              go_wp2_with (first | ((with_reducible refine gate_callee (f := 10) rfl ?_); refine goesL_ (some 46) rfl rfl Try.func10 (by kernel_rfl) rfl #[.slice Ao36 t267.length co36, .int .i64 (wrap64 (1 + (wrap64 (Int.tmod a1 12))))] rfl (by (try simp only [List.map_toArray, List.map_cons, List.map_nil]); first | done | rfl | (simp only [List.length_drop, List.length_take]; rfl)) ?_; (with_reducible refine (norm_Counts.calls k1 _ _ t267 (wrap64 (1 + (wrap64 (Int.tmod a1 12)))) t275 t276 _ ?side1 ?side2 A21.out).mono ?_); (case side1 => repeat (first | exact (Kd.R_reads' HO_8.out).2.2 | (with_reducible refine Kd.C_alloc ?_ _) | (with_reducible refine Kd.C_drewN ?_ _) | (with_reducible refine Kd.C_drew ?_))); (case side2 => exact (Kd.R_reads' HO_8.out).2.1); rintro e w37 ⟨v277, rfl, ho0, hb⟩; refine ⟨_, rfl, ?_⟩; have n0_ := Aside0.mk (Kd.R_elder' (by (with_reducible repeat (first | apply Kd.R_alloc | apply Kd.R_drewN | apply Kd.R_drew)); exact HO_8.out) (Kd.R_base ho0) hb); have n1_ := Aside0.mk (Kd.R_elder' (by (with_reducible repeat (first | apply Kd.R_alloc | apply Kd.R_drewN | apply Kd.R_drew)); exact HO_9.out) (Kd.R_base ho0) hb); have n2_ := Aside0.mk (Kd.R_lower (Kd.R_new' (Kd.R_new' ho0 (Kd.R_lt (by (with_reducible repeat (first | apply Kd.R_alloc | apply Kd.R_drewN | apply Kd.R_drew)); exact HO_8.out))) (Kd.R_lt (by (with_reducible repeat (first | apply Kd.R_alloc | apply Kd.R_drewN | apply Kd.R_drew)); exact HO_9.out))) (below_size (by repeat (first | (with_reducible first | exact HB.out | apply below_alloc | apply pw_below_drewN | apply below_drew1) | exact HB.out)))); have n3_ := Aside0.mk (below_step (by repeat (first | (with_reducible first | exact HB.out | apply below_alloc | apply pw_below_drewN | apply below_drew1) | exact HB.out)) hb); clear HO_8; clear HO_9; clear HB; have HO_8 := n0_; have HO_9 := n1_; have HO278 := n2_; have HB := n3_; clear n0_ n1_ n2_ n3_; (try clear hb); (try clear hb2); (try clear hk); (try clear hi); (try clear ho0); obtain ⟨Ao38, co38, eo38⟩ := Kd.R_slice HO_9.out; subst eo38) | ((with_reducible refine gate_callee (f := 10) rfl ?_); refine goesL_ (some 52) rfl rfl Try.func10 (by kernel_rfl) rfl #[.slice Ao38 x9_1.length co38, .int .i64 (wrap64 (1 + (wrap64 (Int.tmod a1 12))))] rfl (by (try simp only [List.map_toArray, List.map_cons, List.map_nil]); first | done | rfl | (simp only [List.length_drop, List.length_take]; rfl)) ?_; (with_reducible refine (norm_Counts.calls k1 _ _ x9_1 (wrap64 (1 + (wrap64 (Int.tmod a1 12)))) t279 t280 _ ?side1 ?side2 A22.out).mono ?_); (case side1 => repeat (first | exact (Kd.R_reads' HO_9.out).2.2 | (with_reducible refine Kd.C_alloc ?_ _) | (with_reducible refine Kd.C_drewN ?_ _) | (with_reducible refine Kd.C_drew ?_))); (case side2 => exact (Kd.R_reads' HO_9.out).2.1); rintro e w39 ⟨v281, rfl, ho0, hb⟩; refine ⟨_, rfl, ?_⟩; have n0_ := Aside0.mk (Kd.R_elder' (by (with_reducible repeat (first | apply Kd.R_alloc | apply Kd.R_drewN | apply Kd.R_drew)); exact HO_8.out) (Kd.R_base ho0) hb); have n1_ := Aside0.mk (Kd.R_elder' (by (with_reducible repeat (first | apply Kd.R_alloc | apply Kd.R_drewN | apply Kd.R_drew)); exact HO_9.out) (Kd.R_base ho0) hb); have n2_ := Aside0.mk (Kd.R_elder' (by (with_reducible repeat (first | apply Kd.R_alloc | apply Kd.R_drewN | apply Kd.R_drew)); exact HO278.out) (Kd.R_base ho0) hb); have n3_ := Aside0.mk (Kd.R_lower (Kd.R_new' (Kd.R_new' (Kd.R_new' ho0 (Kd.R_lt (by (with_reducible repeat (first | apply Kd.R_alloc | apply Kd.R_drewN | apply Kd.R_drew)); exact HO_8.out))) (Kd.R_lt (by (with_reducible repeat (first | apply Kd.R_alloc | apply Kd.R_drewN | apply Kd.R_drew)); exact HO_9.out))) (Kd.R_lt (by (with_reducible repeat (first | apply Kd.R_alloc | apply Kd.R_drewN | apply Kd.R_drew)); exact HO278.out))) (below_size (by repeat (first | (with_reducible first | exact HB.out | apply below_alloc | apply pw_below_drewN | apply below_drew1) | exact HB.out)))); have n4_ := Aside0.mk (below_step (by repeat (first | (with_reducible first | exact HB.out | apply below_alloc | apply pw_below_drewN | apply below_drew1) | exact HB.out)) hb); clear HO_8; clear HO_9; clear HO278; clear HB; have HO_8 := n0_; have HO_9 := n1_; have HO278 := n2_; have HO282 := n3_; have HB := n4_; clear n0_ n1_ n2_ n3_ n4_; (try clear hb); (try clear hb2); (try clear hk); (try clear hi); (try clear ho0)))
              go_ret
              exact ⟨by first | rfl | (simp [errW_none, errW_some] <;> rfl) | (simp [*, errW_none, errW_some] <;> rfl), by repeat (first | (with_reducible first | exact HB.out | apply below_alloc | apply pw_below_drewN | apply below_drew1) | exact HB.out)⟩
    · rw [if_neg c8] at H
      exact absurd H (by simp)

/-- THE ONE PURE STATEMENT of puncheonlaw08_NormTimes: yours. -/
def puncheonlaw08_NormTimes.Pure : Prop := ∀ (l0 : List Int) (a1 : Int) (a2 : Int), l0.length ≤ maxLen → l0.length * 2 ≤ 140737488351232 → (∀ x ∈ l0, (Lit.int .u16 x).wf = true) → (Lit.int .u8 a1).wf = true → (Lit.int .u8 a2).wf = true → ∃ k, puncheonlaw08_NormTimes.f k l0 a1 a2 = some true
theorem puncheonlaw08_NormTimes.walk (P : puncheonlaw08_NormTimes.Pure) (a0 : Option Addr) (len0 cap0 : Nat) (z0 : List Int) (a1 : Int) (a2 : Int) (w : World) (w0 : (a0 = none ∧ len0 = 0 ∧ cap0 = 0 ∧ z0 = []) ∨ ∃ x, a0 = some x ∧ len0 ≤ cap0 ∧ cap0 ≤ maxLen ∧ z0.length = cap0 ∧ (∀ i, i < z0.length → w.cell? (x.add i) = some (.int .u16 (z0.getD i 0))) ∧ ∀ n ∈ z0, (Lit.int .u16 n).wf = true) (y0 : len0 * 2 ≤ 140737488351232) (w1 : (Lit.int .u8 a1).wf = true) (w2 : (Lit.int .u8 a2).wf = true) :
    Calls Try.prog 8 #[.slice a0 len0 cap0, .int .u8 a1, .int .u8 a2] w fun e w' => e = .returned (.bool true) ∧ Below w.heap.size w w' := by
  obtain ⟨l0, rfl, hr0, hm0, hw0, hc0⟩ := ReadsInt.ofRowC w0
  obtain ⟨k, h⟩ := P l0 a1 a2 hm0 y0 hw0 w1 w2
  refine (puncheonlaw08_NormTimes.calls k _ _ l0 a1 a2 true w (Kd.C_of_reads (d := (0 : Int)) (h1 := fun _ => rfl) hr0) hc0 h).mono ?_
  rintro e w' ⟨rfl, hd⟩
  exact ⟨rfl, hd⟩

end Go.Proofs.Ytlcpcnachdbboaa.PPr
