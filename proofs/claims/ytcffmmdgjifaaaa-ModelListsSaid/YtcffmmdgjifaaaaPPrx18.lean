/- The machine's side of this seat's laws: what each function computes, and that its call computes it; written by a program (pr.py over the kit's print.py). -/
import Derived.Test.YtcffmmdgjifaaaaPPrx0
import Derived.Test.YtcffmmdgjifaaaaPPrx2
import Derived.Test.YtcffmmdgjifaaaaPPrx7
import Derived.Test.YtcffmmdgjifaaaaPPrx13
import Derived.Test.YtcffmmdgjifaaaaPPrx14
import Derived.Test.YtcffmmdgjifaaaaPPrx15
import Derived.Test.YtcffmmdgjifaaaaPPrx16
import Derived.Test.YtcffmmdgjifaaaaPPrx17
namespace Go.Proofs.Ytcffmmdgjifaaaa.PPr
open Go.RowKit Go.Proofs.YtcffmmdgjifaaaaW.PrintWords Go.Proofs.YtcffmmdgjifaaaaW.PrintLast Go.Proofs.YtcffmmdgjifaaaaW.PrintMore
attribute [local go_sem] max2_int min2_int max_two min_two max_three min_three max_four min_four   -- for this text's walks alone
set_option linter.unusedVariables false
set_option linter.unusedSimpArgs false

/-! ### puncheonlaw16_ModelLists: function 6 -/
mutual
def puncheonlaw16_ModelLists.j0 : Nat → List Int → Int → Int → Bool → Bool → Option (Bool)
  | 0, _, _, _, _, _ => none
  | k + 1, x0, x1, x2, x7, x24 => if x24 = true then (some x7) else ((model_First.f k x0).bind fun bt191 => ((model_Zero.f k x0).bind fun bt198 => ((model_At.f k bt191.1 bt191.2.1 bt191.2.2.1 (wrap64 (x1))).bind fun t205 => ((model_At.f k bt198.1 bt198.2.1 bt198.2.2.1 (wrap64 (x1))).bind fun t208 => ((ctx_For.f x0 (wrap64 (x1))).bind fun t211 => ((hist_Of.f x0).bind fun t214 => (if bt191.2.2.2 = 0 then (if bt198.2.2.2 = 0 then (if (t208.length : Int) = 256 then (if (t211.length : Int) = 256 then (if (t214.length : Int) = 256 then (if bt191.1 < 5 then (puncheonlaw16_ModelLists.j1 k x2 x7 t205 t208 t211 t214 true bt191.1 bt191.2.1 bt191.2.2.1 bt198.1 bt198.2.1 bt198.2.2.1) else (if bt191.1 > 9 then (puncheonlaw16_ModelLists.j1 k x2 x7 t205 t208 t211 t214 true bt191.1 bt191.2.1 bt191.2.2.1 bt198.1 bt198.2.1 bt198.2.2.1) else (if bt198.1 < 5 then (puncheonlaw16_ModelLists.j1 k x2 x7 t205 t208 t211 t214 true bt191.1 bt191.2.1 bt191.2.2.1 bt198.1 bt198.2.1 bt198.2.2.1) else (puncheonlaw16_ModelLists.j1 k x2 x7 t205 t208 t211 t214 (decide (bt198.1 > 11)) bt191.1 bt191.2.1 bt191.2.2.1 bt198.1 bt198.2.1 bt198.2.2.1)))) else (puncheonlaw16_ModelLists.j1 k x2 x7 t205 t208 t211 t214 true bt191.1 bt191.2.1 bt191.2.2.1 bt198.1 bt198.2.1 bt198.2.2.1)) else (puncheonlaw16_ModelLists.j1 k x2 x7 t205 t208 t211 t214 true bt191.1 bt191.2.1 bt191.2.2.1 bt198.1 bt198.2.1 bt198.2.2.1)) else (puncheonlaw16_ModelLists.j1 k x2 x7 t205 t208 t211 t214 true bt191.1 bt191.2.1 bt191.2.2.1 bt198.1 bt198.2.1 bt198.2.2.1)) else (puncheonlaw16_ModelLists.j1 k x2 x7 t205 t208 t211 t214 true bt191.1 bt191.2.1 bt191.2.2.1 bt198.1 bt198.2.1 bt198.2.2.1)) else (puncheonlaw16_ModelLists.j1 k x2 x7 t205 t208 t211 t214 true bt191.1 bt191.2.1 bt191.2.2.1 bt198.1 bt198.2.1 bt198.2.2.1))))))))
def puncheonlaw16_ModelLists.j1 : Nat → Int → Bool → List Int → List Int → List Int → List Int → Bool → Int → Bool → List (List Int) → Int → Bool → List (List Int) → Option (Bool)
  | 0, _, _, _, _, _, _, _, _, _, _, _, _, _ => none
  | k + 1, x2, x7, x12, x13, x14, x15, x90, x198000, x198001, x198002, x205000, x205001, x205002 => if x90 = true then (some false) else (if 0 ≤ x2 then (if x2 < (x13.length : Int) then (if x2 < (x15.length : Int) then (if ((decide ((rd x13 x2) > 0)) != (decide ((rd x15 x2) > 0))) = true then (puncheonlaw16_ModelLists.j2 k x2 x7 x12 x14 true x198000 x198001 x198002) else ((hist_Total.f k x13).bind fun t219 => (if 0 ≤ x205000 then (puncheonlaw16_ModelLists.j2 k x2 x7 x12 x14 (t219 != (shl .i64 1 x205000)) x198000 x198001 x198002) else (none)))) else (none)) else (none)) else (none))
def puncheonlaw16_ModelLists.j2 : Nat → Int → Bool → List Int → List Int → Bool → Int → Bool → List (List Int) → Option (Bool)
  | 0, _, _, _, _, _, _, _, _ => none
  | k + 1, x2, x7, x12, x14, x109, x198000, x198001, x198002 => if x109 = true then (some false) else ((hist_Total.f k x14).bind fun t220 => (if t220 = 0 then (if x7 = true then (some ((x12.length : Int) == 0)) else (some false)) else (if (x12.length : Int) = 256 then (if x7 = true then (if 0 ≤ x2 then (if x2 < (x12.length : Int) then (if x2 < (x14.length : Int) then (if ((decide ((rd x12 x2) > 0)) == (decide ((rd x14 x2) > 0))) = true then ((hist_Total.f k x12).bind fun t223 => (if 0 ≤ x198000 then (some (t223 == (shl .i64 1 x198000))) else (none))) else (some false)) else (none)) else (none)) else (none)) else (some false)) else (some false))))
end
def puncheonlaw16_ModelLists.f (k : Nat) (l0 : List Int) (a1 : Int) (a2 : Int) : Option (Bool) := (puncheonlaw16_awake.f k).bind fun t190 => (if (l0.length : Int) > 80 then (puncheonlaw16_ModelLists.j0 k l0 a1 a2 t190 true) else (puncheonlaw16_ModelLists.j0 k l0 a1 a2 t190 ((l0.length : Int) == 0)))
theorem puncheonlaw16_ModelLists.mono_l : ∀ k, (∀ y0 y1 y2 y3 y4, LeO (puncheonlaw16_ModelLists.j0 k y0 y1 y2 y3 y4) (puncheonlaw16_ModelLists.j0 (k + 1) y0 y1 y2 y3 y4)) ∧ (∀ y0 y1 y2 y3 y4 y5 y6 y7 y8 y9 y10 y11 y12, LeO (puncheonlaw16_ModelLists.j1 k y0 y1 y2 y3 y4 y5 y6 y7 y8 y9 y10 y11 y12) (puncheonlaw16_ModelLists.j1 (k + 1) y0 y1 y2 y3 y4 y5 y6 y7 y8 y9 y10 y11 y12)) ∧ (∀ y0 y1 y2 y3 y4 y5 y6 y7, LeO (puncheonlaw16_ModelLists.j2 k y0 y1 y2 y3 y4 y5 y6 y7) (puncheonlaw16_ModelLists.j2 (k + 1) y0 y1 y2 y3 y4 y5 y6 y7))
  | 0 => ⟨fun _ _ _ _ _ r h => by simp [puncheonlaw16_ModelLists.j0] at h, fun _ _ _ _ _ _ _ _ _ _ _ _ _ r h => by simp [puncheonlaw16_ModelLists.j1] at h, fun _ _ _ _ _ _ _ _ r h => by simp [puncheonlaw16_ModelLists.j2] at h⟩
  | k + 1 => by
    obtain ⟨ih0, ih1, ih2⟩ := puncheonlaw16_ModelLists.mono_l k
    refine ⟨?_, ?_, ?_⟩
    · intro y0 y1 y2 y3 y4
      unfold puncheonlaw16_ModelLists.j0
      repeat' first
      | (with_reducible exact ih0 _ _ _ _ _)
      | (with_reducible exact ih1 _ _ _ _ _ _ _ _ _ _ _ _ _)
      | (with_reducible exact ih2 _ _ _ _ _ _ _ _)
      | (with_reducible exact hist_Total.mono _ _)
      | (with_reducible exact model_At.mono _ _ _ _ _)
      | (with_reducible exact model_First.mono _ _)
      | (with_reducible exact model_Zero.mono _ _)
      | (with_reducible exact puncheonlaw16_awake.mono _)
      | (with_reducible exact LeO.refl _)
      | (with_reducible exact LeO.none _)
      | (with_reducible refine LeO.ite ?_ ?_)
      | (with_reducible refine LeO.bind ?_ (fun _ => ?_))
      | exact ih0 _ _ _ _ _
      | exact ih1 _ _ _ _ _ _ _ _ _ _ _ _ _
      | exact ih2 _ _ _ _ _ _ _ _
      | exact hist_Total.mono _ _
      | exact model_At.mono _ _ _ _ _
      | exact model_First.mono _ _
      | exact model_Zero.mono _ _
      | exact puncheonlaw16_awake.mono _
      | exact LeO.none _
      | refine LeO.ite ?_ ?_
      | refine LeO.bind ?_ (fun _ => ?_)
    · intro y0 y1 y2 y3 y4 y5 y6 y7 y8 y9 y10 y11 y12
      unfold puncheonlaw16_ModelLists.j1
      repeat' first
      | (with_reducible exact ih0 _ _ _ _ _)
      | (with_reducible exact ih1 _ _ _ _ _ _ _ _ _ _ _ _ _)
      | (with_reducible exact ih2 _ _ _ _ _ _ _ _)
      | (with_reducible exact hist_Total.mono _ _)
      | (with_reducible exact model_At.mono _ _ _ _ _)
      | (with_reducible exact model_First.mono _ _)
      | (with_reducible exact model_Zero.mono _ _)
      | (with_reducible exact puncheonlaw16_awake.mono _)
      | (with_reducible exact LeO.refl _)
      | (with_reducible exact LeO.none _)
      | (with_reducible refine LeO.ite ?_ ?_)
      | (with_reducible refine LeO.bind ?_ (fun _ => ?_))
      | exact ih0 _ _ _ _ _
      | exact ih1 _ _ _ _ _ _ _ _ _ _ _ _ _
      | exact ih2 _ _ _ _ _ _ _ _
      | exact hist_Total.mono _ _
      | exact model_At.mono _ _ _ _ _
      | exact model_First.mono _ _
      | exact model_Zero.mono _ _
      | exact puncheonlaw16_awake.mono _
      | exact LeO.none _
      | refine LeO.ite ?_ ?_
      | refine LeO.bind ?_ (fun _ => ?_)
    · intro y0 y1 y2 y3 y4 y5 y6 y7
      unfold puncheonlaw16_ModelLists.j2
      repeat' first
      | (with_reducible exact ih0 _ _ _ _ _)
      | (with_reducible exact ih1 _ _ _ _ _ _ _ _ _ _ _ _ _)
      | (with_reducible exact ih2 _ _ _ _ _ _ _ _)
      | (with_reducible exact hist_Total.mono _ _)
      | (with_reducible exact model_At.mono _ _ _ _ _)
      | (with_reducible exact model_First.mono _ _)
      | (with_reducible exact model_Zero.mono _ _)
      | (with_reducible exact puncheonlaw16_awake.mono _)
      | (with_reducible exact LeO.refl _)
      | (with_reducible exact LeO.none _)
      | (with_reducible refine LeO.ite ?_ ?_)
      | (with_reducible refine LeO.bind ?_ (fun _ => ?_))
      | exact ih0 _ _ _ _ _
      | exact ih1 _ _ _ _ _ _ _ _ _ _ _ _ _
      | exact ih2 _ _ _ _ _ _ _ _
      | exact hist_Total.mono _ _
      | exact model_At.mono _ _ _ _ _
      | exact model_First.mono _ _
      | exact model_Zero.mono _ _
      | exact puncheonlaw16_awake.mono _
      | exact LeO.none _
      | refine LeO.ite ?_ ?_
      | refine LeO.bind ?_ (fun _ => ?_)
theorem puncheonlaw16_ModelLists.mono : ∀ a0 a1 a2 k, LeO (puncheonlaw16_ModelLists.f k a0 a1 a2) (puncheonlaw16_ModelLists.f (k + 1) a0 a1 a2) := by
  intro a0 a1 a2 k
  obtain ⟨ih0, ih1, ih2⟩ := puncheonlaw16_ModelLists.mono_l k
  unfold puncheonlaw16_ModelLists.f
  repeat' first
      | (with_reducible exact ih0 _ _ _ _ _)
      | (with_reducible exact ih1 _ _ _ _ _ _ _ _ _ _ _ _ _)
      | (with_reducible exact ih2 _ _ _ _ _ _ _ _)
      | (with_reducible exact hist_Total.mono _ _)
      | (with_reducible exact model_At.mono _ _ _ _ _)
      | (with_reducible exact model_First.mono _ _)
      | (with_reducible exact model_Zero.mono _ _)
      | (with_reducible exact puncheonlaw16_awake.mono _)
      | (with_reducible exact LeO.refl _)
      | (with_reducible exact LeO.none _)
      | (with_reducible refine LeO.ite ?_ ?_)
      | (with_reducible refine LeO.bind ?_ (fun _ => ?_))
      | exact ih0 _ _ _ _ _
      | exact ih1 _ _ _ _ _ _ _ _ _ _ _ _ _
      | exact ih2 _ _ _ _ _ _ _ _
      | exact hist_Total.mono _ _
      | exact model_At.mono _ _ _ _ _
      | exact model_First.mono _ _
      | exact model_Zero.mono _ _
      | exact puncheonlaw16_awake.mono _
      | exact LeO.none _
      | refine LeO.ite ?_ ?_
      | refine LeO.bind ?_ (fun _ => ?_)
set_option maxHeartbeats 8000000 in
set_option maxRecDepth 100000 in
theorem puncheonlaw16_ModelLists.calls (k : Nat) (A0 : Option Addr) (c0 : Nat) (l0 : List Int) (a1 : Int) (a2 : Int) (r : Bool) (w : World) (hr0 : Kd.C (Kd.int .u8) w A0 l0.length l0) (hc0 : l0.length ≤ c0) (h : puncheonlaw16_ModelLists.f k l0 a1 a2 = some r) :
    Calls Try.prog 6 #[.slice A0 l0.length c0, .int .u8 a1, .int .u8 a2] w fun e w' => e = .returned (.bool r) ∧ Below w.heap.size w w' := by
  have hu24 := Try.underlying24
  have HR0 := Aside0.mk hr0
  have HC0 := Aside0.mk hc0
  clear hr0 hc0
  have HB := Aside0.mk (Below.refl w.heap.size w)
  have H : ((puncheonlaw16_awake.f k).bind fun t190 => (if (l0.length : Int) > 80 then (puncheonlaw16_ModelLists.j0 k l0 a1 a2 t190 true) else (puncheonlaw16_ModelLists.j0 k l0 a1 a2 t190 ((l0.length : Int) == 0)))) = some r := h
  clear h
  replace H := Option.bind_eq_some_iff.mp H
  obtain ⟨t190, A40, H⟩ := H
  replace H : (if (l0.length : Int) > 80 then (puncheonlaw16_ModelLists.j0 k l0 a1 a2 t190 true) else (puncheonlaw16_ModelLists.j0 k l0 a1 a2 t190 ((l0.length : Int) == 0))) = some r := H
  have A4 := Aside0.mk A40
  clear A40
  have HC5 := Aside0.mk H
  clear H
  go_enter Try.func6, Try.ntmps6
  go_upto_region 2 with (first | (go_at_call 8; (with_reducible refine (puncheonlaw16_awake.calls k  t190 _ A4.out).mono ?_); rintro e w6 ⟨rfl, hb⟩; have n0_ := Aside0.mk (below_step (by repeat (first | (with_reducible first | exact HB.out | apply below_alloc | apply pw_below_drewN | apply below_drew1) | exact HB.out)) hb); clear HB; have HB := n0_; clear n0_; (try clear hb); (try clear hb2); (try clear hk); (try clear hi)))
  repeat (go_quiet (first | (go_at_call 8; (with_reducible refine (puncheonlaw16_awake.calls k  t190 _ A4.out).mono ?_); rintro e w6 ⟨rfl, hb⟩; have n0_ := Aside0.mk (below_step (by repeat (first | (with_reducible first | exact HB.out | apply below_alloc | apply pw_below_drewN | apply below_drew1) | exact HB.out)) hb); clear HB; have HB := n0_; clear n0_; (try clear hb); (try clear hb2); (try clear hk); (try clear hi))); go_upto_region 2 with (first | (go_at_call 8; (with_reducible refine (puncheonlaw16_awake.calls k  t190 _ A4.out).mono ?_); rintro e w6 ⟨rfl, hb⟩; have n0_ := Aside0.mk (below_step (by repeat (first | (with_reducible first | exact HB.out | apply below_alloc | apply pw_below_drewN | apply below_drew1) | exact HB.out)) hb); clear HB; have HB := n0_; clear n0_; (try clear hb); (try clear hb2); (try clear hk); (try clear hi))))
  (try simp only [Act.put, List.setIfInBounds_toArray, List.set_cons_zero, List.set_cons_succ])
  go_cut [24] (fun v24 wc => ∃ (kq : Nat) (x24_4 : Bool), v24 = .bool x24_4 ∧ Aside0 (puncheonlaw16_ModelLists.j0 kq l0 a1 a2 t190 x24_4 = some r) ∧ Aside0 (kq ≤ k) ∧ Aside0 (Below w.heap.size w wc))
  case first =>
    have H := HC5.out
    clear HC5
    by_cases c7 : (l0.length : Int) > 80
    · rw [if_pos c7] at H
      have c7b0 : decide (80 < (l0.length : Int)) = true := decide_eq_true c7
      have c7b1 : decide (80 < l0.length) = true := decide_eq_true (by omega)
      clear c7
      (first | rw [c7b0] | (simp only [i64_w, i32_w]; rw [c7b0]) | skip)
      have H' := Aside0.mk H
      clear H
      go_wp2
      repeat (go_quiet (fail); try go_wp2)
      go_meet
      case rel => exact ⟨_, (true), (by first | rfl | (simp; done) | (simp [*]; done)), H', ⟨by first | omega | exact Nat.le_refl _⟩, ⟨by repeat (first | (with_reducible first | exact HB.out | apply below_alloc | apply pw_below_drewN | apply below_drew1) | exact HB.out)⟩⟩
    · rw [if_neg c7] at H
      have c7b0 : decide (80 < (l0.length : Int)) = false := decide_eq_false c7
      have c7b1 : decide (80 < l0.length) = false := decide_eq_false (by omega)
      clear c7
      (first | rw [c7b0] | (simp only [i64_w, i32_w]; rw [c7b0]) | skip)
      have H' := Aside0.mk H
      clear H
      go_wp2
      repeat (go_quiet (fail); try go_wp2)
      go_meet
      case rel => exact ⟨_, (((l0.length : Int) == 0)), (by first | rfl | (simp; done) | (simp [*]; done)), H', ⟨by first | omega | exact Nat.le_refl _⟩, ⟨by repeat (first | (with_reducible first | exact HB.out | apply below_alloc | apply pw_below_drewN | apply below_drew1) | exact HB.out)⟩⟩
  case rest =>
    clear HC5
    try clear p2
    try clear c6
    try clear c7
    try clear c7b0
    try clear c7b1
    obtain ⟨kq, x24_4, rfl, HA, HJ4, HB⟩ := hcut
    cases kq with
    | zero => exact absurd HA.out (by simp [puncheonlaw16_ModelLists.j0])
    | succ kj4 =>
      have H := HA.out
      clear HA
      simp only [puncheonlaw16_ModelLists.j0] at H
      by_cases c8 : x24_4 = true
      · subst c8
        have H1 : (some t190) = some r := by rw [if_pos rfl] at H; exact H
        clear H
        have H := H1
        clear H1
        obtain rfl := Option.some.inj H
        go_wp2
        repeat (go_quiet (fail); try go_wp2)
        go_ret
        exact ⟨by first | rfl | (simp [errW_none, errW_some] <;> rfl) | (simp [*, errW_none, errW_some] <;> rfl), by repeat (first | (with_reducible first | exact HB.out | apply below_alloc | apply pw_below_drewN | apply below_drew1) | exact HB.out)⟩
      · replace c8 := Bool.eq_false_iff.mpr c8
        subst c8
        have H1 : ((model_First.f kj4 l0).bind fun bt191 => ((model_Zero.f kj4 l0).bind fun bt198 => ((model_At.f kj4 bt191.1 bt191.2.1 bt191.2.2.1 (wrap64 (a1))).bind fun t205 => ((model_At.f kj4 bt198.1 bt198.2.1 bt198.2.2.1 (wrap64 (a1))).bind fun t208 => ((ctx_For.f l0 (wrap64 (a1))).bind fun t211 => ((hist_Of.f l0).bind fun t214 => (if bt191.2.2.2 = 0 then (if bt198.2.2.2 = 0 then (if (t208.length : Int) = 256 then (if (t211.length : Int) = 256 then (if (t214.length : Int) = 256 then (if bt191.1 < 5 then (puncheonlaw16_ModelLists.j1 kj4 a2 t190 t205 t208 t211 t214 true bt191.1 bt191.2.1 bt191.2.2.1 bt198.1 bt198.2.1 bt198.2.2.1) else (if bt191.1 > 9 then (puncheonlaw16_ModelLists.j1 kj4 a2 t190 t205 t208 t211 t214 true bt191.1 bt191.2.1 bt191.2.2.1 bt198.1 bt198.2.1 bt198.2.2.1) else (if bt198.1 < 5 then (puncheonlaw16_ModelLists.j1 kj4 a2 t190 t205 t208 t211 t214 true bt191.1 bt191.2.1 bt191.2.2.1 bt198.1 bt198.2.1 bt198.2.2.1) else (puncheonlaw16_ModelLists.j1 kj4 a2 t190 t205 t208 t211 t214 (decide (bt198.1 > 11)) bt191.1 bt191.2.1 bt191.2.2.1 bt198.1 bt198.2.1 bt198.2.2.1)))) else (puncheonlaw16_ModelLists.j1 kj4 a2 t190 t205 t208 t211 t214 true bt191.1 bt191.2.1 bt191.2.2.1 bt198.1 bt198.2.1 bt198.2.2.1)) else (puncheonlaw16_ModelLists.j1 kj4 a2 t190 t205 t208 t211 t214 true bt191.1 bt191.2.1 bt191.2.2.1 bt198.1 bt198.2.1 bt198.2.2.1)) else (puncheonlaw16_ModelLists.j1 kj4 a2 t190 t205 t208 t211 t214 true bt191.1 bt191.2.1 bt191.2.2.1 bt198.1 bt198.2.1 bt198.2.2.1)) else (puncheonlaw16_ModelLists.j1 kj4 a2 t190 t205 t208 t211 t214 true bt191.1 bt191.2.1 bt191.2.2.1 bt198.1 bt198.2.1 bt198.2.2.1)) else (puncheonlaw16_ModelLists.j1 kj4 a2 t190 t205 t208 t211 t214 true bt191.1 bt191.2.1 bt191.2.2.1 bt198.1 bt198.2.1 bt198.2.2.1)))))))) = some r := by rw [if_neg (show ¬ (false = true) by decide)] at H; exact H
        clear H
        have H := H1
        clear H1
        replace H := Option.bind_eq_some_iff.mp H
        obtain ⟨⟨t191, t192, t193, t196⟩, A90, H⟩ := H
        replace H : ((model_Zero.f kj4 l0).bind fun bt198 => ((model_At.f kj4 t191 t192 t193 (wrap64 (a1))).bind fun t205 => ((model_At.f kj4 bt198.1 bt198.2.1 bt198.2.2.1 (wrap64 (a1))).bind fun t208 => ((ctx_For.f l0 (wrap64 (a1))).bind fun t211 => ((hist_Of.f l0).bind fun t214 => (if t196 = 0 then (if bt198.2.2.2 = 0 then (if (t208.length : Int) = 256 then (if (t211.length : Int) = 256 then (if (t214.length : Int) = 256 then (if t191 < 5 then (puncheonlaw16_ModelLists.j1 kj4 a2 t190 t205 t208 t211 t214 true t191 t192 t193 bt198.1 bt198.2.1 bt198.2.2.1) else (if t191 > 9 then (puncheonlaw16_ModelLists.j1 kj4 a2 t190 t205 t208 t211 t214 true t191 t192 t193 bt198.1 bt198.2.1 bt198.2.2.1) else (if bt198.1 < 5 then (puncheonlaw16_ModelLists.j1 kj4 a2 t190 t205 t208 t211 t214 true t191 t192 t193 bt198.1 bt198.2.1 bt198.2.2.1) else (puncheonlaw16_ModelLists.j1 kj4 a2 t190 t205 t208 t211 t214 (decide (bt198.1 > 11)) t191 t192 t193 bt198.1 bt198.2.1 bt198.2.2.1)))) else (puncheonlaw16_ModelLists.j1 kj4 a2 t190 t205 t208 t211 t214 true t191 t192 t193 bt198.1 bt198.2.1 bt198.2.2.1)) else (puncheonlaw16_ModelLists.j1 kj4 a2 t190 t205 t208 t211 t214 true t191 t192 t193 bt198.1 bt198.2.1 bt198.2.2.1)) else (puncheonlaw16_ModelLists.j1 kj4 a2 t190 t205 t208 t211 t214 true t191 t192 t193 bt198.1 bt198.2.1 bt198.2.2.1)) else (puncheonlaw16_ModelLists.j1 kj4 a2 t190 t205 t208 t211 t214 true t191 t192 t193 bt198.1 bt198.2.1 bt198.2.2.1)) else (puncheonlaw16_ModelLists.j1 kj4 a2 t190 t205 t208 t211 t214 true t191 t192 t193 bt198.1 bt198.2.1 bt198.2.2.1))))))) = some r := H
        have A9 := Aside0.mk A90
        clear A90
        replace H := Option.bind_eq_some_iff.mp H
        obtain ⟨⟨t198, t199, t200, t203⟩, A100, H⟩ := H
        replace H : ((model_At.f kj4 t191 t192 t193 (wrap64 (a1))).bind fun t205 => ((model_At.f kj4 t198 t199 t200 (wrap64 (a1))).bind fun t208 => ((ctx_For.f l0 (wrap64 (a1))).bind fun t211 => ((hist_Of.f l0).bind fun t214 => (if t196 = 0 then (if t203 = 0 then (if (t208.length : Int) = 256 then (if (t211.length : Int) = 256 then (if (t214.length : Int) = 256 then (if t191 < 5 then (puncheonlaw16_ModelLists.j1 kj4 a2 t190 t205 t208 t211 t214 true t191 t192 t193 t198 t199 t200) else (if t191 > 9 then (puncheonlaw16_ModelLists.j1 kj4 a2 t190 t205 t208 t211 t214 true t191 t192 t193 t198 t199 t200) else (if t198 < 5 then (puncheonlaw16_ModelLists.j1 kj4 a2 t190 t205 t208 t211 t214 true t191 t192 t193 t198 t199 t200) else (puncheonlaw16_ModelLists.j1 kj4 a2 t190 t205 t208 t211 t214 (decide (t198 > 11)) t191 t192 t193 t198 t199 t200)))) else (puncheonlaw16_ModelLists.j1 kj4 a2 t190 t205 t208 t211 t214 true t191 t192 t193 t198 t199 t200)) else (puncheonlaw16_ModelLists.j1 kj4 a2 t190 t205 t208 t211 t214 true t191 t192 t193 t198 t199 t200)) else (puncheonlaw16_ModelLists.j1 kj4 a2 t190 t205 t208 t211 t214 true t191 t192 t193 t198 t199 t200)) else (puncheonlaw16_ModelLists.j1 kj4 a2 t190 t205 t208 t211 t214 true t191 t192 t193 t198 t199 t200)) else (puncheonlaw16_ModelLists.j1 kj4 a2 t190 t205 t208 t211 t214 true t191 t192 t193 t198 t199 t200)))))) = some r := H
        have A10 := Aside0.mk A100
        clear A100
        replace H := Option.bind_eq_some_iff.mp H
        obtain ⟨t205, A110, H⟩ := H
        replace H : ((model_At.f kj4 t198 t199 t200 (wrap64 (a1))).bind fun t208 => ((ctx_For.f l0 (wrap64 (a1))).bind fun t211 => ((hist_Of.f l0).bind fun t214 => (if t196 = 0 then (if t203 = 0 then (if (t208.length : Int) = 256 then (if (t211.length : Int) = 256 then (if (t214.length : Int) = 256 then (if t191 < 5 then (puncheonlaw16_ModelLists.j1 kj4 a2 t190 t205 t208 t211 t214 true t191 t192 t193 t198 t199 t200) else (if t191 > 9 then (puncheonlaw16_ModelLists.j1 kj4 a2 t190 t205 t208 t211 t214 true t191 t192 t193 t198 t199 t200) else (if t198 < 5 then (puncheonlaw16_ModelLists.j1 kj4 a2 t190 t205 t208 t211 t214 true t191 t192 t193 t198 t199 t200) else (puncheonlaw16_ModelLists.j1 kj4 a2 t190 t205 t208 t211 t214 (decide (t198 > 11)) t191 t192 t193 t198 t199 t200)))) else (puncheonlaw16_ModelLists.j1 kj4 a2 t190 t205 t208 t211 t214 true t191 t192 t193 t198 t199 t200)) else (puncheonlaw16_ModelLists.j1 kj4 a2 t190 t205 t208 t211 t214 true t191 t192 t193 t198 t199 t200)) else (puncheonlaw16_ModelLists.j1 kj4 a2 t190 t205 t208 t211 t214 true t191 t192 t193 t198 t199 t200)) else (puncheonlaw16_ModelLists.j1 kj4 a2 t190 t205 t208 t211 t214 true t191 t192 t193 t198 t199 t200)) else (puncheonlaw16_ModelLists.j1 kj4 a2 t190 t205 t208 t211 t214 true t191 t192 t193 t198 t199 t200))))) = some r := H
        have A11 := Aside0.mk A110
        clear A110
        replace H := Option.bind_eq_some_iff.mp H
        obtain ⟨t208, A120, H⟩ := H
        replace H : ((ctx_For.f l0 (wrap64 (a1))).bind fun t211 => ((hist_Of.f l0).bind fun t214 => (if t196 = 0 then (if t203 = 0 then (if (t208.length : Int) = 256 then (if (t211.length : Int) = 256 then (if (t214.length : Int) = 256 then (if t191 < 5 then (puncheonlaw16_ModelLists.j1 kj4 a2 t190 t205 t208 t211 t214 true t191 t192 t193 t198 t199 t200) else (if t191 > 9 then (puncheonlaw16_ModelLists.j1 kj4 a2 t190 t205 t208 t211 t214 true t191 t192 t193 t198 t199 t200) else (if t198 < 5 then (puncheonlaw16_ModelLists.j1 kj4 a2 t190 t205 t208 t211 t214 true t191 t192 t193 t198 t199 t200) else (puncheonlaw16_ModelLists.j1 kj4 a2 t190 t205 t208 t211 t214 (decide (t198 > 11)) t191 t192 t193 t198 t199 t200)))) else (puncheonlaw16_ModelLists.j1 kj4 a2 t190 t205 t208 t211 t214 true t191 t192 t193 t198 t199 t200)) else (puncheonlaw16_ModelLists.j1 kj4 a2 t190 t205 t208 t211 t214 true t191 t192 t193 t198 t199 t200)) else (puncheonlaw16_ModelLists.j1 kj4 a2 t190 t205 t208 t211 t214 true t191 t192 t193 t198 t199 t200)) else (puncheonlaw16_ModelLists.j1 kj4 a2 t190 t205 t208 t211 t214 true t191 t192 t193 t198 t199 t200)) else (puncheonlaw16_ModelLists.j1 kj4 a2 t190 t205 t208 t211 t214 true t191 t192 t193 t198 t199 t200)))) = some r := H
        have A12 := Aside0.mk A120
        clear A120
        replace H := Option.bind_eq_some_iff.mp H
        obtain ⟨t211, A130, H⟩ := H
        replace H : ((hist_Of.f l0).bind fun t214 => (if t196 = 0 then (if t203 = 0 then (if (t208.length : Int) = 256 then (if (t211.length : Int) = 256 then (if (t214.length : Int) = 256 then (if t191 < 5 then (puncheonlaw16_ModelLists.j1 kj4 a2 t190 t205 t208 t211 t214 true t191 t192 t193 t198 t199 t200) else (if t191 > 9 then (puncheonlaw16_ModelLists.j1 kj4 a2 t190 t205 t208 t211 t214 true t191 t192 t193 t198 t199 t200) else (if t198 < 5 then (puncheonlaw16_ModelLists.j1 kj4 a2 t190 t205 t208 t211 t214 true t191 t192 t193 t198 t199 t200) else (puncheonlaw16_ModelLists.j1 kj4 a2 t190 t205 t208 t211 t214 (decide (t198 > 11)) t191 t192 t193 t198 t199 t200)))) else (puncheonlaw16_ModelLists.j1 kj4 a2 t190 t205 t208 t211 t214 true t191 t192 t193 t198 t199 t200)) else (puncheonlaw16_ModelLists.j1 kj4 a2 t190 t205 t208 t211 t214 true t191 t192 t193 t198 t199 t200)) else (puncheonlaw16_ModelLists.j1 kj4 a2 t190 t205 t208 t211 t214 true t191 t192 t193 t198 t199 t200)) else (puncheonlaw16_ModelLists.j1 kj4 a2 t190 t205 t208 t211 t214 true t191 t192 t193 t198 t199 t200)) else (puncheonlaw16_ModelLists.j1 kj4 a2 t190 t205 t208 t211 t214 true t191 t192 t193 t198 t199 t200))) = some r := H
        have A13 := Aside0.mk A130
        clear A130
        replace H := Option.bind_eq_some_iff.mp H
        obtain ⟨t214, A140, H⟩ := H
        replace H : (if t196 = 0 then (if t203 = 0 then (if (t208.length : Int) = 256 then (if (t211.length : Int) = 256 then (if (t214.length : Int) = 256 then (if t191 < 5 then (puncheonlaw16_ModelLists.j1 kj4 a2 t190 t205 t208 t211 t214 true t191 t192 t193 t198 t199 t200) else (if t191 > 9 then (puncheonlaw16_ModelLists.j1 kj4 a2 t190 t205 t208 t211 t214 true t191 t192 t193 t198 t199 t200) else (if t198 < 5 then (puncheonlaw16_ModelLists.j1 kj4 a2 t190 t205 t208 t211 t214 true t191 t192 t193 t198 t199 t200) else (puncheonlaw16_ModelLists.j1 kj4 a2 t190 t205 t208 t211 t214 (decide (t198 > 11)) t191 t192 t193 t198 t199 t200)))) else (puncheonlaw16_ModelLists.j1 kj4 a2 t190 t205 t208 t211 t214 true t191 t192 t193 t198 t199 t200)) else (puncheonlaw16_ModelLists.j1 kj4 a2 t190 t205 t208 t211 t214 true t191 t192 t193 t198 t199 t200)) else (puncheonlaw16_ModelLists.j1 kj4 a2 t190 t205 t208 t211 t214 true t191 t192 t193 t198 t199 t200)) else (puncheonlaw16_ModelLists.j1 kj4 a2 t190 t205 t208 t211 t214 true t191 t192 t193 t198 t199 t200)) else (puncheonlaw16_ModelLists.j1 kj4 a2 t190 t205 t208 t211 t214 true t191 t192 t193 t198 t199 t200)) = some r := H
        have A14 := Aside0.mk A140
        clear A140
        have HC15 := Aside0.mk H
        clear H
        go_upto_region 10 with (first | (go_at_call 18; (with_reducible refine (model_First.calls kj4 _ _ l0 t191 t192 t193 t196 _ ?side1 ?side2 A9.out).mono ?_); (case side1 => repeat (first | exact (Kd.C_below HR0.out HB.out) | (with_reducible refine Kd.C_alloc ?_ _) | (with_reducible refine Kd.C_drewN ?_ _) | (with_reducible refine Kd.C_drew ?_))); (case side2 => exact HC0.out); rintro e w16 ⟨v194, rfl, ho0, hb⟩; have n0_ := Aside0.mk (Kd.N_lower (Kd.N_mono (ok' := fun k_ => True) ho0 (fun k_ hk_ => trivial)) (below_size (by repeat (first | (with_reducible first | exact HB.out | apply below_alloc | apply pw_below_drewN | apply below_drew1) | exact HB.out)))); have n1_ := Aside0.mk (below_step (by repeat (first | (with_reducible first | exact HB.out | apply below_alloc | apply pw_below_drewN | apply below_drew1) | exact HB.out)) hb); clear HB; have HO195 := n0_; have HB := n1_; clear n0_ n1_; (try clear hb); (try clear hb2); (try clear hk); (try clear hi); (try clear ho0)) | ((with_reducible refine gate_dst (N := 8) rfl ?_); (try (refine gate_guard (by rfl) ?_; dsimp only)); refine box_event ?hg (N := 8) ?hd (cs := #[.int .i64 0, .bool false, .slice none 0 0]) (t := 24) ?hr ?_; (case hd => rfl); (case hg => rfl); (case hr => first | (go_simp; done) | (go_simp; rfl)); intro gb197 hg w17 hbox hb; have n0_ := Aside0.mk (Kd.N_below (Kd.N_elderB (by (with_reducible repeat (first | apply Kd.N_alloc | apply Kd.N_drewN | apply Kd.N_drew)); exact HO195.out) gb197 (Nat.le_of_eq hg.symm)) hb); have n1_ := Aside0.mk (below_step (by repeat (first | (with_reducible first | exact HB.out | apply below_alloc | apply pw_below_drewN | apply below_drew1) | exact HB.out)) hb); have n2_ := Aside0.mk (hbox); have n3_ := Aside0.mk ((by rw [hg]; exact (below_size (by repeat (first | (with_reducible first | exact HB.out | apply below_alloc | apply pw_below_drewN | apply below_drew1) | exact HB.out))) : w.heap.size ≤ gb197)); have n4_ := Aside0.mk ((by rw [hg]; exact (below_size (by repeat (first | (with_reducible first | exact HB.out | apply below_alloc | apply pw_below_drewN | apply below_drew1) | exact HB.out))) : w.heap.size ≤ gb197)); clear HO195; clear HB; have HO195 := n0_; have HB := n1_; have BK197 := n2_; have GW197 := n3_; have GE197 := n4_; clear n0_ n1_ n2_ n3_ n4_; clear hb hbox hg; have hcz18_0 : w17.cell? ⟨gb197, 0, none⟩ = some (.int .i64 0) := (blk_cell BK197.out 0).trans rfl; have hcz18_1 : w17.cell? ⟨gb197, 1, none⟩ = some (.bool false) := (blk_cell BK197.out 1).trans rfl; have hcz18_2 : w17.cell? ⟨gb197, 2, none⟩ = some (.slice none 0 0) := (blk_cell BK197.out 2).trans rfl; have hfz18_0 := blk_frozen BK197.out 0; have hfz18_1 := blk_frozen BK197.out 1; have hfz18_2 := blk_frozen BK197.out 2; obtain ⟨Ao19, co19, eo19⟩ := Kd.N_slice HO195.out; subst eo19) | (go_at_call 17; (with_reducible refine (model_Zero.calls kj4 _ _ l0 t198 t199 t200 t203 _ ?side1 ?side2 A10.out).mono ?_); (case side1 => exact Kd.C_below HR0.out (by repeat (first | (with_reducible first | exact HB.out | apply below_alloc | apply pw_below_drewN | apply below_drew1 | refine below_set ?_ GE197.out) | exact HB.out))); (case side2 => exact HC0.out); rintro e w20 ⟨v201, rfl, ho0, hb⟩; have n0_ := Aside0.mk (Kd.N_elder' (by (with_reducible repeat (first | apply Kd.N_alloc | apply Kd.N_drewN | apply Kd.N_drew)); exact (Kd.N_mono (Kd.N_far (p := ⟨gb197, 2, none⟩) (Kd.N_far (p := ⟨gb197, 1, none⟩) (Kd.N_far (p := ⟨gb197, 0, none⟩) (Kd.N_mono HO195.out (fun k_ hk => (⟨hk, hk.2⟩ : _ ∧ k_ ≠ gb197))) (fun _ hk => hk.2) (.int .i64 t191)) (fun _ hk => hk.2) (.bool t192)) (fun _ hk => hk.2) (.slice Ao19 t193.length co19)) (fun _ h_ => h_.1))) (Kd.N_base ho0) hb); have n1_ := Aside0.mk (Kd.N_lower (Kd.N_mono (ok' := fun k_ => some k_ ≠ (.slice Ao19 t193.length co19 : Value).ownBlock ∧ k_ ≠ gb197) ho0 (fun k_ hk_ => ⟨(Kd.fresh' (Kd.N_lt (by (with_reducible repeat (first | apply Kd.N_alloc | apply Kd.N_drewN | apply Kd.N_drew)); exact (Kd.N_mono (Kd.N_far (p := ⟨gb197, 2, none⟩) (Kd.N_far (p := ⟨gb197, 1, none⟩) (Kd.N_far (p := ⟨gb197, 0, none⟩) (Kd.N_mono HO195.out (fun k_ hk => (⟨hk, hk.2⟩ : _ ∧ k_ ≠ gb197))) (fun _ hk => hk.2) (.int .i64 t191)) (fun _ hk => hk.2) (.bool t192)) (fun _ hk => hk.2) (.slice Ao19 t193.length co19)) (fun _ h_ => h_.1)))) k_ hk_), (Kd.freshB (g := gb197) (o := .cells #[.int .i64 t191, .bool t192, .slice Ao19 t193.length co19] 24 (0, 0)) (by (with_reducible repeat (first | refine blk_drewN ?_ _ | refine blk_drew ?_ | refine blk_alloc ?_ _)); refine blk_put (cs := #[.int .i64 t191, .bool t192, .slice none 0 0]) ?_ 2 _ rfl; (with_reducible repeat (first | refine blk_drewN ?_ _ | refine blk_drew ?_ | refine blk_alloc ?_ _)); refine blk_put (cs := #[.int .i64 t191, .bool false, .slice none 0 0]) ?_ 1 _ rfl; (with_reducible repeat (first | refine blk_drewN ?_ _ | refine blk_drew ?_ | refine blk_alloc ?_ _)); refine blk_put (cs := #[.int .i64 0, .bool false, .slice none 0 0]) ?_ 0 _ rfl; (with_reducible repeat (first | refine blk_drewN ?_ _ | refine blk_drew ?_ | refine blk_alloc ?_ _)); exact BK197.out) k_ hk_)⟩)) (below_size (by repeat (first | (with_reducible first | exact HB.out | apply below_alloc | apply pw_below_drewN | apply below_drew1 | refine below_set ?_ GE197.out) | exact HB.out)))); have n2_ := Aside0.mk (blk_below (g := gb197) (o := .cells #[.int .i64 t191, .bool t192, .slice Ao19 t193.length co19] 24 (0, 0)) (by (with_reducible repeat (first | refine blk_drewN ?_ _ | refine blk_drew ?_ | refine blk_alloc ?_ _)); refine blk_put (cs := #[.int .i64 t191, .bool t192, .slice none 0 0]) ?_ 2 _ rfl; (with_reducible repeat (first | refine blk_drewN ?_ _ | refine blk_drew ?_ | refine blk_alloc ?_ _)); refine blk_put (cs := #[.int .i64 t191, .bool false, .slice none 0 0]) ?_ 1 _ rfl; (with_reducible repeat (first | refine blk_drewN ?_ _ | refine blk_drew ?_ | refine blk_alloc ?_ _)); refine blk_put (cs := #[.int .i64 0, .bool false, .slice none 0 0]) ?_ 0 _ rfl; (with_reducible repeat (first | refine blk_drewN ?_ _ | refine blk_drew ?_ | refine blk_alloc ?_ _)); exact BK197.out) hb); have n3_ := Aside0.mk (below_step (by repeat (first | (with_reducible first | exact HB.out | apply below_alloc | apply pw_below_drewN | apply below_drew1 | refine below_set ?_ GE197.out) | exact HB.out)) hb); clear HO195; clear BK197; clear HB; have HO195 := n0_; have HO202 := n1_; have BK197 := n2_; have HB := n3_; clear n0_ n1_ n2_ n3_; (try clear hb); (try clear hb2); (try clear hk); (try clear hi); (try clear ho0)) | ((with_reducible refine gate_dst (N := 10) rfl ?_); (try (refine gate_guard (by rfl) ?_; dsimp only)); refine box_event ?hg (N := 10) ?hd (cs := #[.int .i64 0, .bool false, .slice none 0 0]) (t := 24) ?hr ?_; (case hd => rfl); (case hg => rfl); (case hr => first | (go_simp; done) | (go_simp; rfl)); intro gb204 hg w21 hbox hb; have n0_ := Aside0.mk (Kd.N_below (Kd.N_elderB (by (with_reducible repeat (first | apply Kd.N_alloc | apply Kd.N_drewN | apply Kd.N_drew)); exact HO195.out) gb204 (Nat.le_of_eq hg.symm)) hb); have n1_ := Aside0.mk (Kd.N_below (Kd.N_elderB (by (with_reducible repeat (first | apply Kd.N_alloc | apply Kd.N_drewN | apply Kd.N_drew)); exact HO202.out) gb204 (Nat.le_of_eq hg.symm)) hb); have n2_ := Aside0.mk (blk_below (g := gb197) (o := .cells #[.int .i64 t191, .bool t192, .slice Ao19 t193.length co19] 24 (0, 0)) (by (with_reducible repeat (first | refine blk_drewN ?_ _ | refine blk_drew ?_ | refine blk_alloc ?_ _)); exact BK197.out) hb); have n3_ := Aside0.mk (below_step (by repeat (first | (with_reducible first | exact HB.out | apply below_alloc | apply pw_below_drewN | apply below_drew1 | refine below_set ?_ GE197.out) | exact HB.out)) hb); have n4_ := Aside0.mk (hbox); have n5_ := Aside0.mk ((by rw [hg]; exact (below_size (by repeat (first | (with_reducible first | exact HB.out | apply below_alloc | apply pw_below_drewN | apply below_drew1 | refine below_set ?_ GE197.out) | exact HB.out))) : w.heap.size ≤ gb204)); have n6_ := Aside0.mk ((by rw [hg]; exact (below_size (by repeat (first | (with_reducible first | exact HB.out | apply below_alloc | apply pw_below_drewN | apply below_drew1 | refine below_set ?_ GE197.out) | exact HB.out))) : w.heap.size ≤ gb204)); have n7_ := Aside0.mk ((by rw [hg]; exact Nat.ne_of_lt (blk_lt (g := gb197) (o := .cells #[.int .i64 t191, .bool t192, .slice Ao19 t193.length co19] 24 (0, 0)) (by (with_reducible repeat (first | refine blk_drewN ?_ _ | refine blk_drew ?_ | refine blk_alloc ?_ _)); exact BK197.out)) : gb197 ≠ gb204)); have n8_ := Aside0.mk ((by rw [hg]; exact Nat.ne_of_gt (blk_lt (g := gb197) (o := .cells #[.int .i64 t191, .bool t192, .slice Ao19 t193.length co19] 24 (0, 0)) (by (with_reducible repeat (first | refine blk_drewN ?_ _ | refine blk_drew ?_ | refine blk_alloc ?_ _)); exact BK197.out)) : gb204 ≠ gb197)); clear HO195; clear HO202; clear BK197; clear HB; have HO195 := n0_; have HO202 := n1_; have BK197 := n2_; have HB := n3_; have BK204 := n4_; have GW204 := n5_; have GE204 := n6_; have NB197_204 := n7_; have NB204_197 := n8_; clear n0_ n1_ n2_ n3_ n4_ n5_ n6_ n7_ n8_; clear hb hbox hg; have hnb22 := NB204_197.out; have hnc22 := NB197_204.out; have hcz23_0 : w21.cell? ⟨gb204, 0, none⟩ = some (.int .i64 0) := (blk_cell BK204.out 0).trans rfl; have hcz23_1 : w21.cell? ⟨gb204, 1, none⟩ = some (.bool false) := (blk_cell BK204.out 1).trans rfl; have hcz23_2 : w21.cell? ⟨gb204, 2, none⟩ = some (.slice none 0 0) := (blk_cell BK204.out 2).trans rfl; have hfz23_0 := blk_frozen BK204.out 0; have hfz23_1 := blk_frozen BK204.out 1; have hfz23_2 := blk_frozen BK204.out 2; obtain ⟨Ao24, co24, eo24⟩ := Kd.N_slice HO202.out; subst eo24; have hcz25_0 : w21.cell? ⟨gb197, 0, none⟩ = some (.int .i64 t191) := (blk_cell BK197.out 0).trans rfl; have hcz25_1 : w21.cell? ⟨gb197, 1, none⟩ = some (.bool t192) := (blk_cell BK197.out 1).trans rfl; have hcz25_2 : w21.cell? ⟨gb197, 2, none⟩ = some (.slice Ao19 t193.length co19) := (blk_cell BK197.out 2).trans rfl; have hfz25_0 := blk_frozen BK197.out 0; have hfz25_1 := blk_frozen BK197.out 1; have hfz25_2 := blk_frozen BK197.out 2) | (go_at_call 13; (with_reducible refine (model_At.calls kj4 t191 t192 _ _ t193 (wrap64 (a1)) t205 _ ?side1 ?side2 A11.out).mono ?_); (case side1 => refine (Kd.N_reads' (e := 29) (base := w.heap.size) (ok := fun k_ => (((True ∧ k_ ≠ gb197) ∧ some k_ ≠ (.slice Ao24 t200.length co24 : Value).ownBlock) ∧ k_ ≠ gb204)) (n := t193.length) (c := co19) ?_).2.2; exact (by (with_reducible repeat (first | apply Kd.N_alloc | apply Kd.N_drewN | apply Kd.N_drew)); exact (Kd.N_mono (Kd.N_far (p := ⟨gb204, 2, none⟩) (Kd.N_far (p := ⟨gb204, 1, none⟩) (Kd.N_far (p := ⟨gb204, 0, none⟩) (Kd.N_mono HO195.out (fun k_ hk => (⟨hk, hk.2⟩ : _ ∧ k_ ≠ gb204))) (fun _ hk => hk.2) (.int .i64 t198)) (fun _ hk => hk.2) (.bool t199)) (fun _ hk => hk.2) (.slice Ao24 t200.length co24)) (fun _ h_ => h_.1)))); (case side2 => exact (Kd.N_reads' HO195.out).2.1); rintro e w26 ⟨v206, rfl, ho0, hb⟩; have n0_ := Aside0.mk (Kd.N_elder' (by (with_reducible repeat (first | apply Kd.N_alloc | apply Kd.N_drewN | apply Kd.N_drew)); exact (Kd.N_mono (Kd.N_far (p := ⟨gb204, 2, none⟩) (Kd.N_far (p := ⟨gb204, 1, none⟩) (Kd.N_far (p := ⟨gb204, 0, none⟩) (Kd.N_mono HO195.out (fun k_ hk => (⟨hk, hk.2⟩ : _ ∧ k_ ≠ gb204))) (fun _ hk => hk.2) (.int .i64 t198)) (fun _ hk => hk.2) (.bool t199)) (fun _ hk => hk.2) (.slice Ao24 t200.length co24)) (fun _ h_ => h_.1))) (Kd.R_base ho0) hb); have n1_ := Aside0.mk (Kd.N_elder' (by (with_reducible repeat (first | apply Kd.N_alloc | apply Kd.N_drewN | apply Kd.N_drew)); exact (Kd.N_mono (Kd.N_far (p := ⟨gb204, 2, none⟩) (Kd.N_far (p := ⟨gb204, 1, none⟩) (Kd.N_far (p := ⟨gb204, 0, none⟩) (Kd.N_mono HO202.out (fun k_ hk => (⟨hk, hk.2⟩ : _ ∧ k_ ≠ gb204))) (fun _ hk => hk.2) (.int .i64 t198)) (fun _ hk => hk.2) (.bool t199)) (fun _ hk => hk.2) (.slice Ao24 t200.length co24)) (fun _ h_ => h_.1))) (Kd.R_base ho0) hb); have n2_ := Aside0.mk (Kd.R_lower ho0 (below_size (by repeat (first | (with_reducible first | exact HB.out | apply below_alloc | apply pw_below_drewN | apply below_drew1 | refine below_set ?_ GE197.out | refine below_set ?_ GE204.out) | exact HB.out)))); have n3_ := Aside0.mk (blk_below (g := gb197) (o := .cells #[.int .i64 t191, .bool t192, .slice Ao19 t193.length co19] 24 (0, 0)) (by (with_reducible repeat (first | refine blk_drewN ?_ _ | refine blk_drew ?_ | refine blk_alloc ?_ _)); refine blk_far ?_ NB197_204.out _; (with_reducible repeat (first | refine blk_drewN ?_ _ | refine blk_drew ?_ | refine blk_alloc ?_ _)); refine blk_far ?_ NB197_204.out _; (with_reducible repeat (first | refine blk_drewN ?_ _ | refine blk_drew ?_ | refine blk_alloc ?_ _)); refine blk_far ?_ NB197_204.out _; (with_reducible repeat (first | refine blk_drewN ?_ _ | refine blk_drew ?_ | refine blk_alloc ?_ _)); exact BK197.out) hb); have n4_ := Aside0.mk (blk_below (g := gb204) (o := .cells #[.int .i64 t198, .bool t199, .slice Ao24 t200.length co24] 24 (0, 0)) (by (with_reducible repeat (first | refine blk_drewN ?_ _ | refine blk_drew ?_ | refine blk_alloc ?_ _)); refine blk_put (cs := #[.int .i64 t198, .bool t199, .slice none 0 0]) ?_ 2 _ rfl; (with_reducible repeat (first | refine blk_drewN ?_ _ | refine blk_drew ?_ | refine blk_alloc ?_ _)); refine blk_put (cs := #[.int .i64 t198, .bool false, .slice none 0 0]) ?_ 1 _ rfl; (with_reducible repeat (first | refine blk_drewN ?_ _ | refine blk_drew ?_ | refine blk_alloc ?_ _)); refine blk_put (cs := #[.int .i64 0, .bool false, .slice none 0 0]) ?_ 0 _ rfl; (with_reducible repeat (first | refine blk_drewN ?_ _ | refine blk_drew ?_ | refine blk_alloc ?_ _)); exact BK204.out) hb); have n5_ := Aside0.mk (below_step (by repeat (first | (with_reducible first | exact HB.out | apply below_alloc | apply pw_below_drewN | apply below_drew1 | refine below_set ?_ GE197.out | refine below_set ?_ GE204.out) | exact HB.out)) hb); clear HO195; clear HO202; clear BK197; clear BK204; clear HB; have HO195 := n0_; have HO202 := n1_; have HO207 := n2_; have BK197 := n3_; have BK204 := n4_; have HB := n5_; clear n0_ n1_ n2_ n3_ n4_ n5_; (try clear hb); (try clear hb2); (try clear hk); (try clear hi); (try clear ho0); have hcz27_0 : w26.cell? ⟨gb204, 0, none⟩ = some (.int .i64 t198) := (blk_cell BK204.out 0).trans rfl; have hcz27_1 : w26.cell? ⟨gb204, 1, none⟩ = some (.bool t199) := (blk_cell BK204.out 1).trans rfl; have hcz27_2 : w26.cell? ⟨gb204, 2, none⟩ = some (.slice Ao24 t200.length co24) := (blk_cell BK204.out 2).trans rfl; have hfz27_0 := blk_frozen BK204.out 0; have hfz27_1 := blk_frozen BK204.out 1; have hfz27_2 := blk_frozen BK204.out 2) | (go_at_call 13; (with_reducible refine (model_At.calls kj4 t198 t199 _ _ t200 (wrap64 (a1)) t208 _ ?side1 ?side2 A12.out).mono ?_); (case side1 => repeat (first | exact (Kd.N_reads' HO202.out).2.2 | (with_reducible refine Kd.C_alloc ?_ _) | (with_reducible refine Kd.C_drewN ?_ _) | (with_reducible refine Kd.C_drew ?_))); (case side2 => exact (Kd.N_reads' HO202.out).2.1); rintro e w28 ⟨v209, rfl, ho0, hb⟩; have n0_ := Aside0.mk (Kd.N_elder' (by (with_reducible repeat (first | apply Kd.N_alloc | apply Kd.N_drewN | apply Kd.N_drew)); exact HO195.out) (Kd.R_base ho0) hb); have n1_ := Aside0.mk (Kd.N_elder' (by (with_reducible repeat (first | apply Kd.N_alloc | apply Kd.N_drewN | apply Kd.N_drew)); exact HO202.out) (Kd.R_base ho0) hb); have n2_ := Aside0.mk (Kd.R_elder' (by (with_reducible repeat (first | apply Kd.R_alloc | apply Kd.R_drewN | apply Kd.R_drew)); exact HO207.out) (Kd.R_base ho0) hb); have n3_ := Aside0.mk (Kd.R_lower (Kd.R_new' ho0 (Kd.R_lt (by (with_reducible repeat (first | apply Kd.R_alloc | apply Kd.R_drewN | apply Kd.R_drew)); exact HO207.out))) (below_size (by repeat (first | (with_reducible first | exact HB.out | apply below_alloc | apply pw_below_drewN | apply below_drew1 | refine below_set ?_ GE197.out | refine below_set ?_ GE204.out) | exact HB.out)))); have n4_ := Aside0.mk (blk_below (g := gb197) (o := .cells #[.int .i64 t191, .bool t192, .slice Ao19 t193.length co19] 24 (0, 0)) (by (with_reducible repeat (first | refine blk_drewN ?_ _ | refine blk_drew ?_ | refine blk_alloc ?_ _)); exact BK197.out) hb); have n5_ := Aside0.mk (blk_below (g := gb204) (o := .cells #[.int .i64 t198, .bool t199, .slice Ao24 t200.length co24] 24 (0, 0)) (by (with_reducible repeat (first | refine blk_drewN ?_ _ | refine blk_drew ?_ | refine blk_alloc ?_ _)); exact BK204.out) hb); have n6_ := Aside0.mk (below_step (by repeat (first | (with_reducible first | exact HB.out | apply below_alloc | apply pw_below_drewN | apply below_drew1 | refine below_set ?_ GE197.out | refine below_set ?_ GE204.out) | exact HB.out)) hb); clear HO195; clear HO202; clear HO207; clear BK197; clear BK204; clear HB; have HO195 := n0_; have HO202 := n1_; have HO207 := n2_; have HO210 := n3_; have BK197 := n4_; have BK204 := n5_; have HB := n6_; clear n0_ n1_ n2_ n3_ n4_ n5_ n6_; (try clear hb); (try clear hb2); (try clear hk); (try clear hi); (try clear ho0)) | (go_at_call 22; (with_reducible refine (ctx_For.calls _ _ l0 (wrap64 (a1)) t211 _ ?side1 ?side2 A13.out).mono ?_); (case side1 => repeat (first | exact (Kd.C_below HR0.out HB.out) | (with_reducible refine Kd.C_alloc ?_ _) | (with_reducible refine Kd.C_drewN ?_ _) | (with_reducible refine Kd.C_drew ?_))); (case side2 => exact HC0.out); rintro e w29 ⟨v212, rfl, ho0, hb⟩; have n0_ := Aside0.mk (Kd.N_elder' (by (with_reducible repeat (first | apply Kd.N_alloc | apply Kd.N_drewN | apply Kd.N_drew)); exact HO195.out) (Kd.R_base ho0) hb); have n1_ := Aside0.mk (Kd.N_elder' (by (with_reducible repeat (first | apply Kd.N_alloc | apply Kd.N_drewN | apply Kd.N_drew)); exact HO202.out) (Kd.R_base ho0) hb); have n2_ := Aside0.mk (Kd.R_elder' (by (with_reducible repeat (first | apply Kd.R_alloc | apply Kd.R_drewN | apply Kd.R_drew)); exact HO207.out) (Kd.R_base ho0) hb); have n3_ := Aside0.mk (Kd.R_elder' (by (with_reducible repeat (first | apply Kd.R_alloc | apply Kd.R_drewN | apply Kd.R_drew)); exact HO210.out) (Kd.R_base ho0) hb); have n4_ := Aside0.mk (Kd.R_lower (Kd.R_new' (Kd.R_new' ho0 (Kd.R_lt (by (with_reducible repeat (first | apply Kd.R_alloc | apply Kd.R_drewN | apply Kd.R_drew)); exact HO207.out))) (Kd.R_lt (by (with_reducible repeat (first | apply Kd.R_alloc | apply Kd.R_drewN | apply Kd.R_drew)); exact HO210.out))) (below_size (by repeat (first | (with_reducible first | exact HB.out | apply below_alloc | apply pw_below_drewN | apply below_drew1 | refine below_set ?_ GE197.out | refine below_set ?_ GE204.out) | exact HB.out)))); have n5_ := Aside0.mk (blk_below (g := gb197) (o := .cells #[.int .i64 t191, .bool t192, .slice Ao19 t193.length co19] 24 (0, 0)) (by (with_reducible repeat (first | refine blk_drewN ?_ _ | refine blk_drew ?_ | refine blk_alloc ?_ _)); exact BK197.out) hb); have n6_ := Aside0.mk (blk_below (g := gb204) (o := .cells #[.int .i64 t198, .bool t199, .slice Ao24 t200.length co24] 24 (0, 0)) (by (with_reducible repeat (first | refine blk_drewN ?_ _ | refine blk_drew ?_ | refine blk_alloc ?_ _)); exact BK204.out) hb); have n7_ := Aside0.mk (below_step (by repeat (first | (with_reducible first | exact HB.out | apply below_alloc | apply pw_below_drewN | apply below_drew1 | refine below_set ?_ GE197.out | refine below_set ?_ GE204.out) | exact HB.out)) hb); clear HO195; clear HO202; clear HO207; clear HO210; clear BK197; clear BK204; clear HB; have HO195 := n0_; have HO202 := n1_; have HO207 := n2_; have HO210 := n3_; have HO213 := n4_; have BK197 := n5_; have BK204 := n6_; have HB := n7_; clear n0_ n1_ n2_ n3_ n4_ n5_ n6_ n7_; (try clear hb); (try clear hb2); (try clear hk); (try clear hi); (try clear ho0)) | (go_at_call 23; (with_reducible refine (hist_Of.calls _ _ l0 t214 _ ?side1 ?side2 A14.out).mono ?_); (case side1 => repeat (first | exact (Kd.C_below HR0.out HB.out) | (with_reducible refine Kd.C_alloc ?_ _) | (with_reducible refine Kd.C_drewN ?_ _) | (with_reducible refine Kd.C_drew ?_))); (case side2 => exact HC0.out); rintro e w30 ⟨v215, rfl, ho0, hb⟩; have n0_ := Aside0.mk (Kd.N_elder' (by (with_reducible repeat (first | apply Kd.N_alloc | apply Kd.N_drewN | apply Kd.N_drew)); exact HO195.out) (Kd.R_base ho0) hb); have n1_ := Aside0.mk (Kd.N_elder' (by (with_reducible repeat (first | apply Kd.N_alloc | apply Kd.N_drewN | apply Kd.N_drew)); exact HO202.out) (Kd.R_base ho0) hb); have n2_ := Aside0.mk (Kd.R_elder' (by (with_reducible repeat (first | apply Kd.R_alloc | apply Kd.R_drewN | apply Kd.R_drew)); exact HO207.out) (Kd.R_base ho0) hb); have n3_ := Aside0.mk (Kd.R_elder' (by (with_reducible repeat (first | apply Kd.R_alloc | apply Kd.R_drewN | apply Kd.R_drew)); exact HO210.out) (Kd.R_base ho0) hb); have n4_ := Aside0.mk (Kd.R_elder' (by (with_reducible repeat (first | apply Kd.R_alloc | apply Kd.R_drewN | apply Kd.R_drew)); exact HO213.out) (Kd.R_base ho0) hb); have n5_ := Aside0.mk (Kd.R_lower (Kd.R_new' (Kd.R_new' (Kd.R_new' ho0 (Kd.R_lt (by (with_reducible repeat (first | apply Kd.R_alloc | apply Kd.R_drewN | apply Kd.R_drew)); exact HO207.out))) (Kd.R_lt (by (with_reducible repeat (first | apply Kd.R_alloc | apply Kd.R_drewN | apply Kd.R_drew)); exact HO210.out))) (Kd.R_lt (by (with_reducible repeat (first | apply Kd.R_alloc | apply Kd.R_drewN | apply Kd.R_drew)); exact HO213.out))) (below_size (by repeat (first | (with_reducible first | exact HB.out | apply below_alloc | apply pw_below_drewN | apply below_drew1 | refine below_set ?_ GE197.out | refine below_set ?_ GE204.out) | exact HB.out)))); have n6_ := Aside0.mk (blk_below (g := gb197) (o := .cells #[.int .i64 t191, .bool t192, .slice Ao19 t193.length co19] 24 (0, 0)) (by (with_reducible repeat (first | refine blk_drewN ?_ _ | refine blk_drew ?_ | refine blk_alloc ?_ _)); exact BK197.out) hb); have n7_ := Aside0.mk (blk_below (g := gb204) (o := .cells #[.int .i64 t198, .bool t199, .slice Ao24 t200.length co24] 24 (0, 0)) (by (with_reducible repeat (first | refine blk_drewN ?_ _ | refine blk_drew ?_ | refine blk_alloc ?_ _)); exact BK204.out) hb); have n8_ := Aside0.mk (below_step (by repeat (first | (with_reducible first | exact HB.out | apply below_alloc | apply pw_below_drewN | apply below_drew1 | refine below_set ?_ GE197.out | refine below_set ?_ GE204.out) | exact HB.out)) hb); clear HO195; clear HO202; clear HO207; clear HO210; clear HO213; clear BK197; clear BK204; clear HB; have HO195 := n0_; have HO202 := n1_; have HO207 := n2_; have HO210 := n3_; have HO213 := n4_; have HO216 := n5_; have BK197 := n6_; have BK204 := n7_; have HB := n8_; clear n0_ n1_ n2_ n3_ n4_ n5_ n6_ n7_ n8_; (try clear hb); (try clear hb2); (try clear hk); (try clear hi); (try clear ho0)))
        repeat (go_quiet (first | (go_at_call 18; (with_reducible refine (model_First.calls kj4 _ _ l0 t191 t192 t193 t196 _ ?side1 ?side2 A9.out).mono ?_); (case side1 => repeat (first | exact (Kd.C_below HR0.out HB.out) | (with_reducible refine Kd.C_alloc ?_ _) | (with_reducible refine Kd.C_drewN ?_ _) | (with_reducible refine Kd.C_drew ?_))); (case side2 => exact HC0.out); rintro e w16 ⟨v194, rfl, ho0, hb⟩; have n0_ := Aside0.mk (Kd.N_lower (Kd.N_mono (ok' := fun k_ => True) ho0 (fun k_ hk_ => trivial)) (below_size (by repeat (first | (with_reducible first | exact HB.out | apply below_alloc | apply pw_below_drewN | apply below_drew1) | exact HB.out)))); have n1_ := Aside0.mk (below_step (by repeat (first | (with_reducible first | exact HB.out | apply below_alloc | apply pw_below_drewN | apply below_drew1) | exact HB.out)) hb); clear HB; have HO195 := n0_; have HB := n1_; clear n0_ n1_; (try clear hb); (try clear hb2); (try clear hk); (try clear hi); (try clear ho0)) | ((with_reducible refine gate_dst (N := 8) rfl ?_); (try (refine gate_guard (by rfl) ?_; dsimp only)); refine box_event ?hg (N := 8) ?hd (cs := #[.int .i64 0, .bool false, .slice none 0 0]) (t := 24) ?hr ?_; (case hd => rfl); (case hg => rfl); (case hr => first | (go_simp; done) | (go_simp; rfl)); intro gb197 hg w17 hbox hb; have n0_ := Aside0.mk (Kd.N_below (Kd.N_elderB (by (with_reducible repeat (first | apply Kd.N_alloc | apply Kd.N_drewN | apply Kd.N_drew)); exact HO195.out) gb197 (Nat.le_of_eq hg.symm)) hb); have n1_ := Aside0.mk (below_step (by repeat (first | (with_reducible first | exact HB.out | apply below_alloc | apply pw_below_drewN | apply below_drew1) | exact HB.out)) hb); have n2_ := Aside0.mk (hbox); have n3_ := Aside0.mk ((by rw [hg]; exact (below_size (by repeat (first | (with_reducible first | exact HB.out | apply below_alloc | apply pw_below_drewN | apply below_drew1) | exact HB.out))) : w.heap.size ≤ gb197)); have n4_ := Aside0.mk ((by rw [hg]; exact (below_size (by repeat (first | (with_reducible first | exact HB.out | apply below_alloc | apply pw_below_drewN | apply below_drew1) | exact HB.out))) : w.heap.size ≤ gb197)); clear HO195; clear HB; have HO195 := n0_; have HB := n1_; have BK197 := n2_; have GW197 := n3_; have GE197 := n4_; clear n0_ n1_ n2_ n3_ n4_; clear hb hbox hg; have hcz18_0 : w17.cell? ⟨gb197, 0, none⟩ = some (.int .i64 0) := (blk_cell BK197.out 0).trans rfl; have hcz18_1 : w17.cell? ⟨gb197, 1, none⟩ = some (.bool false) := (blk_cell BK197.out 1).trans rfl; have hcz18_2 : w17.cell? ⟨gb197, 2, none⟩ = some (.slice none 0 0) := (blk_cell BK197.out 2).trans rfl; have hfz18_0 := blk_frozen BK197.out 0; have hfz18_1 := blk_frozen BK197.out 1; have hfz18_2 := blk_frozen BK197.out 2; obtain ⟨Ao19, co19, eo19⟩ := Kd.N_slice HO195.out; subst eo19) | (go_at_call 17; (with_reducible refine (model_Zero.calls kj4 _ _ l0 t198 t199 t200 t203 _ ?side1 ?side2 A10.out).mono ?_); (case side1 => exact Kd.C_below HR0.out (by repeat (first | (with_reducible first | exact HB.out | apply below_alloc | apply pw_below_drewN | apply below_drew1 | refine below_set ?_ GE197.out) | exact HB.out))); (case side2 => exact HC0.out); rintro e w20 ⟨v201, rfl, ho0, hb⟩; have n0_ := Aside0.mk (Kd.N_elder' (by (with_reducible repeat (first | apply Kd.N_alloc | apply Kd.N_drewN | apply Kd.N_drew)); exact (Kd.N_mono (Kd.N_far (p := ⟨gb197, 2, none⟩) (Kd.N_far (p := ⟨gb197, 1, none⟩) (Kd.N_far (p := ⟨gb197, 0, none⟩) (Kd.N_mono HO195.out (fun k_ hk => (⟨hk, hk.2⟩ : _ ∧ k_ ≠ gb197))) (fun _ hk => hk.2) (.int .i64 t191)) (fun _ hk => hk.2) (.bool t192)) (fun _ hk => hk.2) (.slice Ao19 t193.length co19)) (fun _ h_ => h_.1))) (Kd.N_base ho0) hb); have n1_ := Aside0.mk (Kd.N_lower (Kd.N_mono (ok' := fun k_ => some k_ ≠ (.slice Ao19 t193.length co19 : Value).ownBlock ∧ k_ ≠ gb197) ho0 (fun k_ hk_ => ⟨(Kd.fresh' (Kd.N_lt (by (with_reducible repeat (first | apply Kd.N_alloc | apply Kd.N_drewN | apply Kd.N_drew)); exact (Kd.N_mono (Kd.N_far (p := ⟨gb197, 2, none⟩) (Kd.N_far (p := ⟨gb197, 1, none⟩) (Kd.N_far (p := ⟨gb197, 0, none⟩) (Kd.N_mono HO195.out (fun k_ hk => (⟨hk, hk.2⟩ : _ ∧ k_ ≠ gb197))) (fun _ hk => hk.2) (.int .i64 t191)) (fun _ hk => hk.2) (.bool t192)) (fun _ hk => hk.2) (.slice Ao19 t193.length co19)) (fun _ h_ => h_.1)))) k_ hk_), (Kd.freshB (g := gb197) (o := .cells #[.int .i64 t191, .bool t192, .slice Ao19 t193.length co19] 24 (0, 0)) (by (with_reducible repeat (first | refine blk_drewN ?_ _ | refine blk_drew ?_ | refine blk_alloc ?_ _)); refine blk_put (cs := #[.int .i64 t191, .bool t192, .slice none 0 0]) ?_ 2 _ rfl; (with_reducible repeat (first | refine blk_drewN ?_ _ | refine blk_drew ?_ | refine blk_alloc ?_ _)); refine blk_put (cs := #[.int .i64 t191, .bool false, .slice none 0 0]) ?_ 1 _ rfl; (with_reducible repeat (first | refine blk_drewN ?_ _ | refine blk_drew ?_ | refine blk_alloc ?_ _)); refine blk_put (cs := #[.int .i64 0, .bool false, .slice none 0 0]) ?_ 0 _ rfl; (with_reducible repeat (first | refine blk_drewN ?_ _ | refine blk_drew ?_ | refine blk_alloc ?_ _)); exact BK197.out) k_ hk_)⟩)) (below_size (by repeat (first | (with_reducible first | exact HB.out | apply below_alloc | apply pw_below_drewN | apply below_drew1 | refine below_set ?_ GE197.out) | exact HB.out)))); have n2_ := Aside0.mk (blk_below (g := gb197) (o := .cells #[.int .i64 t191, .bool t192, .slice Ao19 t193.length co19] 24 (0, 0)) (by (with_reducible repeat (first | refine blk_drewN ?_ _ | refine blk_drew ?_ | refine blk_alloc ?_ _)); refine blk_put (cs := #[.int .i64 t191, .bool t192, .slice none 0 0]) ?_ 2 _ rfl; (with_reducible repeat (first | refine blk_drewN ?_ _ | refine blk_drew ?_ | refine blk_alloc ?_ _)); refine blk_put (cs := #[.int .i64 t191, .bool false, .slice none 0 0]) ?_ 1 _ rfl; (with_reducible repeat (first | refine blk_drewN ?_ _ | refine blk_drew ?_ | refine blk_alloc ?_ _)); refine blk_put (cs := #[.int .i64 0, .bool false, .slice none 0 0]) ?_ 0 _ rfl; (with_reducible repeat (first | refine blk_drewN ?_ _ | refine blk_drew ?_ | refine blk_alloc ?_ _)); exact BK197.out) hb); have n3_ := Aside0.mk (below_step (by repeat (first | (with_reducible first | exact HB.out | apply below_alloc | apply pw_below_drewN | apply below_drew1 | refine below_set ?_ GE197.out) | exact HB.out)) hb); clear HO195; clear BK197; clear HB; have HO195 := n0_; have HO202 := n1_; have BK197 := n2_; have HB := n3_; clear n0_ n1_ n2_ n3_; (try clear hb); (try clear hb2); (try clear hk); (try clear hi); (try clear ho0)) | ((with_reducible refine gate_dst (N := 10) rfl ?_); (try (refine gate_guard (by rfl) ?_; dsimp only)); refine box_event ?hg (N := 10) ?hd (cs := #[.int .i64 0, .bool false, .slice none 0 0]) (t := 24) ?hr ?_; (case hd => rfl); (case hg => rfl); (case hr => first | (go_simp; done) | (go_simp; rfl)); intro gb204 hg w21 hbox hb; have n0_ := Aside0.mk (Kd.N_below (Kd.N_elderB (by (with_reducible repeat (first | apply Kd.N_alloc | apply Kd.N_drewN | apply Kd.N_drew)); exact HO195.out) gb204 (Nat.le_of_eq hg.symm)) hb); have n1_ := Aside0.mk (Kd.N_below (Kd.N_elderB (by (with_reducible repeat (first | apply Kd.N_alloc | apply Kd.N_drewN | apply Kd.N_drew)); exact HO202.out) gb204 (Nat.le_of_eq hg.symm)) hb); have n2_ := Aside0.mk (blk_below (g := gb197) (o := .cells #[.int .i64 t191, .bool t192, .slice Ao19 t193.length co19] 24 (0, 0)) (by (with_reducible repeat (first | refine blk_drewN ?_ _ | refine blk_drew ?_ | refine blk_alloc ?_ _)); exact BK197.out) hb); have n3_ := Aside0.mk (below_step (by repeat (first | (with_reducible first | exact HB.out | apply below_alloc | apply pw_below_drewN | apply below_drew1 | refine below_set ?_ GE197.out) | exact HB.out)) hb); have n4_ := Aside0.mk (hbox); have n5_ := Aside0.mk ((by rw [hg]; exact (below_size (by repeat (first | (with_reducible first | exact HB.out | apply below_alloc | apply pw_below_drewN | apply below_drew1 | refine below_set ?_ GE197.out) | exact HB.out))) : w.heap.size ≤ gb204)); have n6_ := Aside0.mk ((by rw [hg]; exact (below_size (by repeat (first | (with_reducible first | exact HB.out | apply below_alloc | apply pw_below_drewN | apply below_drew1 | refine below_set ?_ GE197.out) | exact HB.out))) : w.heap.size ≤ gb204)); have n7_ := Aside0.mk ((by rw [hg]; exact Nat.ne_of_lt (blk_lt (g := gb197) (o := .cells #[.int .i64 t191, .bool t192, .slice Ao19 t193.length co19] 24 (0, 0)) (by (with_reducible repeat (first | refine blk_drewN ?_ _ | refine blk_drew ?_ | refine blk_alloc ?_ _)); exact BK197.out)) : gb197 ≠ gb204)); have n8_ := Aside0.mk ((by rw [hg]; exact Nat.ne_of_gt (blk_lt (g := gb197) (o := .cells #[.int .i64 t191, .bool t192, .slice Ao19 t193.length co19] 24 (0, 0)) (by (with_reducible repeat (first | refine blk_drewN ?_ _ | refine blk_drew ?_ | refine blk_alloc ?_ _)); exact BK197.out)) : gb204 ≠ gb197)); clear HO195; clear HO202; clear BK197; clear HB; have HO195 := n0_; have HO202 := n1_; have BK197 := n2_; have HB := n3_; have BK204 := n4_; have GW204 := n5_; have GE204 := n6_; have NB197_204 := n7_; have NB204_197 := n8_; clear n0_ n1_ n2_ n3_ n4_ n5_ n6_ n7_ n8_; clear hb hbox hg; have hnb22 := NB204_197.out; have hnc22 := NB197_204.out; have hcz23_0 : w21.cell? ⟨gb204, 0, none⟩ = some (.int .i64 0) := (blk_cell BK204.out 0).trans rfl; have hcz23_1 : w21.cell? ⟨gb204, 1, none⟩ = some (.bool false) := (blk_cell BK204.out 1).trans rfl; have hcz23_2 : w21.cell? ⟨gb204, 2, none⟩ = some (.slice none 0 0) := (blk_cell BK204.out 2).trans rfl; have hfz23_0 := blk_frozen BK204.out 0; have hfz23_1 := blk_frozen BK204.out 1; have hfz23_2 := blk_frozen BK204.out 2; obtain ⟨Ao24, co24, eo24⟩ := Kd.N_slice HO202.out; subst eo24; have hcz25_0 : w21.cell? ⟨gb197, 0, none⟩ = some (.int .i64 t191) := (blk_cell BK197.out 0).trans rfl; have hcz25_1 : w21.cell? ⟨gb197, 1, none⟩ = some (.bool t192) := (blk_cell BK197.out 1).trans rfl; have hcz25_2 : w21.cell? ⟨gb197, 2, none⟩ = some (.slice Ao19 t193.length co19) := (blk_cell BK197.out 2).trans rfl; have hfz25_0 := blk_frozen BK197.out 0; have hfz25_1 := blk_frozen BK197.out 1; have hfz25_2 := blk_frozen BK197.out 2) | (go_at_call 13; (with_reducible refine (model_At.calls kj4 t191 t192 _ _ t193 (wrap64 (a1)) t205 _ ?side1 ?side2 A11.out).mono ?_); (case side1 => refine (Kd.N_reads' (e := 29) (base := w.heap.size) (ok := fun k_ => (((True ∧ k_ ≠ gb197) ∧ some k_ ≠ (.slice Ao24 t200.length co24 : Value).ownBlock) ∧ k_ ≠ gb204)) (n := t193.length) (c := co19) ?_).2.2; exact (by (with_reducible repeat (first | apply Kd.N_alloc | apply Kd.N_drewN | apply Kd.N_drew)); exact (Kd.N_mono (Kd.N_far (p := ⟨gb204, 2, none⟩) (Kd.N_far (p := ⟨gb204, 1, none⟩) (Kd.N_far (p := ⟨gb204, 0, none⟩) (Kd.N_mono HO195.out (fun k_ hk => (⟨hk, hk.2⟩ : _ ∧ k_ ≠ gb204))) (fun _ hk => hk.2) (.int .i64 t198)) (fun _ hk => hk.2) (.bool t199)) (fun _ hk => hk.2) (.slice Ao24 t200.length co24)) (fun _ h_ => h_.1)))); (case side2 => exact (Kd.N_reads' HO195.out).2.1); rintro e w26 ⟨v206, rfl, ho0, hb⟩; have n0_ := Aside0.mk (Kd.N_elder' (by (with_reducible repeat (first | apply Kd.N_alloc | apply Kd.N_drewN | apply Kd.N_drew)); exact (Kd.N_mono (Kd.N_far (p := ⟨gb204, 2, none⟩) (Kd.N_far (p := ⟨gb204, 1, none⟩) (Kd.N_far (p := ⟨gb204, 0, none⟩) (Kd.N_mono HO195.out (fun k_ hk => (⟨hk, hk.2⟩ : _ ∧ k_ ≠ gb204))) (fun _ hk => hk.2) (.int .i64 t198)) (fun _ hk => hk.2) (.bool t199)) (fun _ hk => hk.2) (.slice Ao24 t200.length co24)) (fun _ h_ => h_.1))) (Kd.R_base ho0) hb); have n1_ := Aside0.mk (Kd.N_elder' (by (with_reducible repeat (first | apply Kd.N_alloc | apply Kd.N_drewN | apply Kd.N_drew)); exact (Kd.N_mono (Kd.N_far (p := ⟨gb204, 2, none⟩) (Kd.N_far (p := ⟨gb204, 1, none⟩) (Kd.N_far (p := ⟨gb204, 0, none⟩) (Kd.N_mono HO202.out (fun k_ hk => (⟨hk, hk.2⟩ : _ ∧ k_ ≠ gb204))) (fun _ hk => hk.2) (.int .i64 t198)) (fun _ hk => hk.2) (.bool t199)) (fun _ hk => hk.2) (.slice Ao24 t200.length co24)) (fun _ h_ => h_.1))) (Kd.R_base ho0) hb); have n2_ := Aside0.mk (Kd.R_lower ho0 (below_size (by repeat (first | (with_reducible first | exact HB.out | apply below_alloc | apply pw_below_drewN | apply below_drew1 | refine below_set ?_ GE197.out | refine below_set ?_ GE204.out) | exact HB.out)))); have n3_ := Aside0.mk (blk_below (g := gb197) (o := .cells #[.int .i64 t191, .bool t192, .slice Ao19 t193.length co19] 24 (0, 0)) (by (with_reducible repeat (first | refine blk_drewN ?_ _ | refine blk_drew ?_ | refine blk_alloc ?_ _)); refine blk_far ?_ NB197_204.out _; (with_reducible repeat (first | refine blk_drewN ?_ _ | refine blk_drew ?_ | refine blk_alloc ?_ _)); refine blk_far ?_ NB197_204.out _; (with_reducible repeat (first | refine blk_drewN ?_ _ | refine blk_drew ?_ | refine blk_alloc ?_ _)); refine blk_far ?_ NB197_204.out _; (with_reducible repeat (first | refine blk_drewN ?_ _ | refine blk_drew ?_ | refine blk_alloc ?_ _)); exact BK197.out) hb); have n4_ := Aside0.mk (blk_below (g := gb204) (o := .cells #[.int .i64 t198, .bool t199, .slice Ao24 t200.length co24] 24 (0, 0)) (by (with_reducible repeat (first | refine blk_drewN ?_ _ | refine blk_drew ?_ | refine blk_alloc ?_ _)); refine blk_put (cs := #[.int .i64 t198, .bool t199, .slice none 0 0]) ?_ 2 _ rfl; (with_reducible repeat (first | refine blk_drewN ?_ _ | refine blk_drew ?_ | refine blk_alloc ?_ _)); refine blk_put (cs := #[.int .i64 t198, .bool false, .slice none 0 0]) ?_ 1 _ rfl; (with_reducible repeat (first | refine blk_drewN ?_ _ | refine blk_drew ?_ | refine blk_alloc ?_ _)); refine blk_put (cs := #[.int .i64 0, .bool false, .slice none 0 0]) ?_ 0 _ rfl; (with_reducible repeat (first | refine blk_drewN ?_ _ | refine blk_drew ?_ | refine blk_alloc ?_ _)); exact BK204.out) hb); have n5_ := Aside0.mk (below_step (by repeat (first | (with_reducible first | exact HB.out | apply below_alloc | apply pw_below_drewN | apply below_drew1 | refine below_set ?_ GE197.out | refine below_set ?_ GE204.out) | exact HB.out)) hb); clear HO195; clear HO202; clear BK197; clear BK204; clear HB; have HO195 := n0_; have HO202 := n1_; have HO207 := n2_; have BK197 := n3_; have BK204 := n4_; have HB := n5_; clear n0_ n1_ n2_ n3_ n4_ n5_; (try clear hb); (try clear hb2); (try clear hk); (try clear hi); (try clear ho0); have hcz27_0 : w26.cell? ⟨gb204, 0, none⟩ = some (.int .i64 t198) := (blk_cell BK204.out 0).trans rfl; have hcz27_1 : w26.cell? ⟨gb204, 1, none⟩ = some (.bool t199) := (blk_cell BK204.out 1).trans rfl; have hcz27_2 : w26.cell? ⟨gb204, 2, none⟩ = some (.slice Ao24 t200.length co24) := (blk_cell BK204.out 2).trans rfl; have hfz27_0 := blk_frozen BK204.out 0; have hfz27_1 := blk_frozen BK204.out 1; have hfz27_2 := blk_frozen BK204.out 2) | (go_at_call 13; (with_reducible refine (model_At.calls kj4 t198 t199 _ _ t200 (wrap64 (a1)) t208 _ ?side1 ?side2 A12.out).mono ?_); (case side1 => repeat (first | exact (Kd.N_reads' HO202.out).2.2 | (with_reducible refine Kd.C_alloc ?_ _) | (with_reducible refine Kd.C_drewN ?_ _) | (with_reducible refine Kd.C_drew ?_))); (case side2 => exact (Kd.N_reads' HO202.out).2.1); rintro e w28 ⟨v209, rfl, ho0, hb⟩; have n0_ := Aside0.mk (Kd.N_elder' (by (with_reducible repeat (first | apply Kd.N_alloc | apply Kd.N_drewN | apply Kd.N_drew)); exact HO195.out) (Kd.R_base ho0) hb); have n1_ := Aside0.mk (Kd.N_elder' (by (with_reducible repeat (first | apply Kd.N_alloc | apply Kd.N_drewN | apply Kd.N_drew)); exact HO202.out) (Kd.R_base ho0) hb); have n2_ := Aside0.mk (Kd.R_elder' (by (with_reducible repeat (first | apply Kd.R_alloc | apply Kd.R_drewN | apply Kd.R_drew)); exact HO207.out) (Kd.R_base ho0) hb); have n3_ := Aside0.mk (Kd.R_lower (Kd.R_new' ho0 (Kd.R_lt (by (with_reducible repeat (first | apply Kd.R_alloc | apply Kd.R_drewN | apply Kd.R_drew)); exact HO207.out))) (below_size (by repeat (first | (with_reducible first | exact HB.out | apply below_alloc | apply pw_below_drewN | apply below_drew1 | refine below_set ?_ GE197.out | refine below_set ?_ GE204.out) | exact HB.out)))); have n4_ := Aside0.mk (blk_below (g := gb197) (o := .cells #[.int .i64 t191, .bool t192, .slice Ao19 t193.length co19] 24 (0, 0)) (by (with_reducible repeat (first | refine blk_drewN ?_ _ | refine blk_drew ?_ | refine blk_alloc ?_ _)); exact BK197.out) hb); have n5_ := Aside0.mk (blk_below (g := gb204) (o := .cells #[.int .i64 t198, .bool t199, .slice Ao24 t200.length co24] 24 (0, 0)) (by (with_reducible repeat (first | refine blk_drewN ?_ _ | refine blk_drew ?_ | refine blk_alloc ?_ _)); exact BK204.out) hb); have n6_ := Aside0.mk (below_step (by repeat (first | (with_reducible first | exact HB.out | apply below_alloc | apply pw_below_drewN | apply below_drew1 | refine below_set ?_ GE197.out | refine below_set ?_ GE204.out) | exact HB.out)) hb); clear HO195; clear HO202; clear HO207; clear BK197; clear BK204; clear HB; have HO195 := n0_; have HO202 := n1_; have HO207 := n2_; have HO210 := n3_; have BK197 := n4_; have BK204 := n5_; have HB := n6_; clear n0_ n1_ n2_ n3_ n4_ n5_ n6_; (try clear hb); (try clear hb2); (try clear hk); (try clear hi); (try clear ho0)) | (go_at_call 22; (with_reducible refine (ctx_For.calls _ _ l0 (wrap64 (a1)) t211 _ ?side1 ?side2 A13.out).mono ?_); (case side1 => repeat (first | exact (Kd.C_below HR0.out HB.out) | (with_reducible refine Kd.C_alloc ?_ _) | (with_reducible refine Kd.C_drewN ?_ _) | (with_reducible refine Kd.C_drew ?_))); (case side2 => exact HC0.out); rintro e w29 ⟨v212, rfl, ho0, hb⟩; have n0_ := Aside0.mk (Kd.N_elder' (by (with_reducible repeat (first | apply Kd.N_alloc | apply Kd.N_drewN | apply Kd.N_drew)); exact HO195.out) (Kd.R_base ho0) hb); have n1_ := Aside0.mk (Kd.N_elder' (by (with_reducible repeat (first | apply Kd.N_alloc | apply Kd.N_drewN | apply Kd.N_drew)); exact HO202.out) (Kd.R_base ho0) hb); have n2_ := Aside0.mk (Kd.R_elder' (by (with_reducible repeat (first | apply Kd.R_alloc | apply Kd.R_drewN | apply Kd.R_drew)); exact HO207.out) (Kd.R_base ho0) hb); have n3_ := Aside0.mk (Kd.R_elder' (by (with_reducible repeat (first | apply Kd.R_alloc | apply Kd.R_drewN | apply Kd.R_drew)); exact HO210.out) (Kd.R_base ho0) hb); have n4_ := Aside0.mk (Kd.R_lower (Kd.R_new' (Kd.R_new' ho0 (Kd.R_lt (by (with_reducible repeat (first | apply Kd.R_alloc | apply Kd.R_drewN | apply Kd.R_drew)); exact HO207.out))) (Kd.R_lt (by (with_reducible repeat (first | apply Kd.R_alloc | apply Kd.R_drewN | apply Kd.R_drew)); exact HO210.out))) (below_size (by repeat (first | (with_reducible first | exact HB.out | apply below_alloc | apply pw_below_drewN | apply below_drew1 | refine below_set ?_ GE197.out | refine below_set ?_ GE204.out) | exact HB.out)))); have n5_ := Aside0.mk (blk_below (g := gb197) (o := .cells #[.int .i64 t191, .bool t192, .slice Ao19 t193.length co19] 24 (0, 0)) (by (with_reducible repeat (first | refine blk_drewN ?_ _ | refine blk_drew ?_ | refine blk_alloc ?_ _)); exact BK197.out) hb); have n6_ := Aside0.mk (blk_below (g := gb204) (o := .cells #[.int .i64 t198, .bool t199, .slice Ao24 t200.length co24] 24 (0, 0)) (by (with_reducible repeat (first | refine blk_drewN ?_ _ | refine blk_drew ?_ | refine blk_alloc ?_ _)); exact BK204.out) hb); have n7_ := Aside0.mk (below_step (by repeat (first | (with_reducible first | exact HB.out | apply below_alloc | apply pw_below_drewN | apply below_drew1 | refine below_set ?_ GE197.out | refine below_set ?_ GE204.out) | exact HB.out)) hb); clear HO195; clear HO202; clear HO207; clear HO210; clear BK197; clear BK204; clear HB; have HO195 := n0_; have HO202 := n1_; have HO207 := n2_; have HO210 := n3_; have HO213 := n4_; have BK197 := n5_; have BK204 := n6_; have HB := n7_; clear n0_ n1_ n2_ n3_ n4_ n5_ n6_ n7_; (try clear hb); (try clear hb2); (try clear hk); (try clear hi); (try clear ho0)) | (go_at_call 23; (with_reducible refine (hist_Of.calls _ _ l0 t214 _ ?side1 ?side2 A14.out).mono ?_); (case side1 => repeat (first | exact (Kd.C_below HR0.out HB.out) | (with_reducible refine Kd.C_alloc ?_ _) | (with_reducible refine Kd.C_drewN ?_ _) | (with_reducible refine Kd.C_drew ?_))); (case side2 => exact HC0.out); rintro e w30 ⟨v215, rfl, ho0, hb⟩; have n0_ := Aside0.mk (Kd.N_elder' (by (with_reducible repeat (first | apply Kd.N_alloc | apply Kd.N_drewN | apply Kd.N_drew)); exact HO195.out) (Kd.R_base ho0) hb); have n1_ := Aside0.mk (Kd.N_elder' (by (with_reducible repeat (first | apply Kd.N_alloc | apply Kd.N_drewN | apply Kd.N_drew)); exact HO202.out) (Kd.R_base ho0) hb); have n2_ := Aside0.mk (Kd.R_elder' (by (with_reducible repeat (first | apply Kd.R_alloc | apply Kd.R_drewN | apply Kd.R_drew)); exact HO207.out) (Kd.R_base ho0) hb); have n3_ := Aside0.mk (Kd.R_elder' (by (with_reducible repeat (first | apply Kd.R_alloc | apply Kd.R_drewN | apply Kd.R_drew)); exact HO210.out) (Kd.R_base ho0) hb); have n4_ := Aside0.mk (Kd.R_elder' (by (with_reducible repeat (first | apply Kd.R_alloc | apply Kd.R_drewN | apply Kd.R_drew)); exact HO213.out) (Kd.R_base ho0) hb); have n5_ := Aside0.mk (Kd.R_lower (Kd.R_new' (Kd.R_new' (Kd.R_new' ho0 (Kd.R_lt (by (with_reducible repeat (first | apply Kd.R_alloc | apply Kd.R_drewN | apply Kd.R_drew)); exact HO207.out))) (Kd.R_lt (by (with_reducible repeat (first | apply Kd.R_alloc | apply Kd.R_drewN | apply Kd.R_drew)); exact HO210.out))) (Kd.R_lt (by (with_reducible repeat (first | apply Kd.R_alloc | apply Kd.R_drewN | apply Kd.R_drew)); exact HO213.out))) (below_size (by repeat (first | (with_reducible first | exact HB.out | apply below_alloc | apply pw_below_drewN | apply below_drew1 | refine below_set ?_ GE197.out | refine below_set ?_ GE204.out) | exact HB.out)))); have n6_ := Aside0.mk (blk_below (g := gb197) (o := .cells #[.int .i64 t191, .bool t192, .slice Ao19 t193.length co19] 24 (0, 0)) (by (with_reducible repeat (first | refine blk_drewN ?_ _ | refine blk_drew ?_ | refine blk_alloc ?_ _)); exact BK197.out) hb); have n7_ := Aside0.mk (blk_below (g := gb204) (o := .cells #[.int .i64 t198, .bool t199, .slice Ao24 t200.length co24] 24 (0, 0)) (by (with_reducible repeat (first | refine blk_drewN ?_ _ | refine blk_drew ?_ | refine blk_alloc ?_ _)); exact BK204.out) hb); have n8_ := Aside0.mk (below_step (by repeat (first | (with_reducible first | exact HB.out | apply below_alloc | apply pw_below_drewN | apply below_drew1 | refine below_set ?_ GE197.out | refine below_set ?_ GE204.out) | exact HB.out)) hb); clear HO195; clear HO202; clear HO207; clear HO210; clear HO213; clear BK197; clear BK204; clear HB; have HO195 := n0_; have HO202 := n1_; have HO207 := n2_; have HO210 := n3_; have HO213 := n4_; have HO216 := n5_; have BK197 := n6_; have BK204 := n7_; have HB := n8_; clear n0_ n1_ n2_ n3_ n4_ n5_ n6_ n7_ n8_; (try clear hb); (try clear hb2); (try clear hk); (try clear hi); (try clear ho0))); go_upto_region 10 with (first | (go_at_call 18; (with_reducible refine (model_First.calls kj4 _ _ l0 t191 t192 t193 t196 _ ?side1 ?side2 A9.out).mono ?_); (case side1 => repeat (first | exact (Kd.C_below HR0.out HB.out) | (with_reducible refine Kd.C_alloc ?_ _) | (with_reducible refine Kd.C_drewN ?_ _) | (with_reducible refine Kd.C_drew ?_))); (case side2 => exact HC0.out); rintro e w16 ⟨v194, rfl, ho0, hb⟩; have n0_ := Aside0.mk (Kd.N_lower (Kd.N_mono (ok' := fun k_ => True) ho0 (fun k_ hk_ => trivial)) (below_size (by repeat (first | (with_reducible first | exact HB.out | apply below_alloc | apply pw_below_drewN | apply below_drew1) | exact HB.out)))); have n1_ := Aside0.mk (below_step (by repeat (first | (with_reducible first | exact HB.out | apply below_alloc | apply pw_below_drewN | apply below_drew1) | exact HB.out)) hb); clear HB; have HO195 := n0_; have HB := n1_; clear n0_ n1_; (try clear hb); (try clear hb2); (try clear hk); (try clear hi); (try clear ho0)) | ((with_reducible refine gate_dst (N := 8) rfl ?_); (try (refine gate_guard (by rfl) ?_; dsimp only)); refine box_event ?hg (N := 8) ?hd (cs := #[.int .i64 0, .bool false, .slice none 0 0]) (t := 24) ?hr ?_; (case hd => rfl); (case hg => rfl); (case hr => first | (go_simp; done) | (go_simp; rfl)); intro gb197 hg w17 hbox hb; have n0_ := Aside0.mk (Kd.N_below (Kd.N_elderB (by (with_reducible repeat (first | apply Kd.N_alloc | apply Kd.N_drewN | apply Kd.N_drew)); exact HO195.out) gb197 (Nat.le_of_eq hg.symm)) hb); have n1_ := Aside0.mk (below_step (by repeat (first | (with_reducible first | exact HB.out | apply below_alloc | apply pw_below_drewN | apply below_drew1) | exact HB.out)) hb); have n2_ := Aside0.mk (hbox); have n3_ := Aside0.mk ((by rw [hg]; exact (below_size (by repeat (first | (with_reducible first | exact HB.out | apply below_alloc | apply pw_below_drewN | apply below_drew1) | exact HB.out))) : w.heap.size ≤ gb197)); have n4_ := Aside0.mk ((by rw [hg]; exact (below_size (by repeat (first | (with_reducible first | exact HB.out | apply below_alloc | apply pw_below_drewN | apply below_drew1) | exact HB.out))) : w.heap.size ≤ gb197)); clear HO195; clear HB; have HO195 := n0_; have HB := n1_; have BK197 := n2_; have GW197 := n3_; have GE197 := n4_; clear n0_ n1_ n2_ n3_ n4_; clear hb hbox hg; have hcz18_0 : w17.cell? ⟨gb197, 0, none⟩ = some (.int .i64 0) := (blk_cell BK197.out 0).trans rfl; have hcz18_1 : w17.cell? ⟨gb197, 1, none⟩ = some (.bool false) := (blk_cell BK197.out 1).trans rfl; have hcz18_2 : w17.cell? ⟨gb197, 2, none⟩ = some (.slice none 0 0) := (blk_cell BK197.out 2).trans rfl; have hfz18_0 := blk_frozen BK197.out 0; have hfz18_1 := blk_frozen BK197.out 1; have hfz18_2 := blk_frozen BK197.out 2; obtain ⟨Ao19, co19, eo19⟩ := Kd.N_slice HO195.out; subst eo19) | (go_at_call 17; (with_reducible refine (model_Zero.calls kj4 _ _ l0 t198 t199 t200 t203 _ ?side1 ?side2 A10.out).mono ?_); (case side1 => exact Kd.C_below HR0.out (by repeat (first | (with_reducible first | exact HB.out | apply below_alloc | apply pw_below_drewN | apply below_drew1 | refine below_set ?_ GE197.out) | exact HB.out))); (case side2 => exact HC0.out); rintro e w20 ⟨v201, rfl, ho0, hb⟩; have n0_ := Aside0.mk (Kd.N_elder' (by (with_reducible repeat (first | apply Kd.N_alloc | apply Kd.N_drewN | apply Kd.N_drew)); exact (Kd.N_mono (Kd.N_far (p := ⟨gb197, 2, none⟩) (Kd.N_far (p := ⟨gb197, 1, none⟩) (Kd.N_far (p := ⟨gb197, 0, none⟩) (Kd.N_mono HO195.out (fun k_ hk => (⟨hk, hk.2⟩ : _ ∧ k_ ≠ gb197))) (fun _ hk => hk.2) (.int .i64 t191)) (fun _ hk => hk.2) (.bool t192)) (fun _ hk => hk.2) (.slice Ao19 t193.length co19)) (fun _ h_ => h_.1))) (Kd.N_base ho0) hb); have n1_ := Aside0.mk (Kd.N_lower (Kd.N_mono (ok' := fun k_ => some k_ ≠ (.slice Ao19 t193.length co19 : Value).ownBlock ∧ k_ ≠ gb197) ho0 (fun k_ hk_ => ⟨(Kd.fresh' (Kd.N_lt (by (with_reducible repeat (first | apply Kd.N_alloc | apply Kd.N_drewN | apply Kd.N_drew)); exact (Kd.N_mono (Kd.N_far (p := ⟨gb197, 2, none⟩) (Kd.N_far (p := ⟨gb197, 1, none⟩) (Kd.N_far (p := ⟨gb197, 0, none⟩) (Kd.N_mono HO195.out (fun k_ hk => (⟨hk, hk.2⟩ : _ ∧ k_ ≠ gb197))) (fun _ hk => hk.2) (.int .i64 t191)) (fun _ hk => hk.2) (.bool t192)) (fun _ hk => hk.2) (.slice Ao19 t193.length co19)) (fun _ h_ => h_.1)))) k_ hk_), (Kd.freshB (g := gb197) (o := .cells #[.int .i64 t191, .bool t192, .slice Ao19 t193.length co19] 24 (0, 0)) (by (with_reducible repeat (first | refine blk_drewN ?_ _ | refine blk_drew ?_ | refine blk_alloc ?_ _)); refine blk_put (cs := #[.int .i64 t191, .bool t192, .slice none 0 0]) ?_ 2 _ rfl; (with_reducible repeat (first | refine blk_drewN ?_ _ | refine blk_drew ?_ | refine blk_alloc ?_ _)); refine blk_put (cs := #[.int .i64 t191, .bool false, .slice none 0 0]) ?_ 1 _ rfl; (with_reducible repeat (first | refine blk_drewN ?_ _ | refine blk_drew ?_ | refine blk_alloc ?_ _)); refine blk_put (cs := #[.int .i64 0, .bool false, .slice none 0 0]) ?_ 0 _ rfl; (with_reducible repeat (first | refine blk_drewN ?_ _ | refine blk_drew ?_ | refine blk_alloc ?_ _)); exact BK197.out) k_ hk_)⟩)) (below_size (by repeat (first | (with_reducible first | exact HB.out | apply below_alloc | apply pw_below_drewN | apply below_drew1 | refine below_set ?_ GE197.out) | exact HB.out)))); have n2_ := Aside0.mk (blk_below (g := gb197) (o := .cells #[.int .i64 t191, .bool t192, .slice Ao19 t193.length co19] 24 (0, 0)) (by (with_reducible repeat (first | refine blk_drewN ?_ _ | refine blk_drew ?_ | refine blk_alloc ?_ _)); refine blk_put (cs := #[.int .i64 t191, .bool t192, .slice none 0 0]) ?_ 2 _ rfl; (with_reducible repeat (first | refine blk_drewN ?_ _ | refine blk_drew ?_ | refine blk_alloc ?_ _)); refine blk_put (cs := #[.int .i64 t191, .bool false, .slice none 0 0]) ?_ 1 _ rfl; (with_reducible repeat (first | refine blk_drewN ?_ _ | refine blk_drew ?_ | refine blk_alloc ?_ _)); refine blk_put (cs := #[.int .i64 0, .bool false, .slice none 0 0]) ?_ 0 _ rfl; (with_reducible repeat (first | refine blk_drewN ?_ _ | refine blk_drew ?_ | refine blk_alloc ?_ _)); exact BK197.out) hb); have n3_ := Aside0.mk (below_step (by repeat (first | (with_reducible first | exact HB.out | apply below_alloc | apply pw_below_drewN | apply below_drew1 | refine below_set ?_ GE197.out) | exact HB.out)) hb); clear HO195; clear BK197; clear HB; have HO195 := n0_; have HO202 := n1_; have BK197 := n2_; have HB := n3_; clear n0_ n1_ n2_ n3_; (try clear hb); (try clear hb2); (try clear hk); (try clear hi); (try clear ho0)) | ((with_reducible refine gate_dst (N := 10) rfl ?_); (try (refine gate_guard (by rfl) ?_; dsimp only)); refine box_event ?hg (N := 10) ?hd (cs := #[.int .i64 0, .bool false, .slice none 0 0]) (t := 24) ?hr ?_; (case hd => rfl); (case hg => rfl); (case hr => first | (go_simp; done) | (go_simp; rfl)); intro gb204 hg w21 hbox hb; have n0_ := Aside0.mk (Kd.N_below (Kd.N_elderB (by (with_reducible repeat (first | apply Kd.N_alloc | apply Kd.N_drewN | apply Kd.N_drew)); exact HO195.out) gb204 (Nat.le_of_eq hg.symm)) hb); have n1_ := Aside0.mk (Kd.N_below (Kd.N_elderB (by (with_reducible repeat (first | apply Kd.N_alloc | apply Kd.N_drewN | apply Kd.N_drew)); exact HO202.out) gb204 (Nat.le_of_eq hg.symm)) hb); have n2_ := Aside0.mk (blk_below (g := gb197) (o := .cells #[.int .i64 t191, .bool t192, .slice Ao19 t193.length co19] 24 (0, 0)) (by (with_reducible repeat (first | refine blk_drewN ?_ _ | refine blk_drew ?_ | refine blk_alloc ?_ _)); exact BK197.out) hb); have n3_ := Aside0.mk (below_step (by repeat (first | (with_reducible first | exact HB.out | apply below_alloc | apply pw_below_drewN | apply below_drew1 | refine below_set ?_ GE197.out) | exact HB.out)) hb); have n4_ := Aside0.mk (hbox); have n5_ := Aside0.mk ((by rw [hg]; exact (below_size (by repeat (first | (with_reducible first | exact HB.out | apply below_alloc | apply pw_below_drewN | apply below_drew1 | refine below_set ?_ GE197.out) | exact HB.out))) : w.heap.size ≤ gb204)); have n6_ := Aside0.mk ((by rw [hg]; exact (below_size (by repeat (first | (with_reducible first | exact HB.out | apply below_alloc | apply pw_below_drewN | apply below_drew1 | refine below_set ?_ GE197.out) | exact HB.out))) : w.heap.size ≤ gb204)); have n7_ := Aside0.mk ((by rw [hg]; exact Nat.ne_of_lt (blk_lt (g := gb197) (o := .cells #[.int .i64 t191, .bool t192, .slice Ao19 t193.length co19] 24 (0, 0)) (by (with_reducible repeat (first | refine blk_drewN ?_ _ | refine blk_drew ?_ | refine blk_alloc ?_ _)); exact BK197.out)) : gb197 ≠ gb204)); have n8_ := Aside0.mk ((by rw [hg]; exact Nat.ne_of_gt (blk_lt (g := gb197) (o := .cells #[.int .i64 t191, .bool t192, .slice Ao19 t193.length co19] 24 (0, 0)) (by (with_reducible repeat (first | refine blk_drewN ?_ _ | refine blk_drew ?_ | refine blk_alloc ?_ _)); exact BK197.out)) : gb204 ≠ gb197)); clear HO195; clear HO202; clear BK197; clear HB; have HO195 := n0_; have HO202 := n1_; have BK197 := n2_; have HB := n3_; have BK204 := n4_; have GW204 := n5_; have GE204 := n6_; have NB197_204 := n7_; have NB204_197 := n8_; clear n0_ n1_ n2_ n3_ n4_ n5_ n6_ n7_ n8_; clear hb hbox hg; have hnb22 := NB204_197.out; have hnc22 := NB197_204.out; have hcz23_0 : w21.cell? ⟨gb204, 0, none⟩ = some (.int .i64 0) := (blk_cell BK204.out 0).trans rfl; have hcz23_1 : w21.cell? ⟨gb204, 1, none⟩ = some (.bool false) := (blk_cell BK204.out 1).trans rfl; have hcz23_2 : w21.cell? ⟨gb204, 2, none⟩ = some (.slice none 0 0) := (blk_cell BK204.out 2).trans rfl; have hfz23_0 := blk_frozen BK204.out 0; have hfz23_1 := blk_frozen BK204.out 1; have hfz23_2 := blk_frozen BK204.out 2; obtain ⟨Ao24, co24, eo24⟩ := Kd.N_slice HO202.out; subst eo24; have hcz25_0 : w21.cell? ⟨gb197, 0, none⟩ = some (.int .i64 t191) := (blk_cell BK197.out 0).trans rfl; have hcz25_1 : w21.cell? ⟨gb197, 1, none⟩ = some (.bool t192) := (blk_cell BK197.out 1).trans rfl; have hcz25_2 : w21.cell? ⟨gb197, 2, none⟩ = some (.slice Ao19 t193.length co19) := (blk_cell BK197.out 2).trans rfl; have hfz25_0 := blk_frozen BK197.out 0; have hfz25_1 := blk_frozen BK197.out 1; have hfz25_2 := blk_frozen BK197.out 2) | (go_at_call 13; (with_reducible refine (model_At.calls kj4 t191 t192 _ _ t193 (wrap64 (a1)) t205 _ ?side1 ?side2 A11.out).mono ?_); (case side1 => refine (Kd.N_reads' (e := 29) (base := w.heap.size) (ok := fun k_ => (((True ∧ k_ ≠ gb197) ∧ some k_ ≠ (.slice Ao24 t200.length co24 : Value).ownBlock) ∧ k_ ≠ gb204)) (n := t193.length) (c := co19) ?_).2.2; exact (by (with_reducible repeat (first | apply Kd.N_alloc | apply Kd.N_drewN | apply Kd.N_drew)); exact (Kd.N_mono (Kd.N_far (p := ⟨gb204, 2, none⟩) (Kd.N_far (p := ⟨gb204, 1, none⟩) (Kd.N_far (p := ⟨gb204, 0, none⟩) (Kd.N_mono HO195.out (fun k_ hk => (⟨hk, hk.2⟩ : _ ∧ k_ ≠ gb204))) (fun _ hk => hk.2) (.int .i64 t198)) (fun _ hk => hk.2) (.bool t199)) (fun _ hk => hk.2) (.slice Ao24 t200.length co24)) (fun _ h_ => h_.1)))); (case side2 => exact (Kd.N_reads' HO195.out).2.1); rintro e w26 ⟨v206, rfl, ho0, hb⟩; have n0_ := Aside0.mk (Kd.N_elder' (by (with_reducible repeat (first | apply Kd.N_alloc | apply Kd.N_drewN | apply Kd.N_drew)); exact (Kd.N_mono (Kd.N_far (p := ⟨gb204, 2, none⟩) (Kd.N_far (p := ⟨gb204, 1, none⟩) (Kd.N_far (p := ⟨gb204, 0, none⟩) (Kd.N_mono HO195.out (fun k_ hk => (⟨hk, hk.2⟩ : _ ∧ k_ ≠ gb204))) (fun _ hk => hk.2) (.int .i64 t198)) (fun _ hk => hk.2) (.bool t199)) (fun _ hk => hk.2) (.slice Ao24 t200.length co24)) (fun _ h_ => h_.1))) (Kd.R_base ho0) hb); have n1_ := Aside0.mk (Kd.N_elder' (by (with_reducible repeat (first | apply Kd.N_alloc | apply Kd.N_drewN | apply Kd.N_drew)); exact (Kd.N_mono (Kd.N_far (p := ⟨gb204, 2, none⟩) (Kd.N_far (p := ⟨gb204, 1, none⟩) (Kd.N_far (p := ⟨gb204, 0, none⟩) (Kd.N_mono HO202.out (fun k_ hk => (⟨hk, hk.2⟩ : _ ∧ k_ ≠ gb204))) (fun _ hk => hk.2) (.int .i64 t198)) (fun _ hk => hk.2) (.bool t199)) (fun _ hk => hk.2) (.slice Ao24 t200.length co24)) (fun _ h_ => h_.1))) (Kd.R_base ho0) hb); have n2_ := Aside0.mk (Kd.R_lower ho0 (below_size (by repeat (first | (with_reducible first | exact HB.out | apply below_alloc | apply pw_below_drewN | apply below_drew1 | refine below_set ?_ GE197.out | refine below_set ?_ GE204.out) | exact HB.out)))); have n3_ := Aside0.mk (blk_below (g := gb197) (o := .cells #[.int .i64 t191, .bool t192, .slice Ao19 t193.length co19] 24 (0, 0)) (by (with_reducible repeat (first | refine blk_drewN ?_ _ | refine blk_drew ?_ | refine blk_alloc ?_ _)); refine blk_far ?_ NB197_204.out _; (with_reducible repeat (first | refine blk_drewN ?_ _ | refine blk_drew ?_ | refine blk_alloc ?_ _)); refine blk_far ?_ NB197_204.out _; (with_reducible repeat (first | refine blk_drewN ?_ _ | refine blk_drew ?_ | refine blk_alloc ?_ _)); refine blk_far ?_ NB197_204.out _; (with_reducible repeat (first | refine blk_drewN ?_ _ | refine blk_drew ?_ | refine blk_alloc ?_ _)); exact BK197.out) hb); have n4_ := Aside0.mk (blk_below (g := gb204) (o := .cells #[.int .i64 t198, .bool t199, .slice Ao24 t200.length co24] 24 (0, 0)) (by (with_reducible repeat (first | refine blk_drewN ?_ _ | refine blk_drew ?_ | refine blk_alloc ?_ _)); refine blk_put (cs := #[.int .i64 t198, .bool t199, .slice none 0 0]) ?_ 2 _ rfl; (with_reducible repeat (first | refine blk_drewN ?_ _ | refine blk_drew ?_ | refine blk_alloc ?_ _)); refine blk_put (cs := #[.int .i64 t198, .bool false, .slice none 0 0]) ?_ 1 _ rfl; (with_reducible repeat (first | refine blk_drewN ?_ _ | refine blk_drew ?_ | refine blk_alloc ?_ _)); refine blk_put (cs := #[.int .i64 0, .bool false, .slice none 0 0]) ?_ 0 _ rfl; (with_reducible repeat (first | refine blk_drewN ?_ _ | refine blk_drew ?_ | refine blk_alloc ?_ _)); exact BK204.out) hb); have n5_ := Aside0.mk (below_step (by repeat (first | (with_reducible first | exact HB.out | apply below_alloc | apply pw_below_drewN | apply below_drew1 | refine below_set ?_ GE197.out | refine below_set ?_ GE204.out) | exact HB.out)) hb); clear HO195; clear HO202; clear BK197; clear BK204; clear HB; have HO195 := n0_; have HO202 := n1_; have HO207 := n2_; have BK197 := n3_; have BK204 := n4_; have HB := n5_; clear n0_ n1_ n2_ n3_ n4_ n5_; (try clear hb); (try clear hb2); (try clear hk); (try clear hi); (try clear ho0); have hcz27_0 : w26.cell? ⟨gb204, 0, none⟩ = some (.int .i64 t198) := (blk_cell BK204.out 0).trans rfl; have hcz27_1 : w26.cell? ⟨gb204, 1, none⟩ = some (.bool t199) := (blk_cell BK204.out 1).trans rfl; have hcz27_2 : w26.cell? ⟨gb204, 2, none⟩ = some (.slice Ao24 t200.length co24) := (blk_cell BK204.out 2).trans rfl; have hfz27_0 := blk_frozen BK204.out 0; have hfz27_1 := blk_frozen BK204.out 1; have hfz27_2 := blk_frozen BK204.out 2) | (go_at_call 13; (with_reducible refine (model_At.calls kj4 t198 t199 _ _ t200 (wrap64 (a1)) t208 _ ?side1 ?side2 A12.out).mono ?_); (case side1 => repeat (first | exact (Kd.N_reads' HO202.out).2.2 | (with_reducible refine Kd.C_alloc ?_ _) | (with_reducible refine Kd.C_drewN ?_ _) | (with_reducible refine Kd.C_drew ?_))); (case side2 => exact (Kd.N_reads' HO202.out).2.1); rintro e w28 ⟨v209, rfl, ho0, hb⟩; have n0_ := Aside0.mk (Kd.N_elder' (by (with_reducible repeat (first | apply Kd.N_alloc | apply Kd.N_drewN | apply Kd.N_drew)); exact HO195.out) (Kd.R_base ho0) hb); have n1_ := Aside0.mk (Kd.N_elder' (by (with_reducible repeat (first | apply Kd.N_alloc | apply Kd.N_drewN | apply Kd.N_drew)); exact HO202.out) (Kd.R_base ho0) hb); have n2_ := Aside0.mk (Kd.R_elder' (by (with_reducible repeat (first | apply Kd.R_alloc | apply Kd.R_drewN | apply Kd.R_drew)); exact HO207.out) (Kd.R_base ho0) hb); have n3_ := Aside0.mk (Kd.R_lower (Kd.R_new' ho0 (Kd.R_lt (by (with_reducible repeat (first | apply Kd.R_alloc | apply Kd.R_drewN | apply Kd.R_drew)); exact HO207.out))) (below_size (by repeat (first | (with_reducible first | exact HB.out | apply below_alloc | apply pw_below_drewN | apply below_drew1 | refine below_set ?_ GE197.out | refine below_set ?_ GE204.out) | exact HB.out)))); have n4_ := Aside0.mk (blk_below (g := gb197) (o := .cells #[.int .i64 t191, .bool t192, .slice Ao19 t193.length co19] 24 (0, 0)) (by (with_reducible repeat (first | refine blk_drewN ?_ _ | refine blk_drew ?_ | refine blk_alloc ?_ _)); exact BK197.out) hb); have n5_ := Aside0.mk (blk_below (g := gb204) (o := .cells #[.int .i64 t198, .bool t199, .slice Ao24 t200.length co24] 24 (0, 0)) (by (with_reducible repeat (first | refine blk_drewN ?_ _ | refine blk_drew ?_ | refine blk_alloc ?_ _)); exact BK204.out) hb); have n6_ := Aside0.mk (below_step (by repeat (first | (with_reducible first | exact HB.out | apply below_alloc | apply pw_below_drewN | apply below_drew1 | refine below_set ?_ GE197.out | refine below_set ?_ GE204.out) | exact HB.out)) hb); clear HO195; clear HO202; clear HO207; clear BK197; clear BK204; clear HB; have HO195 := n0_; have HO202 := n1_; have HO207 := n2_; have HO210 := n3_; have BK197 := n4_; have BK204 := n5_; have HB := n6_; clear n0_ n1_ n2_ n3_ n4_ n5_ n6_; (try clear hb); (try clear hb2); (try clear hk); (try clear hi); (try clear ho0)) | (go_at_call 22; (with_reducible refine (ctx_For.calls _ _ l0 (wrap64 (a1)) t211 _ ?side1 ?side2 A13.out).mono ?_); (case side1 => repeat (first | exact (Kd.C_below HR0.out HB.out) | (with_reducible refine Kd.C_alloc ?_ _) | (with_reducible refine Kd.C_drewN ?_ _) | (with_reducible refine Kd.C_drew ?_))); (case side2 => exact HC0.out); rintro e w29 ⟨v212, rfl, ho0, hb⟩; have n0_ := Aside0.mk (Kd.N_elder' (by (with_reducible repeat (first | apply Kd.N_alloc | apply Kd.N_drewN | apply Kd.N_drew)); exact HO195.out) (Kd.R_base ho0) hb); have n1_ := Aside0.mk (Kd.N_elder' (by (with_reducible repeat (first | apply Kd.N_alloc | apply Kd.N_drewN | apply Kd.N_drew)); exact HO202.out) (Kd.R_base ho0) hb); have n2_ := Aside0.mk (Kd.R_elder' (by (with_reducible repeat (first | apply Kd.R_alloc | apply Kd.R_drewN | apply Kd.R_drew)); exact HO207.out) (Kd.R_base ho0) hb); have n3_ := Aside0.mk (Kd.R_elder' (by (with_reducible repeat (first | apply Kd.R_alloc | apply Kd.R_drewN | apply Kd.R_drew)); exact HO210.out) (Kd.R_base ho0) hb); have n4_ := Aside0.mk (Kd.R_lower (Kd.R_new' (Kd.R_new' ho0 (Kd.R_lt (by (with_reducible repeat (first | apply Kd.R_alloc | apply Kd.R_drewN | apply Kd.R_drew)); exact HO207.out))) (Kd.R_lt (by (with_reducible repeat (first | apply Kd.R_alloc | apply Kd.R_drewN | apply Kd.R_drew)); exact HO210.out))) (below_size (by repeat (first | (with_reducible first | exact HB.out | apply below_alloc | apply pw_below_drewN | apply below_drew1 | refine below_set ?_ GE197.out | refine below_set ?_ GE204.out) | exact HB.out)))); have n5_ := Aside0.mk (blk_below (g := gb197) (o := .cells #[.int .i64 t191, .bool t192, .slice Ao19 t193.length co19] 24 (0, 0)) (by (with_reducible repeat (first | refine blk_drewN ?_ _ | refine blk_drew ?_ | refine blk_alloc ?_ _)); exact BK197.out) hb); have n6_ := Aside0.mk (blk_below (g := gb204) (o := .cells #[.int .i64 t198, .bool t199, .slice Ao24 t200.length co24] 24 (0, 0)) (by (with_reducible repeat (first | refine blk_drewN ?_ _ | refine blk_drew ?_ | refine blk_alloc ?_ _)); exact BK204.out) hb); have n7_ := Aside0.mk (below_step (by repeat (first | (with_reducible first | exact HB.out | apply below_alloc | apply pw_below_drewN | apply below_drew1 | refine below_set ?_ GE197.out | refine below_set ?_ GE204.out) | exact HB.out)) hb); clear HO195; clear HO202; clear HO207; clear HO210; clear BK197; clear BK204; clear HB; have HO195 := n0_; have HO202 := n1_; have HO207 := n2_; have HO210 := n3_; have HO213 := n4_; have BK197 := n5_; have BK204 := n6_; have HB := n7_; clear n0_ n1_ n2_ n3_ n4_ n5_ n6_ n7_; (try clear hb); (try clear hb2); (try clear hk); (try clear hi); (try clear ho0)) | (go_at_call 23; (with_reducible refine (hist_Of.calls _ _ l0 t214 _ ?side1 ?side2 A14.out).mono ?_); (case side1 => repeat (first | exact (Kd.C_below HR0.out HB.out) | (with_reducible refine Kd.C_alloc ?_ _) | (with_reducible refine Kd.C_drewN ?_ _) | (with_reducible refine Kd.C_drew ?_))); (case side2 => exact HC0.out); rintro e w30 ⟨v215, rfl, ho0, hb⟩; have n0_ := Aside0.mk (Kd.N_elder' (by (with_reducible repeat (first | apply Kd.N_alloc | apply Kd.N_drewN | apply Kd.N_drew)); exact HO195.out) (Kd.R_base ho0) hb); have n1_ := Aside0.mk (Kd.N_elder' (by (with_reducible repeat (first | apply Kd.N_alloc | apply Kd.N_drewN | apply Kd.N_drew)); exact HO202.out) (Kd.R_base ho0) hb); have n2_ := Aside0.mk (Kd.R_elder' (by (with_reducible repeat (first | apply Kd.R_alloc | apply Kd.R_drewN | apply Kd.R_drew)); exact HO207.out) (Kd.R_base ho0) hb); have n3_ := Aside0.mk (Kd.R_elder' (by (with_reducible repeat (first | apply Kd.R_alloc | apply Kd.R_drewN | apply Kd.R_drew)); exact HO210.out) (Kd.R_base ho0) hb); have n4_ := Aside0.mk (Kd.R_elder' (by (with_reducible repeat (first | apply Kd.R_alloc | apply Kd.R_drewN | apply Kd.R_drew)); exact HO213.out) (Kd.R_base ho0) hb); have n5_ := Aside0.mk (Kd.R_lower (Kd.R_new' (Kd.R_new' (Kd.R_new' ho0 (Kd.R_lt (by (with_reducible repeat (first | apply Kd.R_alloc | apply Kd.R_drewN | apply Kd.R_drew)); exact HO207.out))) (Kd.R_lt (by (with_reducible repeat (first | apply Kd.R_alloc | apply Kd.R_drewN | apply Kd.R_drew)); exact HO210.out))) (Kd.R_lt (by (with_reducible repeat (first | apply Kd.R_alloc | apply Kd.R_drewN | apply Kd.R_drew)); exact HO213.out))) (below_size (by repeat (first | (with_reducible first | exact HB.out | apply below_alloc | apply pw_below_drewN | apply below_drew1 | refine below_set ?_ GE197.out | refine below_set ?_ GE204.out) | exact HB.out)))); have n6_ := Aside0.mk (blk_below (g := gb197) (o := .cells #[.int .i64 t191, .bool t192, .slice Ao19 t193.length co19] 24 (0, 0)) (by (with_reducible repeat (first | refine blk_drewN ?_ _ | refine blk_drew ?_ | refine blk_alloc ?_ _)); exact BK197.out) hb); have n7_ := Aside0.mk (blk_below (g := gb204) (o := .cells #[.int .i64 t198, .bool t199, .slice Ao24 t200.length co24] 24 (0, 0)) (by (with_reducible repeat (first | refine blk_drewN ?_ _ | refine blk_drew ?_ | refine blk_alloc ?_ _)); exact BK204.out) hb); have n8_ := Aside0.mk (below_step (by repeat (first | (with_reducible first | exact HB.out | apply below_alloc | apply pw_below_drewN | apply below_drew1 | refine below_set ?_ GE197.out | refine below_set ?_ GE204.out) | exact HB.out)) hb); clear HO195; clear HO202; clear HO207; clear HO210; clear HO213; clear BK197; clear BK204; clear HB; have HO195 := n0_; have HO202 := n1_; have HO207 := n2_; have HO210 := n3_; have HO213 := n4_; have HO216 := n5_; have BK197 := n6_; have BK204 := n7_; have HB := n8_; clear n0_ n1_ n2_ n3_ n4_ n5_ n6_ n7_ n8_; (try clear hb); (try clear hb2); (try clear hk); (try clear hi); (try clear ho0))))
        (try simp only [Act.put, List.setIfInBounds_toArray, List.set_cons_zero, List.set_cons_succ])
        go_cut [90] (fun v90 wc => ∃ (kq : Nat) (x90_14 : Bool), v90 = .bool x90_14 ∧ Aside0 (puncheonlaw16_ModelLists.j1 kq a2 t190 t205 t208 t211 t214 x90_14 t191 t192 t193 t198 t199 t200 = some r) ∧ Aside0 (kq ≤ kj4) ∧ Aside0 (Kd.R (Kd.int .i64) 3 wc w.heap.size (fun k_ => some k_ ≠ (v209 : Value).ownBlock ∧ some k_ ≠ (v212 : Value).ownBlock ∧ some k_ ≠ (v215 : Value).ownBlock) v206 t205) ∧ Aside0 (Kd.R (Kd.int .i64) 3 wc w.heap.size (fun k_ => some k_ ≠ (v206 : Value).ownBlock ∧ some k_ ≠ (v212 : Value).ownBlock ∧ some k_ ≠ (v215 : Value).ownBlock) v209 t208) ∧ Aside0 (Kd.R (Kd.int .i64) 3 wc w.heap.size (fun k_ => some k_ ≠ (v206 : Value).ownBlock ∧ some k_ ≠ (v209 : Value).ownBlock ∧ some k_ ≠ (v215 : Value).ownBlock) v212 t211) ∧ Aside0 (Kd.R (Kd.int .i64) 3 wc w.heap.size (fun k_ => some k_ ≠ (v206 : Value).ownBlock ∧ some k_ ≠ (v209 : Value).ownBlock ∧ some k_ ≠ (v212 : Value).ownBlock) v215 t214) ∧ Aside0 (Kd.N (Kd.slice 3 (Kd.int .i64)) 29 wc w.heap.size (fun k_ => some k_ ≠ (v206 : Value).ownBlock ∧ some k_ ≠ (v209 : Value).ownBlock ∧ some k_ ≠ (v212 : Value).ownBlock ∧ some k_ ≠ (v215 : Value).ownBlock ∧ some k_ ≠ ((.slice Ao24 t200.length co24) : Value).ownBlock ∧ k_ ≠ gb197 ∧ k_ ≠ gb204) (.slice Ao19 t193.length co19) t193) ∧ Aside0 (Kd.N (Kd.slice 3 (Kd.int .i64)) 29 wc w.heap.size (fun k_ => some k_ ≠ (v206 : Value).ownBlock ∧ some k_ ≠ (v209 : Value).ownBlock ∧ some k_ ≠ (v212 : Value).ownBlock ∧ some k_ ≠ (v215 : Value).ownBlock ∧ some k_ ≠ ((.slice Ao19 t193.length co19) : Value).ownBlock ∧ k_ ≠ gb197 ∧ k_ ≠ gb204) (.slice Ao24 t200.length co24) t200) ∧ Aside0 (wc.heap[gb197]? = some (.cells #[.int .i64 t191, .bool t192, (.slice Ao19 t193.length co19)] 24 (0, 0))) ∧ Aside0 (wc.heap[gb204]? = some (.cells #[.int .i64 t198, .bool t199, (.slice Ao24 t200.length co24)] 24 (0, 0))) ∧ Aside0 (Below w.heap.size w wc))
        case first =>
          have H := HC15.out
          clear HC15
          by_cases c31 : t196 = 0
          · rw [if_pos c31] at H
            have c31b0 : (t196 == 0) = true := beq_iff_eq.mpr c31
            have c31b1 : (t196 != 0) = false := bne_eq_false_iff_eq.mpr c31
            clear c31
            (first | rw [c31b0] | (simp only [i64_w, i32_w]; rw [c31b0]) | skip)
            by_cases c32 : t203 = 0
            · rw [if_pos c32] at H
              have c32b0 : (t203 == 0) = true := beq_iff_eq.mpr c32
              have c32b1 : (t203 != 0) = false := bne_eq_false_iff_eq.mpr c32
              clear c32
              by_cases c33 : (t208.length : Int) = 256
              · rw [if_pos c33] at H
                have c33b0 : ((t208.length : Int) == 256) = true := beq_iff_eq.mpr c33
                have c33b1 : ((t208.length : Int) != 256) = false := bne_eq_false_iff_eq.mpr c33
                clear c33
                by_cases c34 : (t211.length : Int) = 256
                · rw [if_pos c34] at H
                  have c34b0 : ((t211.length : Int) == 256) = true := beq_iff_eq.mpr c34
                  have c34b1 : ((t211.length : Int) != 256) = false := bne_eq_false_iff_eq.mpr c34
                  clear c34
                  by_cases c35 : (t214.length : Int) = 256
                  · rw [if_pos c35] at H
                    have c35b0 : ((t214.length : Int) == 256) = true := beq_iff_eq.mpr c35
                    have c35b1 : ((t214.length : Int) != 256) = false := bne_eq_false_iff_eq.mpr c35
                    clear c35
                    by_cases c36 : t191 < 5
                    · rw [if_pos c36] at H
                      have c36b0 : decide (t191 < 5) = true := decide_eq_true c36
                      clear c36
                      have H' := Aside0.mk H
                      clear H
                      obtain ⟨Ao37, co37, eo37⟩ := Kd.R_slice HO210.out
                      subst eo37
                      obtain ⟨Ao38, co38, eo38⟩ := Kd.R_slice HO213.out
                      subst eo38
                      obtain ⟨Ao39, co39, eo39⟩ := Kd.R_slice HO216.out
                      subst eo39
                      have hnb40 := NB197_204.out
                      have hnc40 := NB204_197.out
                      have hcz41_0 : w30.cell? ⟨gb197, 0, none⟩ = some (.int .i64 t191) := (blk_cell BK197.out 0).trans rfl
                      have hcz41_1 : w30.cell? ⟨gb197, 1, none⟩ = some (.bool t192) := (blk_cell BK197.out 1).trans rfl
                      have hcz41_2 : w30.cell? ⟨gb197, 2, none⟩ = some (.slice Ao19 t193.length co19) := (blk_cell BK197.out 2).trans rfl
                      have hfz41_0 := blk_frozen BK197.out 0
                      have hfz41_1 := blk_frozen BK197.out 1
                      have hfz41_2 := blk_frozen BK197.out 2
                      go_wp2
                      repeat (go_quiet (fail); try go_wp2)
                      go_meet
                      case rel => exact ⟨_, (true), (by first | rfl | (simp; done) | (simp [*]; done)), H', ⟨by have := HJ4.out; first | omega | exact Nat.le_refl _⟩, ⟨by (with_reducible repeat (first | apply Kd.R_alloc | apply Kd.R_drewN | apply Kd.R_drew)); exact Kd.R_mono HO207.out (fun _ hk => ⟨hk.1.1.2, ⟨hk.1.2, hk.2⟩⟩)⟩, ⟨by (with_reducible repeat (first | apply Kd.R_alloc | apply Kd.R_drewN | apply Kd.R_drew)); exact Kd.R_mono HO210.out (fun _ hk => ⟨hk.1.1.2, ⟨hk.1.2, hk.2⟩⟩)⟩, ⟨by (with_reducible repeat (first | apply Kd.R_alloc | apply Kd.R_drewN | apply Kd.R_drew)); exact Kd.R_mono HO213.out (fun _ hk => ⟨hk.1.1.2, ⟨hk.1.2, hk.2⟩⟩)⟩, ⟨by (with_reducible repeat (first | apply Kd.R_alloc | apply Kd.R_drewN | apply Kd.R_drew)); exact Kd.R_mono HO216.out (fun _ hk => ⟨hk.1.1.2, ⟨hk.1.2, hk.2⟩⟩)⟩, ⟨by (with_reducible repeat (first | apply Kd.N_alloc | apply Kd.N_drewN | apply Kd.N_drew)); exact Kd.N_mono HO195.out (fun _ hk => ⟨hk.1.1.1.2, ⟨hk.1.1.2, ⟨hk.1.2, ⟨hk.2, ⟨hk.1.1.1.1.1.2, ⟨hk.1.1.1.1.1.1.2, hk.1.1.1.1.2⟩⟩⟩⟩⟩⟩)⟩, ⟨by (with_reducible repeat (first | apply Kd.N_alloc | apply Kd.N_drewN | apply Kd.N_drew)); exact Kd.N_mono HO202.out (fun _ hk => ⟨hk.1.1.1.2, ⟨hk.1.1.2, ⟨hk.1.2, ⟨hk.2, ⟨hk.1.1.1.1.1.1, ⟨hk.1.1.1.1.1.2, hk.1.1.1.1.2⟩⟩⟩⟩⟩⟩)⟩, ⟨by (with_reducible repeat (first | refine blk_drewN ?_ _ | refine blk_drew ?_ | refine blk_alloc ?_ _)); exact BK197.out⟩, ⟨by (with_reducible repeat (first | refine blk_drewN ?_ _ | refine blk_drew ?_ | refine blk_alloc ?_ _)); exact BK204.out⟩, ⟨by repeat (first | (with_reducible first | exact HB.out | apply below_alloc | apply pw_below_drewN | apply below_drew1 | refine below_set ?_ GE197.out | refine below_set ?_ GE204.out) | exact HB.out)⟩⟩
                    · rw [if_neg c36] at H
                      have c36b0 : decide (t191 < 5) = false := decide_eq_false c36
                      clear c36
                      by_cases c42 : t191 > 9
                      · rw [if_pos c42] at H
                        have c42b0 : decide (9 < t191) = true := decide_eq_true c42
                        clear c42
                        have H' := Aside0.mk H
                        clear H
                        obtain ⟨Ao43, co43, eo43⟩ := Kd.R_slice HO210.out
                        subst eo43
                        obtain ⟨Ao44, co44, eo44⟩ := Kd.R_slice HO213.out
                        subst eo44
                        obtain ⟨Ao45, co45, eo45⟩ := Kd.R_slice HO216.out
                        subst eo45
                        have hnb46 := NB197_204.out
                        have hnc46 := NB204_197.out
                        have hcz47_0 : w30.cell? ⟨gb197, 0, none⟩ = some (.int .i64 t191) := (blk_cell BK197.out 0).trans rfl
                        have hcz47_1 : w30.cell? ⟨gb197, 1, none⟩ = some (.bool t192) := (blk_cell BK197.out 1).trans rfl
                        have hcz47_2 : w30.cell? ⟨gb197, 2, none⟩ = some (.slice Ao19 t193.length co19) := (blk_cell BK197.out 2).trans rfl
                        have hfz47_0 := blk_frozen BK197.out 0
                        have hfz47_1 := blk_frozen BK197.out 1
                        have hfz47_2 := blk_frozen BK197.out 2
                        go_wp2
                        repeat (go_quiet (fail); try go_wp2)
                        go_meet
                        case rel => exact ⟨_, (true), (by first | rfl | (simp; done) | (simp [*]; done)), H', ⟨by have := HJ4.out; first | omega | exact Nat.le_refl _⟩, ⟨by (with_reducible repeat (first | apply Kd.R_alloc | apply Kd.R_drewN | apply Kd.R_drew)); exact Kd.R_mono HO207.out (fun _ hk => ⟨hk.1.1.2, ⟨hk.1.2, hk.2⟩⟩)⟩, ⟨by (with_reducible repeat (first | apply Kd.R_alloc | apply Kd.R_drewN | apply Kd.R_drew)); exact Kd.R_mono HO210.out (fun _ hk => ⟨hk.1.1.2, ⟨hk.1.2, hk.2⟩⟩)⟩, ⟨by (with_reducible repeat (first | apply Kd.R_alloc | apply Kd.R_drewN | apply Kd.R_drew)); exact Kd.R_mono HO213.out (fun _ hk => ⟨hk.1.1.2, ⟨hk.1.2, hk.2⟩⟩)⟩, ⟨by (with_reducible repeat (first | apply Kd.R_alloc | apply Kd.R_drewN | apply Kd.R_drew)); exact Kd.R_mono HO216.out (fun _ hk => ⟨hk.1.1.2, ⟨hk.1.2, hk.2⟩⟩)⟩, ⟨by (with_reducible repeat (first | apply Kd.N_alloc | apply Kd.N_drewN | apply Kd.N_drew)); exact Kd.N_mono HO195.out (fun _ hk => ⟨hk.1.1.1.2, ⟨hk.1.1.2, ⟨hk.1.2, ⟨hk.2, ⟨hk.1.1.1.1.1.2, ⟨hk.1.1.1.1.1.1.2, hk.1.1.1.1.2⟩⟩⟩⟩⟩⟩)⟩, ⟨by (with_reducible repeat (first | apply Kd.N_alloc | apply Kd.N_drewN | apply Kd.N_drew)); exact Kd.N_mono HO202.out (fun _ hk => ⟨hk.1.1.1.2, ⟨hk.1.1.2, ⟨hk.1.2, ⟨hk.2, ⟨hk.1.1.1.1.1.1, ⟨hk.1.1.1.1.1.2, hk.1.1.1.1.2⟩⟩⟩⟩⟩⟩)⟩, ⟨by (with_reducible repeat (first | refine blk_drewN ?_ _ | refine blk_drew ?_ | refine blk_alloc ?_ _)); exact BK197.out⟩, ⟨by (with_reducible repeat (first | refine blk_drewN ?_ _ | refine blk_drew ?_ | refine blk_alloc ?_ _)); exact BK204.out⟩, ⟨by repeat (first | (with_reducible first | exact HB.out | apply below_alloc | apply pw_below_drewN | apply below_drew1 | refine below_set ?_ GE197.out | refine below_set ?_ GE204.out) | exact HB.out)⟩⟩
                      · rw [if_neg c42] at H
                        have c42b0 : decide (9 < t191) = false := decide_eq_false c42
                        clear c42
                        by_cases c48 : t198 < 5
                        · rw [if_pos c48] at H
                          have c48b0 : decide (t198 < 5) = true := decide_eq_true c48
                          clear c48
                          have H' := Aside0.mk H
                          clear H
                          obtain ⟨Ao49, co49, eo49⟩ := Kd.R_slice HO210.out
                          subst eo49
                          obtain ⟨Ao50, co50, eo50⟩ := Kd.R_slice HO213.out
                          subst eo50
                          obtain ⟨Ao51, co51, eo51⟩ := Kd.R_slice HO216.out
                          subst eo51
                          have hnb52 := NB197_204.out
                          have hnc52 := NB204_197.out
                          have hcz53_0 : w30.cell? ⟨gb197, 0, none⟩ = some (.int .i64 t191) := (blk_cell BK197.out 0).trans rfl
                          have hcz53_1 : w30.cell? ⟨gb197, 1, none⟩ = some (.bool t192) := (blk_cell BK197.out 1).trans rfl
                          have hcz53_2 : w30.cell? ⟨gb197, 2, none⟩ = some (.slice Ao19 t193.length co19) := (blk_cell BK197.out 2).trans rfl
                          have hfz53_0 := blk_frozen BK197.out 0
                          have hfz53_1 := blk_frozen BK197.out 1
                          have hfz53_2 := blk_frozen BK197.out 2
                          have hcz54_0 : w30.cell? ⟨gb204, 0, none⟩ = some (.int .i64 t198) := (blk_cell BK204.out 0).trans rfl
                          have hcz54_1 : w30.cell? ⟨gb204, 1, none⟩ = some (.bool t199) := (blk_cell BK204.out 1).trans rfl
                          have hcz54_2 : w30.cell? ⟨gb204, 2, none⟩ = some (.slice Ao24 t200.length co24) := (blk_cell BK204.out 2).trans rfl
                          have hfz54_0 := blk_frozen BK204.out 0
                          have hfz54_1 := blk_frozen BK204.out 1
                          have hfz54_2 := blk_frozen BK204.out 2
                          go_wp2
                          repeat (go_quiet (fail); try go_wp2)
                          go_meet
                          case rel => exact ⟨_, (true), (by first | rfl | (simp; done) | (simp [*]; done)), H', ⟨by have := HJ4.out; first | omega | exact Nat.le_refl _⟩, ⟨by (with_reducible repeat (first | apply Kd.R_alloc | apply Kd.R_drewN | apply Kd.R_drew)); exact Kd.R_mono HO207.out (fun _ hk => ⟨hk.1.1.2, ⟨hk.1.2, hk.2⟩⟩)⟩, ⟨by (with_reducible repeat (first | apply Kd.R_alloc | apply Kd.R_drewN | apply Kd.R_drew)); exact Kd.R_mono HO210.out (fun _ hk => ⟨hk.1.1.2, ⟨hk.1.2, hk.2⟩⟩)⟩, ⟨by (with_reducible repeat (first | apply Kd.R_alloc | apply Kd.R_drewN | apply Kd.R_drew)); exact Kd.R_mono HO213.out (fun _ hk => ⟨hk.1.1.2, ⟨hk.1.2, hk.2⟩⟩)⟩, ⟨by (with_reducible repeat (first | apply Kd.R_alloc | apply Kd.R_drewN | apply Kd.R_drew)); exact Kd.R_mono HO216.out (fun _ hk => ⟨hk.1.1.2, ⟨hk.1.2, hk.2⟩⟩)⟩, ⟨by (with_reducible repeat (first | apply Kd.N_alloc | apply Kd.N_drewN | apply Kd.N_drew)); exact Kd.N_mono HO195.out (fun _ hk => ⟨hk.1.1.1.2, ⟨hk.1.1.2, ⟨hk.1.2, ⟨hk.2, ⟨hk.1.1.1.1.1.2, ⟨hk.1.1.1.1.1.1.2, hk.1.1.1.1.2⟩⟩⟩⟩⟩⟩)⟩, ⟨by (with_reducible repeat (first | apply Kd.N_alloc | apply Kd.N_drewN | apply Kd.N_drew)); exact Kd.N_mono HO202.out (fun _ hk => ⟨hk.1.1.1.2, ⟨hk.1.1.2, ⟨hk.1.2, ⟨hk.2, ⟨hk.1.1.1.1.1.1, ⟨hk.1.1.1.1.1.2, hk.1.1.1.1.2⟩⟩⟩⟩⟩⟩)⟩, ⟨by (with_reducible repeat (first | refine blk_drewN ?_ _ | refine blk_drew ?_ | refine blk_alloc ?_ _)); exact BK197.out⟩, ⟨by (with_reducible repeat (first | refine blk_drewN ?_ _ | refine blk_drew ?_ | refine blk_alloc ?_ _)); exact BK204.out⟩, ⟨by repeat (first | (with_reducible first | exact HB.out | apply below_alloc | apply pw_below_drewN | apply below_drew1 | refine below_set ?_ GE197.out | refine below_set ?_ GE204.out) | exact HB.out)⟩⟩
                        · rw [if_neg c48] at H
                          have c48b0 : decide (t198 < 5) = false := decide_eq_false c48
                          clear c48
                          have H' := Aside0.mk H
                          clear H
                          obtain ⟨Ao55, co55, eo55⟩ := Kd.R_slice HO210.out
                          subst eo55
                          obtain ⟨Ao56, co56, eo56⟩ := Kd.R_slice HO213.out
                          subst eo56
                          obtain ⟨Ao57, co57, eo57⟩ := Kd.R_slice HO216.out
                          subst eo57
                          have hnb58 := NB197_204.out
                          have hnc58 := NB204_197.out
                          have hcz59_0 : w30.cell? ⟨gb197, 0, none⟩ = some (.int .i64 t191) := (blk_cell BK197.out 0).trans rfl
                          have hcz59_1 : w30.cell? ⟨gb197, 1, none⟩ = some (.bool t192) := (blk_cell BK197.out 1).trans rfl
                          have hcz59_2 : w30.cell? ⟨gb197, 2, none⟩ = some (.slice Ao19 t193.length co19) := (blk_cell BK197.out 2).trans rfl
                          have hfz59_0 := blk_frozen BK197.out 0
                          have hfz59_1 := blk_frozen BK197.out 1
                          have hfz59_2 := blk_frozen BK197.out 2
                          have hcz60_0 : w30.cell? ⟨gb204, 0, none⟩ = some (.int .i64 t198) := (blk_cell BK204.out 0).trans rfl
                          have hcz60_1 : w30.cell? ⟨gb204, 1, none⟩ = some (.bool t199) := (blk_cell BK204.out 1).trans rfl
                          have hcz60_2 : w30.cell? ⟨gb204, 2, none⟩ = some (.slice Ao24 t200.length co24) := (blk_cell BK204.out 2).trans rfl
                          have hfz60_0 := blk_frozen BK204.out 0
                          have hfz60_1 := blk_frozen BK204.out 1
                          have hfz60_2 := blk_frozen BK204.out 2
                          go_wp2
                          repeat (go_quiet (fail); try go_wp2)
                          go_meet
                          case rel => exact ⟨_, (decide (t198 > 11)), (by first | rfl | (simp; done) | (simp [*]; done)), H', ⟨by have := HJ4.out; first | omega | exact Nat.le_refl _⟩, ⟨by (with_reducible repeat (first | apply Kd.R_alloc | apply Kd.R_drewN | apply Kd.R_drew)); exact Kd.R_mono HO207.out (fun _ hk => ⟨hk.1.1.2, ⟨hk.1.2, hk.2⟩⟩)⟩, ⟨by (with_reducible repeat (first | apply Kd.R_alloc | apply Kd.R_drewN | apply Kd.R_drew)); exact Kd.R_mono HO210.out (fun _ hk => ⟨hk.1.1.2, ⟨hk.1.2, hk.2⟩⟩)⟩, ⟨by (with_reducible repeat (first | apply Kd.R_alloc | apply Kd.R_drewN | apply Kd.R_drew)); exact Kd.R_mono HO213.out (fun _ hk => ⟨hk.1.1.2, ⟨hk.1.2, hk.2⟩⟩)⟩, ⟨by (with_reducible repeat (first | apply Kd.R_alloc | apply Kd.R_drewN | apply Kd.R_drew)); exact Kd.R_mono HO216.out (fun _ hk => ⟨hk.1.1.2, ⟨hk.1.2, hk.2⟩⟩)⟩, ⟨by (with_reducible repeat (first | apply Kd.N_alloc | apply Kd.N_drewN | apply Kd.N_drew)); exact Kd.N_mono HO195.out (fun _ hk => ⟨hk.1.1.1.2, ⟨hk.1.1.2, ⟨hk.1.2, ⟨hk.2, ⟨hk.1.1.1.1.1.2, ⟨hk.1.1.1.1.1.1.2, hk.1.1.1.1.2⟩⟩⟩⟩⟩⟩)⟩, ⟨by (with_reducible repeat (first | apply Kd.N_alloc | apply Kd.N_drewN | apply Kd.N_drew)); exact Kd.N_mono HO202.out (fun _ hk => ⟨hk.1.1.1.2, ⟨hk.1.1.2, ⟨hk.1.2, ⟨hk.2, ⟨hk.1.1.1.1.1.1, ⟨hk.1.1.1.1.1.2, hk.1.1.1.1.2⟩⟩⟩⟩⟩⟩)⟩, ⟨by (with_reducible repeat (first | refine blk_drewN ?_ _ | refine blk_drew ?_ | refine blk_alloc ?_ _)); exact BK197.out⟩, ⟨by (with_reducible repeat (first | refine blk_drewN ?_ _ | refine blk_drew ?_ | refine blk_alloc ?_ _)); exact BK204.out⟩, ⟨by repeat (first | (with_reducible first | exact HB.out | apply below_alloc | apply pw_below_drewN | apply below_drew1 | refine below_set ?_ GE197.out | refine below_set ?_ GE204.out) | exact HB.out)⟩⟩
                  · rw [if_neg c35] at H
                    have c35b0 : ((t214.length : Int) == 256) = false := beq_eq_false_iff_ne.mpr c35
                    have c35b1 : ((t214.length : Int) != 256) = true := bne_iff_ne.mpr c35
                    have H' := Aside0.mk H
                    clear H
                    obtain ⟨Ao61, co61, eo61⟩ := Kd.R_slice HO210.out
                    subst eo61
                    obtain ⟨Ao62, co62, eo62⟩ := Kd.R_slice HO213.out
                    subst eo62
                    obtain ⟨Ao63, co63, eo63⟩ := Kd.R_slice HO216.out
                    subst eo63
                    go_wp2
                    repeat (go_quiet (fail); try go_wp2)
                    go_meet
                    case rel => exact ⟨_, (true), (by first | rfl | (simp; done) | (simp [*]; done)), H', ⟨by have := HJ4.out; first | omega | exact Nat.le_refl _⟩, ⟨by (with_reducible repeat (first | apply Kd.R_alloc | apply Kd.R_drewN | apply Kd.R_drew)); exact Kd.R_mono HO207.out (fun _ hk => ⟨hk.1.1.2, ⟨hk.1.2, hk.2⟩⟩)⟩, ⟨by (with_reducible repeat (first | apply Kd.R_alloc | apply Kd.R_drewN | apply Kd.R_drew)); exact Kd.R_mono HO210.out (fun _ hk => ⟨hk.1.1.2, ⟨hk.1.2, hk.2⟩⟩)⟩, ⟨by (with_reducible repeat (first | apply Kd.R_alloc | apply Kd.R_drewN | apply Kd.R_drew)); exact Kd.R_mono HO213.out (fun _ hk => ⟨hk.1.1.2, ⟨hk.1.2, hk.2⟩⟩)⟩, ⟨by (with_reducible repeat (first | apply Kd.R_alloc | apply Kd.R_drewN | apply Kd.R_drew)); exact Kd.R_mono HO216.out (fun _ hk => ⟨hk.1.1.2, ⟨hk.1.2, hk.2⟩⟩)⟩, ⟨by (with_reducible repeat (first | apply Kd.N_alloc | apply Kd.N_drewN | apply Kd.N_drew)); exact Kd.N_mono HO195.out (fun _ hk => ⟨hk.1.1.1.2, ⟨hk.1.1.2, ⟨hk.1.2, ⟨hk.2, ⟨hk.1.1.1.1.1.2, ⟨hk.1.1.1.1.1.1.2, hk.1.1.1.1.2⟩⟩⟩⟩⟩⟩)⟩, ⟨by (with_reducible repeat (first | apply Kd.N_alloc | apply Kd.N_drewN | apply Kd.N_drew)); exact Kd.N_mono HO202.out (fun _ hk => ⟨hk.1.1.1.2, ⟨hk.1.1.2, ⟨hk.1.2, ⟨hk.2, ⟨hk.1.1.1.1.1.1, ⟨hk.1.1.1.1.1.2, hk.1.1.1.1.2⟩⟩⟩⟩⟩⟩)⟩, ⟨by (with_reducible repeat (first | refine blk_drewN ?_ _ | refine blk_drew ?_ | refine blk_alloc ?_ _)); exact BK197.out⟩, ⟨by (with_reducible repeat (first | refine blk_drewN ?_ _ | refine blk_drew ?_ | refine blk_alloc ?_ _)); exact BK204.out⟩, ⟨by repeat (first | (with_reducible first | exact HB.out | apply below_alloc | apply pw_below_drewN | apply below_drew1 | refine below_set ?_ GE197.out | refine below_set ?_ GE204.out) | exact HB.out)⟩⟩
                · rw [if_neg c34] at H
                  have c34b0 : ((t211.length : Int) == 256) = false := beq_eq_false_iff_ne.mpr c34
                  have c34b1 : ((t211.length : Int) != 256) = true := bne_iff_ne.mpr c34
                  have H' := Aside0.mk H
                  clear H
                  obtain ⟨Ao64, co64, eo64⟩ := Kd.R_slice HO210.out
                  subst eo64
                  obtain ⟨Ao65, co65, eo65⟩ := Kd.R_slice HO213.out
                  subst eo65
                  go_wp2
                  repeat (go_quiet (fail); try go_wp2)
                  go_meet
                  case rel => exact ⟨_, (true), (by first | rfl | (simp; done) | (simp [*]; done)), H', ⟨by have := HJ4.out; first | omega | exact Nat.le_refl _⟩, ⟨by (with_reducible repeat (first | apply Kd.R_alloc | apply Kd.R_drewN | apply Kd.R_drew)); exact Kd.R_mono HO207.out (fun _ hk => ⟨hk.1.1.2, ⟨hk.1.2, hk.2⟩⟩)⟩, ⟨by (with_reducible repeat (first | apply Kd.R_alloc | apply Kd.R_drewN | apply Kd.R_drew)); exact Kd.R_mono HO210.out (fun _ hk => ⟨hk.1.1.2, ⟨hk.1.2, hk.2⟩⟩)⟩, ⟨by (with_reducible repeat (first | apply Kd.R_alloc | apply Kd.R_drewN | apply Kd.R_drew)); exact Kd.R_mono HO213.out (fun _ hk => ⟨hk.1.1.2, ⟨hk.1.2, hk.2⟩⟩)⟩, ⟨by (with_reducible repeat (first | apply Kd.R_alloc | apply Kd.R_drewN | apply Kd.R_drew)); exact Kd.R_mono HO216.out (fun _ hk => ⟨hk.1.1.2, ⟨hk.1.2, hk.2⟩⟩)⟩, ⟨by (with_reducible repeat (first | apply Kd.N_alloc | apply Kd.N_drewN | apply Kd.N_drew)); exact Kd.N_mono HO195.out (fun _ hk => ⟨hk.1.1.1.2, ⟨hk.1.1.2, ⟨hk.1.2, ⟨hk.2, ⟨hk.1.1.1.1.1.2, ⟨hk.1.1.1.1.1.1.2, hk.1.1.1.1.2⟩⟩⟩⟩⟩⟩)⟩, ⟨by (with_reducible repeat (first | apply Kd.N_alloc | apply Kd.N_drewN | apply Kd.N_drew)); exact Kd.N_mono HO202.out (fun _ hk => ⟨hk.1.1.1.2, ⟨hk.1.1.2, ⟨hk.1.2, ⟨hk.2, ⟨hk.1.1.1.1.1.1, ⟨hk.1.1.1.1.1.2, hk.1.1.1.1.2⟩⟩⟩⟩⟩⟩)⟩, ⟨by (with_reducible repeat (first | refine blk_drewN ?_ _ | refine blk_drew ?_ | refine blk_alloc ?_ _)); exact BK197.out⟩, ⟨by (with_reducible repeat (first | refine blk_drewN ?_ _ | refine blk_drew ?_ | refine blk_alloc ?_ _)); exact BK204.out⟩, ⟨by repeat (first | (with_reducible first | exact HB.out | apply below_alloc | apply pw_below_drewN | apply below_drew1 | refine below_set ?_ GE197.out | refine below_set ?_ GE204.out) | exact HB.out)⟩⟩
              · rw [if_neg c33] at H
                have c33b0 : ((t208.length : Int) == 256) = false := beq_eq_false_iff_ne.mpr c33
                have c33b1 : ((t208.length : Int) != 256) = true := bne_iff_ne.mpr c33
                have H' := Aside0.mk H
                clear H
                obtain ⟨Ao66, co66, eo66⟩ := Kd.R_slice HO210.out
                subst eo66
                go_wp2
                repeat (go_quiet (fail); try go_wp2)
                go_meet
                case rel => exact ⟨_, (true), (by first | rfl | (simp; done) | (simp [*]; done)), H', ⟨by have := HJ4.out; first | omega | exact Nat.le_refl _⟩, ⟨by (with_reducible repeat (first | apply Kd.R_alloc | apply Kd.R_drewN | apply Kd.R_drew)); exact Kd.R_mono HO207.out (fun _ hk => ⟨hk.1.1.2, ⟨hk.1.2, hk.2⟩⟩)⟩, ⟨by (with_reducible repeat (first | apply Kd.R_alloc | apply Kd.R_drewN | apply Kd.R_drew)); exact Kd.R_mono HO210.out (fun _ hk => ⟨hk.1.1.2, ⟨hk.1.2, hk.2⟩⟩)⟩, ⟨by (with_reducible repeat (first | apply Kd.R_alloc | apply Kd.R_drewN | apply Kd.R_drew)); exact Kd.R_mono HO213.out (fun _ hk => ⟨hk.1.1.2, ⟨hk.1.2, hk.2⟩⟩)⟩, ⟨by (with_reducible repeat (first | apply Kd.R_alloc | apply Kd.R_drewN | apply Kd.R_drew)); exact Kd.R_mono HO216.out (fun _ hk => ⟨hk.1.1.2, ⟨hk.1.2, hk.2⟩⟩)⟩, ⟨by (with_reducible repeat (first | apply Kd.N_alloc | apply Kd.N_drewN | apply Kd.N_drew)); exact Kd.N_mono HO195.out (fun _ hk => ⟨hk.1.1.1.2, ⟨hk.1.1.2, ⟨hk.1.2, ⟨hk.2, ⟨hk.1.1.1.1.1.2, ⟨hk.1.1.1.1.1.1.2, hk.1.1.1.1.2⟩⟩⟩⟩⟩⟩)⟩, ⟨by (with_reducible repeat (first | apply Kd.N_alloc | apply Kd.N_drewN | apply Kd.N_drew)); exact Kd.N_mono HO202.out (fun _ hk => ⟨hk.1.1.1.2, ⟨hk.1.1.2, ⟨hk.1.2, ⟨hk.2, ⟨hk.1.1.1.1.1.1, ⟨hk.1.1.1.1.1.2, hk.1.1.1.1.2⟩⟩⟩⟩⟩⟩)⟩, ⟨by (with_reducible repeat (first | refine blk_drewN ?_ _ | refine blk_drew ?_ | refine blk_alloc ?_ _)); exact BK197.out⟩, ⟨by (with_reducible repeat (first | refine blk_drewN ?_ _ | refine blk_drew ?_ | refine blk_alloc ?_ _)); exact BK204.out⟩, ⟨by repeat (first | (with_reducible first | exact HB.out | apply below_alloc | apply pw_below_drewN | apply below_drew1 | refine below_set ?_ GE197.out | refine below_set ?_ GE204.out) | exact HB.out)⟩⟩
            · rw [if_neg c32] at H
              have c32b0 : (t203 == 0) = false := beq_eq_false_iff_ne.mpr c32
              have c32b1 : (t203 != 0) = true := bne_iff_ne.mpr c32
              have H' := Aside0.mk H
              clear H
              go_wp2
              repeat (go_quiet (fail); try go_wp2)
              go_meet
              case rel => exact ⟨_, (true), (by first | rfl | (simp; done) | (simp [*]; done)), H', ⟨by have := HJ4.out; first | omega | exact Nat.le_refl _⟩, ⟨by (with_reducible repeat (first | apply Kd.R_alloc | apply Kd.R_drewN | apply Kd.R_drew)); exact Kd.R_mono HO207.out (fun _ hk => ⟨hk.1.1.2, ⟨hk.1.2, hk.2⟩⟩)⟩, ⟨by (with_reducible repeat (first | apply Kd.R_alloc | apply Kd.R_drewN | apply Kd.R_drew)); exact Kd.R_mono HO210.out (fun _ hk => ⟨hk.1.1.2, ⟨hk.1.2, hk.2⟩⟩)⟩, ⟨by (with_reducible repeat (first | apply Kd.R_alloc | apply Kd.R_drewN | apply Kd.R_drew)); exact Kd.R_mono HO213.out (fun _ hk => ⟨hk.1.1.2, ⟨hk.1.2, hk.2⟩⟩)⟩, ⟨by (with_reducible repeat (first | apply Kd.R_alloc | apply Kd.R_drewN | apply Kd.R_drew)); exact Kd.R_mono HO216.out (fun _ hk => ⟨hk.1.1.2, ⟨hk.1.2, hk.2⟩⟩)⟩, ⟨by (with_reducible repeat (first | apply Kd.N_alloc | apply Kd.N_drewN | apply Kd.N_drew)); exact Kd.N_mono HO195.out (fun _ hk => ⟨hk.1.1.1.2, ⟨hk.1.1.2, ⟨hk.1.2, ⟨hk.2, ⟨hk.1.1.1.1.1.2, ⟨hk.1.1.1.1.1.1.2, hk.1.1.1.1.2⟩⟩⟩⟩⟩⟩)⟩, ⟨by (with_reducible repeat (first | apply Kd.N_alloc | apply Kd.N_drewN | apply Kd.N_drew)); exact Kd.N_mono HO202.out (fun _ hk => ⟨hk.1.1.1.2, ⟨hk.1.1.2, ⟨hk.1.2, ⟨hk.2, ⟨hk.1.1.1.1.1.1, ⟨hk.1.1.1.1.1.2, hk.1.1.1.1.2⟩⟩⟩⟩⟩⟩)⟩, ⟨by (with_reducible repeat (first | refine blk_drewN ?_ _ | refine blk_drew ?_ | refine blk_alloc ?_ _)); exact BK197.out⟩, ⟨by (with_reducible repeat (first | refine blk_drewN ?_ _ | refine blk_drew ?_ | refine blk_alloc ?_ _)); exact BK204.out⟩, ⟨by repeat (first | (with_reducible first | exact HB.out | apply below_alloc | apply pw_below_drewN | apply below_drew1 | refine below_set ?_ GE197.out | refine below_set ?_ GE204.out) | exact HB.out)⟩⟩
          · rw [if_neg c31] at H
            have c31b0 : (t196 == 0) = false := beq_eq_false_iff_ne.mpr c31
            have c31b1 : (t196 != 0) = true := bne_iff_ne.mpr c31
            (first | rw [c31b0] | (simp only [i64_w, i32_w]; rw [c31b0]) | skip)
            have H' := Aside0.mk H
            clear H
            go_wp2
            repeat (go_quiet (fail); try go_wp2)
            go_meet
            case rel => exact ⟨_, (true), (by first | rfl | (simp; done) | (simp [*]; done)), H', ⟨by have := HJ4.out; first | omega | exact Nat.le_refl _⟩, ⟨by (with_reducible repeat (first | apply Kd.R_alloc | apply Kd.R_drewN | apply Kd.R_drew)); exact Kd.R_mono HO207.out (fun _ hk => ⟨hk.1.1.2, ⟨hk.1.2, hk.2⟩⟩)⟩, ⟨by (with_reducible repeat (first | apply Kd.R_alloc | apply Kd.R_drewN | apply Kd.R_drew)); exact Kd.R_mono HO210.out (fun _ hk => ⟨hk.1.1.2, ⟨hk.1.2, hk.2⟩⟩)⟩, ⟨by (with_reducible repeat (first | apply Kd.R_alloc | apply Kd.R_drewN | apply Kd.R_drew)); exact Kd.R_mono HO213.out (fun _ hk => ⟨hk.1.1.2, ⟨hk.1.2, hk.2⟩⟩)⟩, ⟨by (with_reducible repeat (first | apply Kd.R_alloc | apply Kd.R_drewN | apply Kd.R_drew)); exact Kd.R_mono HO216.out (fun _ hk => ⟨hk.1.1.2, ⟨hk.1.2, hk.2⟩⟩)⟩, ⟨by (with_reducible repeat (first | apply Kd.N_alloc | apply Kd.N_drewN | apply Kd.N_drew)); exact Kd.N_mono HO195.out (fun _ hk => ⟨hk.1.1.1.2, ⟨hk.1.1.2, ⟨hk.1.2, ⟨hk.2, ⟨hk.1.1.1.1.1.2, ⟨hk.1.1.1.1.1.1.2, hk.1.1.1.1.2⟩⟩⟩⟩⟩⟩)⟩, ⟨by (with_reducible repeat (first | apply Kd.N_alloc | apply Kd.N_drewN | apply Kd.N_drew)); exact Kd.N_mono HO202.out (fun _ hk => ⟨hk.1.1.1.2, ⟨hk.1.1.2, ⟨hk.1.2, ⟨hk.2, ⟨hk.1.1.1.1.1.1, ⟨hk.1.1.1.1.1.2, hk.1.1.1.1.2⟩⟩⟩⟩⟩⟩)⟩, ⟨by (with_reducible repeat (first | refine blk_drewN ?_ _ | refine blk_drew ?_ | refine blk_alloc ?_ _)); exact BK197.out⟩, ⟨by (with_reducible repeat (first | refine blk_drewN ?_ _ | refine blk_drew ?_ | refine blk_alloc ?_ _)); exact BK204.out⟩, ⟨by repeat (first | (with_reducible first | exact HB.out | apply below_alloc | apply pw_below_drewN | apply below_drew1 | refine below_set ?_ GE197.out | refine below_set ?_ GE204.out) | exact HB.out)⟩⟩
        case rest =>
          clear HC15
          try clear c2
          try clear p2
          try clear c3
          try clear c4
          try clear c5
          try clear c6
          try clear p6
          try clear c7
          try clear c7b0
          try clear c7b1
          try clear c8
          try clear c22
          try clear c31
          try clear c31b0
          try clear c31b1
          try clear c32
          try clear c32b0
          try clear c32b1
          try clear c33
          try clear c33b0
          try clear c33b1
          try clear c34
          try clear c34b0
          try clear c34b1
          try clear c35
          try clear c35b0
          try clear c35b1
          try clear c36
          try clear c36b0
          try clear c40
          try clear c42
          try clear c42b0
          try clear c46
          try clear c48
          try clear c48b0
          try clear c52
          try clear c58
          try clear p64
          try clear hcz18_0
          try clear hcz18_1
          try clear hcz18_2
          try clear hcz23_0
          try clear hcz23_1
          try clear hcz23_2
          try clear hcz25_0
          try clear hcz25_1
          try clear hcz25_2
          try clear hcz27_0
          try clear hcz27_1
          try clear hcz27_2
          try clear hcz41_0
          try clear hcz41_1
          try clear hcz41_2
          try clear hcz47_0
          try clear hcz47_1
          try clear hcz47_2
          try clear hcz53_0
          try clear hcz53_1
          try clear hcz53_2
          try clear hcz54_0
          try clear hcz54_1
          try clear hcz54_2
          try clear hcz59_0
          try clear hcz59_1
          try clear hcz59_2
          try clear hcz60_0
          try clear hcz60_1
          try clear hcz60_2
          try clear hfz18_0
          try clear hfz18_1
          try clear hfz18_2
          try clear hfz23_0
          try clear hfz23_1
          try clear hfz23_2
          try clear hfz25_0
          try clear hfz25_1
          try clear hfz25_2
          try clear hfz27_0
          try clear hfz27_1
          try clear hfz27_2
          try clear hfz41_0
          try clear hfz41_1
          try clear hfz41_2
          try clear hfz47_0
          try clear hfz47_1
          try clear hfz47_2
          try clear hfz53_0
          try clear hfz53_1
          try clear hfz53_2
          try clear hfz54_0
          try clear hfz54_1
          try clear hfz54_2
          try clear hfz59_0
          try clear hfz59_1
          try clear hfz59_2
          try clear hfz60_0
          try clear hfz60_1
          try clear hfz60_2
          try clear p2
          obtain ⟨kq, x90_14, rfl, HA, HJ14, HO_12, HO_13, HO_14, HO_15, HO_198002, HO_205002, BK197, BK204, HB⟩ := hcut
          cases kq with
          | zero => exact absurd HA.out (by simp [puncheonlaw16_ModelLists.j1])
          | succ kj14 =>
            have H := HA.out
            clear HA
            simp only [puncheonlaw16_ModelLists.j1] at H
            by_cases c67 : x90_14 = true
            · subst c67
              have H1 : (some false) = some r := by rw [if_pos rfl] at H; exact H
              clear H
              have H := H1
              clear H1
              obtain rfl := Option.some.inj H
              go_wp2
              repeat (go_quiet (fail); try go_wp2)
              go_ret
              exact ⟨by first | rfl | (simp [errW_none, errW_some] <;> rfl) | (simp [*, errW_none, errW_some] <;> rfl), by repeat (first | (with_reducible first | exact HB.out | apply below_alloc | apply pw_below_drewN | apply below_drew1 | refine below_set ?_ GE197.out | refine below_set ?_ GE204.out) | exact HB.out)⟩
            · replace c67 := Bool.eq_false_iff.mpr c67
              subst c67
              have H1 : (if 0 ≤ a2 then (if a2 < (t208.length : Int) then (if a2 < (t214.length : Int) then (if ((decide ((rd t208 a2) > 0)) != (decide ((rd t214 a2) > 0))) = true then (puncheonlaw16_ModelLists.j2 kj14 a2 t190 t205 t211 true t191 t192 t193) else ((hist_Total.f kj14 t208).bind fun t219 => (if 0 ≤ t198 then (puncheonlaw16_ModelLists.j2 kj14 a2 t190 t205 t211 (t219 != (shl .i64 1 t198)) t191 t192 t193) else (none)))) else (none)) else (none)) else (none)) = some r := by rw [if_neg (show ¬ (false = true) by decide)] at H; exact H
              clear H
              have H := H1
              clear H1
              have HC68 := Aside0.mk H
              clear H
              go_upto_region 12 with (fail)
              repeat (go_quiet (fail); go_upto_region 12 with (fail))
              go_cut [109] (fun v109 wc => ∃ (kq : Nat) (x109_67 : Bool), v109 = .bool x109_67 ∧ Aside0 (puncheonlaw16_ModelLists.j2 kq a2 t190 t205 t211 x109_67 t191 t192 t193 = some r) ∧ Aside0 (kq ≤ kj14) ∧ Aside0 (Kd.R (Kd.int .i64) 3 wc w.heap.size (fun k_ => some k_ ≠ (v212 : Value).ownBlock) v206 t205) ∧ Aside0 (Kd.R (Kd.int .i64) 3 wc w.heap.size (fun k_ => some k_ ≠ (v206 : Value).ownBlock) v212 t211) ∧ Aside0 (Kd.N (Kd.slice 3 (Kd.int .i64)) 29 wc w.heap.size (fun k_ => some k_ ≠ (v206 : Value).ownBlock ∧ some k_ ≠ (v212 : Value).ownBlock ∧ some k_ ≠ ((.slice Ao24 t200.length co24) : Value).ownBlock ∧ k_ ≠ gb197 ∧ k_ ≠ gb204) (.slice Ao19 t193.length co19) t193) ∧ Aside0 (Kd.N (Kd.slice 3 (Kd.int .i64)) 29 wc w.heap.size (fun k_ => some k_ ≠ (v206 : Value).ownBlock ∧ some k_ ≠ (v212 : Value).ownBlock ∧ some k_ ≠ ((.slice Ao19 t193.length co19) : Value).ownBlock ∧ k_ ≠ gb197 ∧ k_ ≠ gb204) (.slice Ao24 t200.length co24) t200) ∧ Aside0 (wc.heap[gb197]? = some (.cells #[.int .i64 t191, .bool t192, (.slice Ao19 t193.length co19)] 24 (0, 0))) ∧ Aside0 (wc.heap[gb204]? = some (.cells #[.int .i64 t198, .bool t199, (.slice Ao24 t200.length co24)] 24 (0, 0))) ∧ Aside0 (Below w.heap.size w wc))
              case first =>
                have H := HC68.out
                clear HC68
                by_cases c69 : 0 ≤ a2
                · rw [if_pos c69] at H
                  have c69b0 : decide (0 ≤ a2) = true := decide_eq_true c69
                  clear c69
                  (first | rw [c69b0] | (simp only [i64_w, i32_w]; rw [c69b0]) | skip)
                  by_cases c70 : a2 < (t208.length : Int)
                  · rw [if_pos c70] at H
                    have c70b0 : decide (a2 < (t208.length : Int)) = true := decide_eq_true c70
                    clear c70
                    by_cases c71 : a2 < (t214.length : Int)
                    · rw [if_pos c71] at H
                      have c71b0 : decide (a2 < (t214.length : Int)) = true := decide_eq_true c71
                      clear c71
                      by_cases c72 : ((decide ((rd t208 a2) > 0)) != (decide ((rd t214 a2) > 0))) = true
                      · rw [if_pos c72] at H
                        have c72b0 : ((decide ((rd t208 a2) > 0)) != (decide ((rd t214 a2) > 0))) = true := c72
                        (try (have c72b1 : decide ((decide ((rd t208 a2) > 0)) = (decide ((rd t214 a2) > 0))) = false := by simpa using c72))
                        (try (have c72b2 : ((decide ((rd t208 a2) > 0)) == (decide ((rd t214 a2) > 0))) = false := by simpa using c72))
                        (try (have c72b3 : ¬ ((decide ((rd t208 a2) > 0)) = (decide ((rd t214 a2) > 0))) := by simpa using c72))
                        clear c72
                        have H' := Aside0.mk H
                        clear H
                        obtain ⟨Ao73, co73, eo73⟩ := Kd.R_slice HO_13.out
                        subst eo73
                        have p217 : 0 ≤ (a2 : Int) := of_decide_eq_true (by first | (with_reducible assumption) | assumption)
                        have q217 : a2 < (t208.length : Int) := of_decide_eq_true (by first | (with_reducible assumption) | assumption)
                        obtain ⟨ad217, e217, hx217_0⟩ := Kd.at_int (Kd.R_reads' HO_13.out).2.2 a2 p217 q217
                        cases e217
                        replace p217 := eq_true p217
                        replace q217 := eq_true q217
                        obtain ⟨Ao74, co74, eo74⟩ := Kd.R_slice HO_15.out
                        subst eo74
                        have p218 : 0 ≤ (a2 : Int) := of_decide_eq_true (by first | (with_reducible assumption) | assumption)
                        have q218 : a2 < (t214.length : Int) := of_decide_eq_true (by first | (with_reducible assumption) | assumption)
                        obtain ⟨ad218, e218, hx218_0⟩ := Kd.at_int (Kd.R_reads' HO_15.out).2.2 a2 p218 q218
                        cases e218
                        replace p218 := eq_true p218
                        replace q218 := eq_true q218
                        go_wp2
                        repeat (go_quiet (fail); try go_wp2)
                        go_meet
                        case rel => exact ⟨_, (true), (by first | rfl | (simp; done) | (simp [*]; done)), H', ⟨by have := HJ4.out; have := HJ14.out; first | omega | exact Nat.le_refl _⟩, ⟨by (with_reducible repeat (first | apply Kd.R_alloc | apply Kd.R_drewN | apply Kd.R_drew)); exact Kd.R_mono HO_12.out (fun _ hk => hk.2.1)⟩, ⟨by (with_reducible repeat (first | apply Kd.R_alloc | apply Kd.R_drewN | apply Kd.R_drew)); exact Kd.R_mono HO_14.out (fun _ hk => hk.1)⟩, ⟨by (with_reducible repeat (first | apply Kd.N_alloc | apply Kd.N_drewN | apply Kd.N_drew)); exact Kd.N_mono HO_198002.out (fun _ hk => ⟨hk.1, ⟨hk.2.2.1, ⟨hk.2.2.2.2.1, ⟨hk.2.2.2.2.2.1, hk.2.2.2.2.2.2⟩⟩⟩⟩)⟩, ⟨by (with_reducible repeat (first | apply Kd.N_alloc | apply Kd.N_drewN | apply Kd.N_drew)); exact Kd.N_mono HO_205002.out (fun _ hk => ⟨hk.1, ⟨hk.2.2.1, ⟨hk.2.2.2.2.1, ⟨hk.2.2.2.2.2.1, hk.2.2.2.2.2.2⟩⟩⟩⟩)⟩, ⟨by (with_reducible repeat (first | refine blk_drewN ?_ _ | refine blk_drew ?_ | refine blk_alloc ?_ _)); exact BK197.out⟩, ⟨by (with_reducible repeat (first | refine blk_drewN ?_ _ | refine blk_drew ?_ | refine blk_alloc ?_ _)); exact BK204.out⟩, ⟨by repeat (first | (with_reducible first | exact HB.out | apply below_alloc | apply pw_below_drewN | apply below_drew1 | refine below_set ?_ GE197.out | refine below_set ?_ GE204.out) | exact HB.out)⟩⟩
                      · rw [if_neg c72] at H
                        have c72b0 : ((decide ((rd t208 a2) > 0)) != (decide ((rd t214 a2) > 0))) = false := by simpa using c72
                        (try (have c72b1 : decide ((decide ((rd t208 a2) > 0)) = (decide ((rd t214 a2) > 0))) = true := by simpa using c72))
                        (try (have c72b2 : ((decide ((rd t208 a2) > 0)) == (decide ((rd t214 a2) > 0))) = true := by simpa using c72))
                        clear c72
                        replace H := Option.bind_eq_some_iff.mp H
                        obtain ⟨t219, A750, H⟩ := H
                        replace H : (if 0 ≤ t198 then (puncheonlaw16_ModelLists.j2 kj14 a2 t190 t205 t211 (t219 != (shl .i64 1 t198)) t191 t192 t193) else (none)) = some r := H
                        have A75 := Aside0.mk A750
                        clear A750
                        by_cases c76 : 0 ≤ t198
                        · rw [if_pos c76] at H
                          have c76b0 := eq_true c76
                          have c76b1 : decide (0 ≤ t198) = true := decide_eq_true c76
                          clear c76
                          obtain ⟨ji77, hji77⟩ : ∃ j_ : Int, (shl .i64 1 t198) = j_ := ⟨_, rfl⟩
                          replace H : (puncheonlaw16_ModelLists.j2 kj14 a2 t190 t205 t211 (t219 != (ji77)) t191 t192 t193) = some r := by first | (rw [hji77] at H; exact H) | (simp only [hji77] at H ⊢; exact H)
                          (try rw [hji77] at A75)
                          have hji77_ : (IntKind.i64.wrap (1 * 2 ^ min t198.toNat 64)) = ji77 := hji77
                          have hji77z : t198 ≤ 64 → (IntKind.i64.wrap (1 * 2 ^ t198.toNat)) = ji77 := shl_small hji77
                          have hji77u : (IntKind.i64.wrap (2 ^ min t198.toNat 64)) = ji77 := by have h_ := hji77_; rw [Int.one_mul] at h_; exact h_
                          have hji77v : t198 ≤ 64 → (IntKind.i64.wrap (2 ^ t198.toNat)) = ji77 := fun hle_ => by have h_ := hji77z hle_; rw [Int.one_mul] at h_; exact h_
                          have hji77y : (wrap64 (1 * 2 ^ min t198.toNat 64)) = ji77 := (i64_w _).symm.trans hji77_
                          have hji77x : t198 ≤ 64 → (wrap64 (1 * 2 ^ t198.toNat)) = ji77 := fun h_ => (i64_w _).symm.trans (hji77z h_)
                          have H' := Aside0.mk H
                          clear H
                          obtain ⟨Ao78, co78, eo78⟩ := Kd.R_slice HO_13.out
                          subst eo78
                          have p217 : 0 ≤ (a2 : Int) := of_decide_eq_true (by first | (with_reducible assumption) | assumption)
                          have q217 : a2 < (t208.length : Int) := of_decide_eq_true (by first | (with_reducible assumption) | assumption)
                          obtain ⟨ad217, e217, hx217_0⟩ := Kd.at_int (Kd.R_reads' HO_13.out).2.2 a2 p217 q217
                          cases e217
                          replace p217 := eq_true p217
                          replace q217 := eq_true q217
                          obtain ⟨Ao79, co79, eo79⟩ := Kd.R_slice HO_15.out
                          subst eo79
                          have p218 : 0 ≤ (a2 : Int) := of_decide_eq_true (by first | (with_reducible assumption) | assumption)
                          have q218 : a2 < (t214.length : Int) := of_decide_eq_true (by first | (with_reducible assumption) | assumption)
                          obtain ⟨ad218, e218, hx218_0⟩ := Kd.at_int (Kd.R_reads' HO_15.out).2.2 a2 p218 q218
                          cases e218
                          replace p218 := eq_true p218
                          replace q218 := eq_true q218
                          go_wp2_with (first | (go_at_call 24; (with_reducible refine (hist_Total.calls kj14 _ _ t208 t219 _ ?side1 ?side2 A75.out).mono ?_); (case side1 => repeat (first | exact (Kd.R_reads' HO_13.out).2.2 | (with_reducible refine Kd.C_alloc ?_ _) | (with_reducible refine Kd.C_drewN ?_ _) | (with_reducible refine Kd.C_drew ?_))); (case side2 => exact (Kd.R_reads' HO_13.out).2.1); rintro e w' ⟨rfl, ⟨nd, rfl⟩⟩; (try first | exact ⟨rfl, _, World.drewN_drewN _ _ _⟩ | exact ⟨rfl, _, Eq.trans (World.drewN_drewN _ _ _) (congrArg (World.drewN _) (Nat.add_assoc _ _ _))⟩); have hnb80 := NB204_197.out; have hnc80 := NB197_204.out; have hcz81_0 : wc.cell? ⟨gb204, 0, none⟩ = some (.int .i64 t198) := (blk_cell BK204.out 0).trans rfl; have hcz81_1 : wc.cell? ⟨gb204, 1, none⟩ = some (.bool t199) := (blk_cell BK204.out 1).trans rfl; have hcz81_2 : wc.cell? ⟨gb204, 2, none⟩ = some (.slice Ao24 t200.length co24) := (blk_cell BK204.out 2).trans rfl; have hfz81_0 := blk_frozen BK204.out 0; have hfz81_1 := blk_frozen BK204.out 1; have hfz81_2 := blk_frozen BK204.out 2))
                          repeat (go_quiet (first | (go_at_call 24; (with_reducible refine (hist_Total.calls kj14 _ _ t208 t219 _ ?side1 ?side2 A75.out).mono ?_); (case side1 => repeat (first | exact (Kd.R_reads' HO_13.out).2.2 | (with_reducible refine Kd.C_alloc ?_ _) | (with_reducible refine Kd.C_drewN ?_ _) | (with_reducible refine Kd.C_drew ?_))); (case side2 => exact (Kd.R_reads' HO_13.out).2.1); rintro e w' ⟨rfl, ⟨nd, rfl⟩⟩; (try first | exact ⟨rfl, _, World.drewN_drewN _ _ _⟩ | exact ⟨rfl, _, Eq.trans (World.drewN_drewN _ _ _) (congrArg (World.drewN _) (Nat.add_assoc _ _ _))⟩); have hnb80 := NB204_197.out; have hnc80 := NB197_204.out; have hcz81_0 : wc.cell? ⟨gb204, 0, none⟩ = some (.int .i64 t198) := (blk_cell BK204.out 0).trans rfl; have hcz81_1 : wc.cell? ⟨gb204, 1, none⟩ = some (.bool t199) := (blk_cell BK204.out 1).trans rfl; have hcz81_2 : wc.cell? ⟨gb204, 2, none⟩ = some (.slice Ao24 t200.length co24) := (blk_cell BK204.out 2).trans rfl; have hfz81_0 := blk_frozen BK204.out 0; have hfz81_1 := blk_frozen BK204.out 1; have hfz81_2 := blk_frozen BK204.out 2)); try go_wp2_with (first | (go_at_call 24; (with_reducible refine (hist_Total.calls kj14 _ _ t208 t219 _ ?side1 ?side2 A75.out).mono ?_); (case side1 => repeat (first | exact (Kd.R_reads' HO_13.out).2.2 | (with_reducible refine Kd.C_alloc ?_ _) | (with_reducible refine Kd.C_drewN ?_ _) | (with_reducible refine Kd.C_drew ?_))); (case side2 => exact (Kd.R_reads' HO_13.out).2.1); rintro e w' ⟨rfl, ⟨nd, rfl⟩⟩; (try first | exact ⟨rfl, _, World.drewN_drewN _ _ _⟩ | exact ⟨rfl, _, Eq.trans (World.drewN_drewN _ _ _) (congrArg (World.drewN _) (Nat.add_assoc _ _ _))⟩); have hnb80 := NB204_197.out; have hnc80 := NB197_204.out; have hcz81_0 : wc.cell? ⟨gb204, 0, none⟩ = some (.int .i64 t198) := (blk_cell BK204.out 0).trans rfl; have hcz81_1 : wc.cell? ⟨gb204, 1, none⟩ = some (.bool t199) := (blk_cell BK204.out 1).trans rfl; have hcz81_2 : wc.cell? ⟨gb204, 2, none⟩ = some (.slice Ao24 t200.length co24) := (blk_cell BK204.out 2).trans rfl; have hfz81_0 := blk_frozen BK204.out 0; have hfz81_1 := blk_frozen BK204.out 1; have hfz81_2 := blk_frozen BK204.out 2)))
                          subst hji77
                          go_meet
                          case rel => exact ⟨_, ((t219 != ((shl .i64 1 t198)))), (by first | rfl | (simp; done) | (simp only [← hji77] <;> (first | rfl | simp)) | (simp [*]; done)), H', ⟨by have := HJ4.out; have := HJ14.out; first | omega | exact Nat.le_refl _⟩, ⟨by (with_reducible repeat (first | apply Kd.R_alloc | apply Kd.R_drewN | apply Kd.R_drew)); exact Kd.R_mono HO_12.out (fun _ hk => hk.2.1)⟩, ⟨by (with_reducible repeat (first | apply Kd.R_alloc | apply Kd.R_drewN | apply Kd.R_drew)); exact Kd.R_mono HO_14.out (fun _ hk => hk.1)⟩, ⟨by (with_reducible repeat (first | apply Kd.N_alloc | apply Kd.N_drewN | apply Kd.N_drew)); exact Kd.N_mono HO_198002.out (fun _ hk => ⟨hk.1, ⟨hk.2.2.1, ⟨hk.2.2.2.2.1, ⟨hk.2.2.2.2.2.1, hk.2.2.2.2.2.2⟩⟩⟩⟩)⟩, ⟨by (with_reducible repeat (first | apply Kd.N_alloc | apply Kd.N_drewN | apply Kd.N_drew)); exact Kd.N_mono HO_205002.out (fun _ hk => ⟨hk.1, ⟨hk.2.2.1, ⟨hk.2.2.2.2.1, ⟨hk.2.2.2.2.2.1, hk.2.2.2.2.2.2⟩⟩⟩⟩)⟩, ⟨by (with_reducible repeat (first | refine blk_drewN ?_ _ | refine blk_drew ?_ | refine blk_alloc ?_ _)); exact BK197.out⟩, ⟨by (with_reducible repeat (first | refine blk_drewN ?_ _ | refine blk_drew ?_ | refine blk_alloc ?_ _)); exact BK204.out⟩, ⟨by repeat (first | (with_reducible first | exact HB.out | apply below_alloc | apply pw_below_drewN | apply below_drew1 | refine below_set ?_ GE197.out | refine below_set ?_ GE204.out) | exact HB.out)⟩⟩
                        · rw [if_neg c76] at H
                          exact absurd H (by simp)
                    · rw [if_neg c71] at H
                      exact absurd H (by simp)
                  · rw [if_neg c70] at H
                    exact absurd H (by simp)
                · rw [if_neg c69] at H
                  exact absurd H (by simp)
              case rest =>
                clear HC68
                try clear c2
                try clear p2
                try clear q2
                try clear hx2
                try clear c3
                try clear c4
                try clear c5
                try clear c6
                try clear p6
                try clear c7
                try clear c7b0
                try clear c7b1
                try clear c8
                try clear p21
                try clear q21
                try clear hx21
                try clear c22
                try clear c31
                try clear c31b0
                try clear c31b1
                try clear c32
                try clear c32b0
                try clear c32b1
                try clear c33
                try clear c33b0
                try clear c33b1
                try clear c34
                try clear c34b0
                try clear c34b1
                try clear c35
                try clear c35b0
                try clear c35b1
                try clear c36
                try clear c36b0
                try clear c40
                try clear c42
                try clear c42b0
                try clear c46
                try clear c48
                try clear c48b0
                try clear c52
                try clear c58
                try clear p64
                try clear c67
                try clear c69
                try clear c69b0
                try clear c70
                try clear c70b0
                try clear c71
                try clear c71b0
                try clear c72
                try clear c72b0
                try clear c72b1
                try clear c72b2
                try clear c76
                try clear c76b0
                try clear c76b1
                try clear c80
                try clear hcz18_0
                try clear hcz18_1
                try clear hcz18_2
                try clear hcz23_0
                try clear hcz23_1
                try clear hcz23_2
                try clear hcz25_0
                try clear hcz25_1
                try clear hcz25_2
                try clear hcz27_0
                try clear hcz27_1
                try clear hcz27_2
                try clear hcz41_0
                try clear hcz41_1
                try clear hcz41_2
                try clear hcz47_0
                try clear hcz47_1
                try clear hcz47_2
                try clear hcz53_0
                try clear hcz53_1
                try clear hcz53_2
                try clear hcz54_0
                try clear hcz54_1
                try clear hcz54_2
                try clear hcz59_0
                try clear hcz59_1
                try clear hcz59_2
                try clear hcz60_0
                try clear hcz60_1
                try clear hcz60_2
                try clear hcz81_0
                try clear hcz81_1
                try clear hcz81_2
                try clear hfz18_0
                try clear hfz18_1
                try clear hfz18_2
                try clear hfz23_0
                try clear hfz23_1
                try clear hfz23_2
                try clear hfz25_0
                try clear hfz25_1
                try clear hfz25_2
                try clear hfz27_0
                try clear hfz27_1
                try clear hfz27_2
                try clear hfz41_0
                try clear hfz41_1
                try clear hfz41_2
                try clear hfz47_0
                try clear hfz47_1
                try clear hfz47_2
                try clear hfz53_0
                try clear hfz53_1
                try clear hfz53_2
                try clear hfz54_0
                try clear hfz54_1
                try clear hfz54_2
                try clear hfz59_0
                try clear hfz59_1
                try clear hfz59_2
                try clear hfz60_0
                try clear hfz60_1
                try clear hfz60_2
                try clear hfz81_0
                try clear hfz81_1
                try clear hfz81_2
                try clear hx217_0
                try clear hx218_0
                try clear p2
                try clear p217
                try clear p218
                try clear p6
                try clear p64
                try clear q217
                try clear q218
                obtain ⟨kq, x109_67, rfl, HA, HJ67, HO_12, HO_14, HO_198002, HO_205002, BK197, BK204, HB⟩ := hcut
                cases kq with
                | zero => exact absurd HA.out (by simp [puncheonlaw16_ModelLists.j2])
                | succ kj67 =>
                  have H := HA.out
                  clear HA
                  simp only [puncheonlaw16_ModelLists.j2] at H
                  by_cases c82 : x109_67 = true
                  · subst c82
                    have H1 : (some false) = some r := by rw [if_pos rfl] at H; exact H
                    clear H
                    have H := H1
                    clear H1
                    obtain rfl := Option.some.inj H
                    go_wp2
                    repeat (go_quiet (fail); try go_wp2)
                    go_ret
                    exact ⟨by first | rfl | (simp [errW_none, errW_some] <;> rfl) | (simp [*, errW_none, errW_some] <;> rfl), by repeat (first | (with_reducible first | exact HB.out | apply below_alloc | apply pw_below_drewN | apply below_drew1 | refine below_set ?_ GE197.out | refine below_set ?_ GE204.out) | exact HB.out)⟩
                  · replace c82 := Bool.eq_false_iff.mpr c82
                    subst c82
                    have H1 : ((hist_Total.f kj67 t211).bind fun t220 => (if t220 = 0 then (if t190 = true then (some ((t205.length : Int) == 0)) else (some false)) else (if (t205.length : Int) = 256 then (if t190 = true then (if 0 ≤ a2 then (if a2 < (t205.length : Int) then (if a2 < (t211.length : Int) then (if ((decide ((rd t205 a2) > 0)) == (decide ((rd t211 a2) > 0))) = true then ((hist_Total.f kj67 t205).bind fun t223 => (if 0 ≤ t191 then (some (t223 == (shl .i64 1 t191))) else (none))) else (some false)) else (none)) else (none)) else (none)) else (some false)) else (some false)))) = some r := by rw [if_neg (show ¬ (false = true) by decide)] at H; exact H
                    clear H
                    have H := H1
                    clear H1
                    replace H := Option.bind_eq_some_iff.mp H
                    obtain ⟨t220, A830, H⟩ := H
                    replace H : (if t220 = 0 then (if t190 = true then (some ((t205.length : Int) == 0)) else (some false)) else (if (t205.length : Int) = 256 then (if t190 = true then (if 0 ≤ a2 then (if a2 < (t205.length : Int) then (if a2 < (t211.length : Int) then (if ((decide ((rd t205 a2) > 0)) == (decide ((rd t211 a2) > 0))) = true then ((hist_Total.f kj67 t205).bind fun t223 => (if 0 ≤ t191 then (some (t223 == (shl .i64 1 t191))) else (none))) else (some false)) else (none)) else (none)) else (none)) else (some false)) else (some false))) = some r := H
                    have A83 := Aside0.mk A830
                    clear A830
                    by_cases c84 : t220 = 0
                    · rw [if_pos c84] at H
                      have c84b0 : (t220 == 0) = true := beq_iff_eq.mpr c84
                      have c84b1 : (t220 != 0) = false := bne_eq_false_iff_eq.mpr c84
                      clear c84
                      by_cases c85 : t190 = true
                      · subst c85
                        have H1 : (some ((t205.length : Int) == 0)) = some r := by rw [if_pos rfl] at H; exact H
                        clear H
                        have H := H1
                        clear H1
                        obtain rfl := Option.some.inj H
                        obtain ⟨Ao86, co86, eo86⟩ := Kd.R_slice HO_14.out
                        subst eo86
                        go_wp2_with (first | (go_at_call 24; (with_reducible refine (hist_Total.calls kj67 _ _ t211 t220 _ ?side1 ?side2 A83.out).mono ?_); (case side1 => repeat (first | exact (Kd.R_reads' HO_14.out).2.2 | (with_reducible refine Kd.C_alloc ?_ _) | (with_reducible refine Kd.C_drewN ?_ _) | (with_reducible refine Kd.C_drew ?_))); (case side2 => exact (Kd.R_reads' HO_14.out).2.1); rintro e w' ⟨rfl, ⟨nd, rfl⟩⟩; (try first | exact ⟨rfl, _, World.drewN_drewN _ _ _⟩ | exact ⟨rfl, _, Eq.trans (World.drewN_drewN _ _ _) (congrArg (World.drewN _) (Nat.add_assoc _ _ _))⟩); obtain ⟨Ao87, co87, eo87⟩ := Kd.R_slice HO_12.out; subst eo87))
                        repeat (go_quiet (first | (go_at_call 24; (with_reducible refine (hist_Total.calls kj67 _ _ t211 t220 _ ?side1 ?side2 A83.out).mono ?_); (case side1 => repeat (first | exact (Kd.R_reads' HO_14.out).2.2 | (with_reducible refine Kd.C_alloc ?_ _) | (with_reducible refine Kd.C_drewN ?_ _) | (with_reducible refine Kd.C_drew ?_))); (case side2 => exact (Kd.R_reads' HO_14.out).2.1); rintro e w' ⟨rfl, ⟨nd, rfl⟩⟩; (try first | exact ⟨rfl, _, World.drewN_drewN _ _ _⟩ | exact ⟨rfl, _, Eq.trans (World.drewN_drewN _ _ _) (congrArg (World.drewN _) (Nat.add_assoc _ _ _))⟩); obtain ⟨Ao87, co87, eo87⟩ := Kd.R_slice HO_12.out; subst eo87)); try go_wp2_with (first | (go_at_call 24; (with_reducible refine (hist_Total.calls kj67 _ _ t211 t220 _ ?side1 ?side2 A83.out).mono ?_); (case side1 => repeat (first | exact (Kd.R_reads' HO_14.out).2.2 | (with_reducible refine Kd.C_alloc ?_ _) | (with_reducible refine Kd.C_drewN ?_ _) | (with_reducible refine Kd.C_drew ?_))); (case side2 => exact (Kd.R_reads' HO_14.out).2.1); rintro e w' ⟨rfl, ⟨nd, rfl⟩⟩; (try first | exact ⟨rfl, _, World.drewN_drewN _ _ _⟩ | exact ⟨rfl, _, Eq.trans (World.drewN_drewN _ _ _) (congrArg (World.drewN _) (Nat.add_assoc _ _ _))⟩); obtain ⟨Ao87, co87, eo87⟩ := Kd.R_slice HO_12.out; subst eo87)))
                        go_ret
                        exact ⟨by first | rfl | (simp [errW_none, errW_some] <;> rfl) | (simp [*, errW_none, errW_some] <;> rfl), by repeat (first | (with_reducible first | exact HB.out | apply below_alloc | apply pw_below_drewN | apply below_drew1 | refine below_set ?_ GE197.out | refine below_set ?_ GE204.out) | exact HB.out)⟩
                      · replace c85 := Bool.eq_false_iff.mpr c85
                        subst c85
                        have H1 : (some false) = some r := by rw [if_neg (show ¬ (false = true) by decide)] at H; exact H
                        clear H
                        have H := H1
                        clear H1
                        obtain rfl := Option.some.inj H
                        obtain ⟨Ao88, co88, eo88⟩ := Kd.R_slice HO_14.out
                        subst eo88
                        go_wp2_with (first | (go_at_call 24; (with_reducible refine (hist_Total.calls kj67 _ _ t211 t220 _ ?side1 ?side2 A83.out).mono ?_); (case side1 => repeat (first | exact (Kd.R_reads' HO_14.out).2.2 | (with_reducible refine Kd.C_alloc ?_ _) | (with_reducible refine Kd.C_drewN ?_ _) | (with_reducible refine Kd.C_drew ?_))); (case side2 => exact (Kd.R_reads' HO_14.out).2.1); rintro e w' ⟨rfl, ⟨nd, rfl⟩⟩; (try first | exact ⟨rfl, _, World.drewN_drewN _ _ _⟩ | exact ⟨rfl, _, Eq.trans (World.drewN_drewN _ _ _) (congrArg (World.drewN _) (Nat.add_assoc _ _ _))⟩)))
                        repeat (go_quiet (first | (go_at_call 24; (with_reducible refine (hist_Total.calls kj67 _ _ t211 t220 _ ?side1 ?side2 A83.out).mono ?_); (case side1 => repeat (first | exact (Kd.R_reads' HO_14.out).2.2 | (with_reducible refine Kd.C_alloc ?_ _) | (with_reducible refine Kd.C_drewN ?_ _) | (with_reducible refine Kd.C_drew ?_))); (case side2 => exact (Kd.R_reads' HO_14.out).2.1); rintro e w' ⟨rfl, ⟨nd, rfl⟩⟩; (try first | exact ⟨rfl, _, World.drewN_drewN _ _ _⟩ | exact ⟨rfl, _, Eq.trans (World.drewN_drewN _ _ _) (congrArg (World.drewN _) (Nat.add_assoc _ _ _))⟩))); try go_wp2_with (first | (go_at_call 24; (with_reducible refine (hist_Total.calls kj67 _ _ t211 t220 _ ?side1 ?side2 A83.out).mono ?_); (case side1 => repeat (first | exact (Kd.R_reads' HO_14.out).2.2 | (with_reducible refine Kd.C_alloc ?_ _) | (with_reducible refine Kd.C_drewN ?_ _) | (with_reducible refine Kd.C_drew ?_))); (case side2 => exact (Kd.R_reads' HO_14.out).2.1); rintro e w' ⟨rfl, ⟨nd, rfl⟩⟩; (try first | exact ⟨rfl, _, World.drewN_drewN _ _ _⟩ | exact ⟨rfl, _, Eq.trans (World.drewN_drewN _ _ _) (congrArg (World.drewN _) (Nat.add_assoc _ _ _))⟩))))
                        go_ret
                        exact ⟨by first | rfl | (simp [errW_none, errW_some] <;> rfl) | (simp [*, errW_none, errW_some] <;> rfl), by repeat (first | (with_reducible first | exact HB.out | apply below_alloc | apply pw_below_drewN | apply below_drew1 | refine below_set ?_ GE197.out | refine below_set ?_ GE204.out) | exact HB.out)⟩
                    · rw [if_neg c84] at H
                      have c84b0 : (t220 == 0) = false := beq_eq_false_iff_ne.mpr c84
                      have c84b1 : (t220 != 0) = true := bne_iff_ne.mpr c84
                      by_cases c89 : (t205.length : Int) = 256
                      · rw [if_pos c89] at H
                        have c89b0 : ((t205.length : Int) == 256) = true := beq_iff_eq.mpr c89
                        have c89b1 : ((t205.length : Int) != 256) = false := bne_eq_false_iff_eq.mpr c89
                        clear c89
                        by_cases c90 : t190 = true
                        · subst c90
                          have H1 : (if 0 ≤ a2 then (if a2 < (t205.length : Int) then (if a2 < (t211.length : Int) then (if ((decide ((rd t205 a2) > 0)) == (decide ((rd t211 a2) > 0))) = true then ((hist_Total.f kj67 t205).bind fun t223 => (if 0 ≤ t191 then (some (t223 == (shl .i64 1 t191))) else (none))) else (some false)) else (none)) else (none)) else (none)) = some r := by rw [if_pos rfl] at H; exact H
                          clear H
                          have H := H1
                          clear H1
                          by_cases c91 : 0 ≤ a2
                          · rw [if_pos c91] at H
                            have c91b0 : decide (0 ≤ a2) = true := decide_eq_true c91
                            clear c91
                            by_cases c92 : a2 < (t205.length : Int)
                            · rw [if_pos c92] at H
                              have c92b0 : decide (a2 < (t205.length : Int)) = true := decide_eq_true c92
                              clear c92
                              by_cases c93 : a2 < (t211.length : Int)
                              · rw [if_pos c93] at H
                                have c93b0 : decide (a2 < (t211.length : Int)) = true := decide_eq_true c93
                                clear c93
                                by_cases c94 : ((decide ((rd t205 a2) > 0)) == (decide ((rd t211 a2) > 0))) = true
                                · rw [if_pos c94] at H
                                  have c94b0 : ((decide ((rd t205 a2) > 0)) == (decide ((rd t211 a2) > 0))) = true := c94
                                  (try (have c94b1 : decide ((decide ((rd t205 a2) > 0)) = (decide ((rd t211 a2) > 0))) = true := by simpa using c94))
                                  (try (have c94b2 : ((decide ((rd t205 a2) > 0)) == (decide ((rd t211 a2) > 0))) = true := by simpa using c94))
                                  clear c94
                                  replace H := Option.bind_eq_some_iff.mp H
                                  obtain ⟨t223, A950, H⟩ := H
                                  replace H : (if 0 ≤ t191 then (some (t223 == (shl .i64 1 t191))) else (none)) = some r := H
                                  have A95 := Aside0.mk A950
                                  clear A950
                                  by_cases c96 : 0 ≤ t191
                                  · rw [if_pos c96] at H
                                    have c96b0 := eq_true c96
                                    have c96b1 : decide (0 ≤ t191) = true := decide_eq_true c96
                                    clear c96
                                    obtain ⟨ji97, hji97⟩ : ∃ j_ : Int, (shl .i64 1 t191) = j_ := ⟨_, rfl⟩
                                    replace H : (some (t223 == (ji97))) = some r := by first | (rw [hji97] at H; exact H) | (simp only [hji97] at H ⊢; exact H)
                                    (try rw [hji97] at A83)
                                    (try rw [hji97] at A95)
                                    have hji97_ : (IntKind.i64.wrap (1 * 2 ^ min t191.toNat 64)) = ji97 := hji97
                                    have hji97z : t191 ≤ 64 → (IntKind.i64.wrap (1 * 2 ^ t191.toNat)) = ji97 := shl_small hji97
                                    have hji97u : (IntKind.i64.wrap (2 ^ min t191.toNat 64)) = ji97 := by have h_ := hji97_; rw [Int.one_mul] at h_; exact h_
                                    have hji97v : t191 ≤ 64 → (IntKind.i64.wrap (2 ^ t191.toNat)) = ji97 := fun hle_ => by have h_ := hji97z hle_; rw [Int.one_mul] at h_; exact h_
                                    have hji97y : (wrap64 (1 * 2 ^ min t191.toNat 64)) = ji97 := (i64_w _).symm.trans hji97_
                                    have hji97x : t191 ≤ 64 → (wrap64 (1 * 2 ^ t191.toNat)) = ji97 := fun h_ => (i64_w _).symm.trans (hji97z h_)
                                    obtain rfl := Option.some.inj H
                                    obtain ⟨Ao98, co98, eo98⟩ := Kd.R_slice HO_14.out
                                    subst eo98
                                    go_wp2_with (first | (go_at_call 24; (with_reducible refine (hist_Total.calls kj67 _ _ t211 t220 _ ?side1 ?side2 A83.out).mono ?_); (case side1 => repeat (first | exact (Kd.R_reads' HO_14.out).2.2 | (with_reducible refine Kd.C_alloc ?_ _) | (with_reducible refine Kd.C_drewN ?_ _) | (with_reducible refine Kd.C_drew ?_))); (case side2 => exact (Kd.R_reads' HO_14.out).2.1); rintro e w' ⟨rfl, ⟨nd, rfl⟩⟩; (try first | exact ⟨rfl, _, World.drewN_drewN _ _ _⟩ | exact ⟨rfl, _, Eq.trans (World.drewN_drewN _ _ _) (congrArg (World.drewN _) (Nat.add_assoc _ _ _))⟩); obtain ⟨Ao99, co99, eo99⟩ := Kd.R_slice HO_12.out; subst eo99; have p221 : 0 ≤ (a2 : Int) := of_decide_eq_true (by first | (with_reducible assumption) | assumption); have q221 : a2 < (t205.length : Int) := of_decide_eq_true (by first | (with_reducible assumption) | assumption); obtain ⟨ad221, e221, hx221_0⟩ := Kd.at_int (Kd.R_reads' HO_12.out).2.2 a2 p221 q221; cases e221; replace p221 := eq_true p221; replace q221 := eq_true q221; have p222 : 0 ≤ (a2 : Int) := of_decide_eq_true (by first | (with_reducible assumption) | assumption); have q222 : a2 < (t211.length : Int) := of_decide_eq_true (by first | (with_reducible assumption) | assumption); obtain ⟨ad222, e222, hx222_0⟩ := Kd.at_int (Kd.R_reads' HO_14.out).2.2 a2 p222 q222; cases e222; replace p222 := eq_true p222; replace q222 := eq_true q222) | (go_at_call 24; (with_reducible refine (hist_Total.calls kj67 _ _ t205 t223 _ ?side1 ?side2 A95.out).mono ?_); (case side1 => repeat (first | exact (Kd.R_reads' HO_12.out).2.2 | (with_reducible refine Kd.C_alloc ?_ _) | (with_reducible refine Kd.C_drewN ?_ _) | (with_reducible refine Kd.C_drew ?_))); (case side2 => exact (Kd.R_reads' HO_12.out).2.1); rintro e w' ⟨rfl, ⟨nd, rfl⟩⟩; (try first | exact ⟨rfl, _, World.drewN_drewN _ _ _⟩ | exact ⟨rfl, _, Eq.trans (World.drewN_drewN _ _ _) (congrArg (World.drewN _) (Nat.add_assoc _ _ _))⟩); have hnb100 := NB197_204.out; have hnc100 := NB204_197.out; have hcz101_0 : wc.cell? ⟨gb197, 0, none⟩ = some (.int .i64 t191) := (blk_cell BK197.out 0).trans rfl; have hcz101_1 : wc.cell? ⟨gb197, 1, none⟩ = some (.bool t192) := (blk_cell BK197.out 1).trans rfl; have hcz101_2 : wc.cell? ⟨gb197, 2, none⟩ = some (.slice Ao19 t193.length co19) := (blk_cell BK197.out 2).trans rfl; have hfz101_0 := blk_frozen BK197.out 0; have hfz101_1 := blk_frozen BK197.out 1; have hfz101_2 := blk_frozen BK197.out 2))
                                    repeat (go_quiet (first | (go_at_call 24; (with_reducible refine (hist_Total.calls kj67 _ _ t211 t220 _ ?side1 ?side2 A83.out).mono ?_); (case side1 => repeat (first | exact (Kd.R_reads' HO_14.out).2.2 | (with_reducible refine Kd.C_alloc ?_ _) | (with_reducible refine Kd.C_drewN ?_ _) | (with_reducible refine Kd.C_drew ?_))); (case side2 => exact (Kd.R_reads' HO_14.out).2.1); rintro e w' ⟨rfl, ⟨nd, rfl⟩⟩; (try first | exact ⟨rfl, _, World.drewN_drewN _ _ _⟩ | exact ⟨rfl, _, Eq.trans (World.drewN_drewN _ _ _) (congrArg (World.drewN _) (Nat.add_assoc _ _ _))⟩); obtain ⟨Ao99, co99, eo99⟩ := Kd.R_slice HO_12.out; subst eo99; have p221 : 0 ≤ (a2 : Int) := of_decide_eq_true (by first | (with_reducible assumption) | assumption); have q221 : a2 < (t205.length : Int) := of_decide_eq_true (by first | (with_reducible assumption) | assumption); obtain ⟨ad221, e221, hx221_0⟩ := Kd.at_int (Kd.R_reads' HO_12.out).2.2 a2 p221 q221; cases e221; replace p221 := eq_true p221; replace q221 := eq_true q221; have p222 : 0 ≤ (a2 : Int) := of_decide_eq_true (by first | (with_reducible assumption) | assumption); have q222 : a2 < (t211.length : Int) := of_decide_eq_true (by first | (with_reducible assumption) | assumption); obtain ⟨ad222, e222, hx222_0⟩ := Kd.at_int (Kd.R_reads' HO_14.out).2.2 a2 p222 q222; cases e222; replace p222 := eq_true p222; replace q222 := eq_true q222) | (go_at_call 24; (with_reducible refine (hist_Total.calls kj67 _ _ t205 t223 _ ?side1 ?side2 A95.out).mono ?_); (case side1 => repeat (first | exact (Kd.R_reads' HO_12.out).2.2 | (with_reducible refine Kd.C_alloc ?_ _) | (with_reducible refine Kd.C_drewN ?_ _) | (with_reducible refine Kd.C_drew ?_))); (case side2 => exact (Kd.R_reads' HO_12.out).2.1); rintro e w' ⟨rfl, ⟨nd, rfl⟩⟩; (try first | exact ⟨rfl, _, World.drewN_drewN _ _ _⟩ | exact ⟨rfl, _, Eq.trans (World.drewN_drewN _ _ _) (congrArg (World.drewN _) (Nat.add_assoc _ _ _))⟩); have hnb100 := NB197_204.out; have hnc100 := NB204_197.out; have hcz101_0 : wc.cell? ⟨gb197, 0, none⟩ = some (.int .i64 t191) := (blk_cell BK197.out 0).trans rfl; have hcz101_1 : wc.cell? ⟨gb197, 1, none⟩ = some (.bool t192) := (blk_cell BK197.out 1).trans rfl; have hcz101_2 : wc.cell? ⟨gb197, 2, none⟩ = some (.slice Ao19 t193.length co19) := (blk_cell BK197.out 2).trans rfl; have hfz101_0 := blk_frozen BK197.out 0; have hfz101_1 := blk_frozen BK197.out 1; have hfz101_2 := blk_frozen BK197.out 2)); try go_wp2_with (first | (go_at_call 24; (with_reducible refine (hist_Total.calls kj67 _ _ t211 t220 _ ?side1 ?side2 A83.out).mono ?_); (case side1 => repeat (first | exact (Kd.R_reads' HO_14.out).2.2 | (with_reducible refine Kd.C_alloc ?_ _) | (with_reducible refine Kd.C_drewN ?_ _) | (with_reducible refine Kd.C_drew ?_))); (case side2 => exact (Kd.R_reads' HO_14.out).2.1); rintro e w' ⟨rfl, ⟨nd, rfl⟩⟩; (try first | exact ⟨rfl, _, World.drewN_drewN _ _ _⟩ | exact ⟨rfl, _, Eq.trans (World.drewN_drewN _ _ _) (congrArg (World.drewN _) (Nat.add_assoc _ _ _))⟩); obtain ⟨Ao99, co99, eo99⟩ := Kd.R_slice HO_12.out; subst eo99; have p221 : 0 ≤ (a2 : Int) := of_decide_eq_true (by first | (with_reducible assumption) | assumption); have q221 : a2 < (t205.length : Int) := of_decide_eq_true (by first | (with_reducible assumption) | assumption); obtain ⟨ad221, e221, hx221_0⟩ := Kd.at_int (Kd.R_reads' HO_12.out).2.2 a2 p221 q221; cases e221; replace p221 := eq_true p221; replace q221 := eq_true q221; have p222 : 0 ≤ (a2 : Int) := of_decide_eq_true (by first | (with_reducible assumption) | assumption); have q222 : a2 < (t211.length : Int) := of_decide_eq_true (by first | (with_reducible assumption) | assumption); obtain ⟨ad222, e222, hx222_0⟩ := Kd.at_int (Kd.R_reads' HO_14.out).2.2 a2 p222 q222; cases e222; replace p222 := eq_true p222; replace q222 := eq_true q222) | (go_at_call 24; (with_reducible refine (hist_Total.calls kj67 _ _ t205 t223 _ ?side1 ?side2 A95.out).mono ?_); (case side1 => repeat (first | exact (Kd.R_reads' HO_12.out).2.2 | (with_reducible refine Kd.C_alloc ?_ _) | (with_reducible refine Kd.C_drewN ?_ _) | (with_reducible refine Kd.C_drew ?_))); (case side2 => exact (Kd.R_reads' HO_12.out).2.1); rintro e w' ⟨rfl, ⟨nd, rfl⟩⟩; (try first | exact ⟨rfl, _, World.drewN_drewN _ _ _⟩ | exact ⟨rfl, _, Eq.trans (World.drewN_drewN _ _ _) (congrArg (World.drewN _) (Nat.add_assoc _ _ _))⟩); have hnb100 := NB197_204.out; have hnc100 := NB204_197.out; have hcz101_0 : wc.cell? ⟨gb197, 0, none⟩ = some (.int .i64 t191) := (blk_cell BK197.out 0).trans rfl; have hcz101_1 : wc.cell? ⟨gb197, 1, none⟩ = some (.bool t192) := (blk_cell BK197.out 1).trans rfl; have hcz101_2 : wc.cell? ⟨gb197, 2, none⟩ = some (.slice Ao19 t193.length co19) := (blk_cell BK197.out 2).trans rfl; have hfz101_0 := blk_frozen BK197.out 0; have hfz101_1 := blk_frozen BK197.out 1; have hfz101_2 := blk_frozen BK197.out 2)))
                                    go_ret
                                    exact ⟨by first | rfl | (simp [errW_none, errW_some] <;> rfl) | (simp only [← hji97]; first | rfl | (simp [errW_none, errW_some] <;> rfl)) | (simp [*, errW_none, errW_some] <;> rfl), by repeat (first | (with_reducible first | exact HB.out | apply below_alloc | apply pw_below_drewN | apply below_drew1 | refine below_set ?_ GE197.out | refine below_set ?_ GE204.out) | exact HB.out)⟩
                                  · rw [if_neg c96] at H
                                    exact absurd H (by simp)
                                · rw [if_neg c94] at H
                                  have c94b0 : ((decide ((rd t205 a2) > 0)) == (decide ((rd t211 a2) > 0))) = false := by simpa using c94
                                  (try (have c94b1 : decide ((decide ((rd t205 a2) > 0)) = (decide ((rd t211 a2) > 0))) = false := by simpa using c94))
                                  (try (have c94b2 : ((decide ((rd t205 a2) > 0)) == (decide ((rd t211 a2) > 0))) = false := by simpa using c94))
                                  (try (have c94b3 : ¬ ((decide ((rd t205 a2) > 0)) = (decide ((rd t211 a2) > 0))) := by simpa using c94))
                                  clear c94
                                  obtain rfl := Option.some.inj H
                                  obtain ⟨Ao102, co102, eo102⟩ := Kd.R_slice HO_14.out
                                  subst eo102
                                  go_wp2_with (first | (go_at_call 24; (with_reducible refine (hist_Total.calls kj67 _ _ t211 t220 _ ?side1 ?side2 A83.out).mono ?_); (case side1 => repeat (first | exact (Kd.R_reads' HO_14.out).2.2 | (with_reducible refine Kd.C_alloc ?_ _) | (with_reducible refine Kd.C_drewN ?_ _) | (with_reducible refine Kd.C_drew ?_))); (case side2 => exact (Kd.R_reads' HO_14.out).2.1); rintro e w' ⟨rfl, ⟨nd, rfl⟩⟩; (try first | exact ⟨rfl, _, World.drewN_drewN _ _ _⟩ | exact ⟨rfl, _, Eq.trans (World.drewN_drewN _ _ _) (congrArg (World.drewN _) (Nat.add_assoc _ _ _))⟩); obtain ⟨Ao103, co103, eo103⟩ := Kd.R_slice HO_12.out; subst eo103; have p221 : 0 ≤ (a2 : Int) := of_decide_eq_true (by first | (with_reducible assumption) | assumption); have q221 : a2 < (t205.length : Int) := of_decide_eq_true (by first | (with_reducible assumption) | assumption); obtain ⟨ad221, e221, hx221_0⟩ := Kd.at_int (Kd.R_reads' HO_12.out).2.2 a2 p221 q221; cases e221; replace p221 := eq_true p221; replace q221 := eq_true q221; have p222 : 0 ≤ (a2 : Int) := of_decide_eq_true (by first | (with_reducible assumption) | assumption); have q222 : a2 < (t211.length : Int) := of_decide_eq_true (by first | (with_reducible assumption) | assumption); obtain ⟨ad222, e222, hx222_0⟩ := Kd.at_int (Kd.R_reads' HO_14.out).2.2 a2 p222 q222; cases e222; replace p222 := eq_true p222; replace q222 := eq_true q222))
                                  repeat (go_quiet (first | (go_at_call 24; (with_reducible refine (hist_Total.calls kj67 _ _ t211 t220 _ ?side1 ?side2 A83.out).mono ?_); (case side1 => repeat (first | exact (Kd.R_reads' HO_14.out).2.2 | (with_reducible refine Kd.C_alloc ?_ _) | (with_reducible refine Kd.C_drewN ?_ _) | (with_reducible refine Kd.C_drew ?_))); (case side2 => exact (Kd.R_reads' HO_14.out).2.1); rintro e w' ⟨rfl, ⟨nd, rfl⟩⟩; (try first | exact ⟨rfl, _, World.drewN_drewN _ _ _⟩ | exact ⟨rfl, _, Eq.trans (World.drewN_drewN _ _ _) (congrArg (World.drewN _) (Nat.add_assoc _ _ _))⟩); obtain ⟨Ao103, co103, eo103⟩ := Kd.R_slice HO_12.out; subst eo103; have p221 : 0 ≤ (a2 : Int) := of_decide_eq_true (by first | (with_reducible assumption) | assumption); have q221 : a2 < (t205.length : Int) := of_decide_eq_true (by first | (with_reducible assumption) | assumption); obtain ⟨ad221, e221, hx221_0⟩ := Kd.at_int (Kd.R_reads' HO_12.out).2.2 a2 p221 q221; cases e221; replace p221 := eq_true p221; replace q221 := eq_true q221; have p222 : 0 ≤ (a2 : Int) := of_decide_eq_true (by first | (with_reducible assumption) | assumption); have q222 : a2 < (t211.length : Int) := of_decide_eq_true (by first | (with_reducible assumption) | assumption); obtain ⟨ad222, e222, hx222_0⟩ := Kd.at_int (Kd.R_reads' HO_14.out).2.2 a2 p222 q222; cases e222; replace p222 := eq_true p222; replace q222 := eq_true q222)); try go_wp2_with (first | (go_at_call 24; (with_reducible refine (hist_Total.calls kj67 _ _ t211 t220 _ ?side1 ?side2 A83.out).mono ?_); (case side1 => repeat (first | exact (Kd.R_reads' HO_14.out).2.2 | (with_reducible refine Kd.C_alloc ?_ _) | (with_reducible refine Kd.C_drewN ?_ _) | (with_reducible refine Kd.C_drew ?_))); (case side2 => exact (Kd.R_reads' HO_14.out).2.1); rintro e w' ⟨rfl, ⟨nd, rfl⟩⟩; (try first | exact ⟨rfl, _, World.drewN_drewN _ _ _⟩ | exact ⟨rfl, _, Eq.trans (World.drewN_drewN _ _ _) (congrArg (World.drewN _) (Nat.add_assoc _ _ _))⟩); obtain ⟨Ao103, co103, eo103⟩ := Kd.R_slice HO_12.out; subst eo103; have p221 : 0 ≤ (a2 : Int) := of_decide_eq_true (by first | (with_reducible assumption) | assumption); have q221 : a2 < (t205.length : Int) := of_decide_eq_true (by first | (with_reducible assumption) | assumption); obtain ⟨ad221, e221, hx221_0⟩ := Kd.at_int (Kd.R_reads' HO_12.out).2.2 a2 p221 q221; cases e221; replace p221 := eq_true p221; replace q221 := eq_true q221; have p222 : 0 ≤ (a2 : Int) := of_decide_eq_true (by first | (with_reducible assumption) | assumption); have q222 : a2 < (t211.length : Int) := of_decide_eq_true (by first | (with_reducible assumption) | assumption); obtain ⟨ad222, e222, hx222_0⟩ := Kd.at_int (Kd.R_reads' HO_14.out).2.2 a2 p222 q222; cases e222; replace p222 := eq_true p222; replace q222 := eq_true q222)))
                                  go_ret
                                  exact ⟨by first | rfl | (simp [errW_none, errW_some] <;> rfl) | (simp [*, errW_none, errW_some] <;> rfl), by repeat (first | (with_reducible first | exact HB.out | apply below_alloc | apply pw_below_drewN | apply below_drew1 | refine below_set ?_ GE197.out | refine below_set ?_ GE204.out) | exact HB.out)⟩
                              · rw [if_neg c93] at H
                                exact absurd H (by simp)
                            · rw [if_neg c92] at H
                              exact absurd H (by simp)
                          · rw [if_neg c91] at H
                            exact absurd H (by simp)
                        · replace c90 := Bool.eq_false_iff.mpr c90
                          subst c90
                          have H1 : (some false) = some r := by rw [if_neg (show ¬ (false = true) by decide)] at H; exact H
                          clear H
                          have H := H1
                          clear H1
                          obtain rfl := Option.some.inj H
                          obtain ⟨Ao104, co104, eo104⟩ := Kd.R_slice HO_14.out
                          subst eo104
                          go_wp2_with (first | (go_at_call 24; (with_reducible refine (hist_Total.calls kj67 _ _ t211 t220 _ ?side1 ?side2 A83.out).mono ?_); (case side1 => repeat (first | exact (Kd.R_reads' HO_14.out).2.2 | (with_reducible refine Kd.C_alloc ?_ _) | (with_reducible refine Kd.C_drewN ?_ _) | (with_reducible refine Kd.C_drew ?_))); (case side2 => exact (Kd.R_reads' HO_14.out).2.1); rintro e w' ⟨rfl, ⟨nd, rfl⟩⟩; (try first | exact ⟨rfl, _, World.drewN_drewN _ _ _⟩ | exact ⟨rfl, _, Eq.trans (World.drewN_drewN _ _ _) (congrArg (World.drewN _) (Nat.add_assoc _ _ _))⟩); obtain ⟨Ao105, co105, eo105⟩ := Kd.R_slice HO_12.out; subst eo105))
                          repeat (go_quiet (first | (go_at_call 24; (with_reducible refine (hist_Total.calls kj67 _ _ t211 t220 _ ?side1 ?side2 A83.out).mono ?_); (case side1 => repeat (first | exact (Kd.R_reads' HO_14.out).2.2 | (with_reducible refine Kd.C_alloc ?_ _) | (with_reducible refine Kd.C_drewN ?_ _) | (with_reducible refine Kd.C_drew ?_))); (case side2 => exact (Kd.R_reads' HO_14.out).2.1); rintro e w' ⟨rfl, ⟨nd, rfl⟩⟩; (try first | exact ⟨rfl, _, World.drewN_drewN _ _ _⟩ | exact ⟨rfl, _, Eq.trans (World.drewN_drewN _ _ _) (congrArg (World.drewN _) (Nat.add_assoc _ _ _))⟩); obtain ⟨Ao105, co105, eo105⟩ := Kd.R_slice HO_12.out; subst eo105)); try go_wp2_with (first | (go_at_call 24; (with_reducible refine (hist_Total.calls kj67 _ _ t211 t220 _ ?side1 ?side2 A83.out).mono ?_); (case side1 => repeat (first | exact (Kd.R_reads' HO_14.out).2.2 | (with_reducible refine Kd.C_alloc ?_ _) | (with_reducible refine Kd.C_drewN ?_ _) | (with_reducible refine Kd.C_drew ?_))); (case side2 => exact (Kd.R_reads' HO_14.out).2.1); rintro e w' ⟨rfl, ⟨nd, rfl⟩⟩; (try first | exact ⟨rfl, _, World.drewN_drewN _ _ _⟩ | exact ⟨rfl, _, Eq.trans (World.drewN_drewN _ _ _) (congrArg (World.drewN _) (Nat.add_assoc _ _ _))⟩); obtain ⟨Ao105, co105, eo105⟩ := Kd.R_slice HO_12.out; subst eo105)))
                          go_ret
                          exact ⟨by first | rfl | (simp [errW_none, errW_some] <;> rfl) | (simp [*, errW_none, errW_some] <;> rfl), by repeat (first | (with_reducible first | exact HB.out | apply below_alloc | apply pw_below_drewN | apply below_drew1 | refine below_set ?_ GE197.out | refine below_set ?_ GE204.out) | exact HB.out)⟩
                      · rw [if_neg c89] at H
                        have c89b0 : ((t205.length : Int) == 256) = false := beq_eq_false_iff_ne.mpr c89
                        have c89b1 : ((t205.length : Int) != 256) = true := bne_iff_ne.mpr c89
                        obtain rfl := Option.some.inj H
                        obtain ⟨Ao106, co106, eo106⟩ := Kd.R_slice HO_14.out
                        subst eo106
                        go_wp2_with (first | (go_at_call 24; (with_reducible refine (hist_Total.calls kj67 _ _ t211 t220 _ ?side1 ?side2 A83.out).mono ?_); (case side1 => repeat (first | exact (Kd.R_reads' HO_14.out).2.2 | (with_reducible refine Kd.C_alloc ?_ _) | (with_reducible refine Kd.C_drewN ?_ _) | (with_reducible refine Kd.C_drew ?_))); (case side2 => exact (Kd.R_reads' HO_14.out).2.1); rintro e w' ⟨rfl, ⟨nd, rfl⟩⟩; (try first | exact ⟨rfl, _, World.drewN_drewN _ _ _⟩ | exact ⟨rfl, _, Eq.trans (World.drewN_drewN _ _ _) (congrArg (World.drewN _) (Nat.add_assoc _ _ _))⟩); obtain ⟨Ao107, co107, eo107⟩ := Kd.R_slice HO_12.out; subst eo107))
                        repeat (go_quiet (first | (go_at_call 24; (with_reducible refine (hist_Total.calls kj67 _ _ t211 t220 _ ?side1 ?side2 A83.out).mono ?_); (case side1 => repeat (first | exact (Kd.R_reads' HO_14.out).2.2 | (with_reducible refine Kd.C_alloc ?_ _) | (with_reducible refine Kd.C_drewN ?_ _) | (with_reducible refine Kd.C_drew ?_))); (case side2 => exact (Kd.R_reads' HO_14.out).2.1); rintro e w' ⟨rfl, ⟨nd, rfl⟩⟩; (try first | exact ⟨rfl, _, World.drewN_drewN _ _ _⟩ | exact ⟨rfl, _, Eq.trans (World.drewN_drewN _ _ _) (congrArg (World.drewN _) (Nat.add_assoc _ _ _))⟩); obtain ⟨Ao107, co107, eo107⟩ := Kd.R_slice HO_12.out; subst eo107)); try go_wp2_with (first | (go_at_call 24; (with_reducible refine (hist_Total.calls kj67 _ _ t211 t220 _ ?side1 ?side2 A83.out).mono ?_); (case side1 => repeat (first | exact (Kd.R_reads' HO_14.out).2.2 | (with_reducible refine Kd.C_alloc ?_ _) | (with_reducible refine Kd.C_drewN ?_ _) | (with_reducible refine Kd.C_drew ?_))); (case side2 => exact (Kd.R_reads' HO_14.out).2.1); rintro e w' ⟨rfl, ⟨nd, rfl⟩⟩; (try first | exact ⟨rfl, _, World.drewN_drewN _ _ _⟩ | exact ⟨rfl, _, Eq.trans (World.drewN_drewN _ _ _) (congrArg (World.drewN _) (Nat.add_assoc _ _ _))⟩); obtain ⟨Ao107, co107, eo107⟩ := Kd.R_slice HO_12.out; subst eo107)))
                        go_ret
                        exact ⟨by first | rfl | (simp [errW_none, errW_some] <;> rfl) | (simp [*, errW_none, errW_some] <;> rfl), by repeat (first | (with_reducible first | exact HB.out | apply below_alloc | apply pw_below_drewN | apply below_drew1 | refine below_set ?_ GE197.out | refine below_set ?_ GE204.out) | exact HB.out)⟩

/-- THE ONE PURE STATEMENT of puncheonlaw16_ModelLists: yours. -/
def puncheonlaw16_ModelLists.Pure : Prop := ∀ (l0 : List Int) (a1 : Int) (a2 : Int), l0.length ≤ maxLen → l0.length * 1 ≤ 140737488351232 → (∀ x ∈ l0, (Lit.int .u8 x).wf = true) → (Lit.int .u8 a1).wf = true → (Lit.int .u8 a2).wf = true → ∃ k, puncheonlaw16_ModelLists.f k l0 a1 a2 = some true
theorem puncheonlaw16_ModelLists.walk (P : puncheonlaw16_ModelLists.Pure) (a0 : Option Addr) (len0 cap0 : Nat) (z0 : List Int) (a1 : Int) (a2 : Int) (w : World) (w0 : (a0 = none ∧ len0 = 0 ∧ cap0 = 0 ∧ z0 = []) ∨ ∃ x, a0 = some x ∧ len0 ≤ cap0 ∧ cap0 ≤ maxLen ∧ z0.length = cap0 ∧ (∀ i, i < z0.length → w.cell? (x.add i) = some (.int .u8 (z0.getD i 0))) ∧ ∀ n ∈ z0, (Lit.int .u8 n).wf = true) (y0 : len0 * 1 ≤ 140737488351232) (w1 : (Lit.int .u8 a1).wf = true) (w2 : (Lit.int .u8 a2).wf = true) :
    Calls Try.prog 6 #[.slice a0 len0 cap0, .int .u8 a1, .int .u8 a2] w fun e w' => e = .returned (.bool true) ∧ Below w.heap.size w w' := by
  obtain ⟨l0, rfl, hr0, hm0, hw0, hc0⟩ := ReadsInt.ofRowC w0
  obtain ⟨k, h⟩ := P l0 a1 a2 hm0 y0 hw0 w1 w2
  refine (puncheonlaw16_ModelLists.calls k _ _ l0 a1 a2 true w (Kd.C_of_reads (d := (0 : Int)) (h1 := fun _ => rfl) hr0) hc0 h).mono ?_
  rintro e w' ⟨rfl, hd⟩
  exact ⟨rfl, hd⟩

end Go.Proofs.Ytcffmmdgjifaaaa.PPr
