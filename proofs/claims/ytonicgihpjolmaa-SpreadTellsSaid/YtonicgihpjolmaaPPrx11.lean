/- The machine's side of this seat's laws: what each function computes, and that its call computes it; written by a program (pr.py over the kit's print.py). -/
import Derived.Test.YtonicgihpjolmaaPPrx0
import Derived.Test.YtonicgihpjolmaaPPrx5
import Derived.Test.YtonicgihpjolmaaPPrx6
import Derived.Test.YtonicgihpjolmaaPPrx8
import Derived.Test.YtonicgihpjolmaaPPrx10
namespace Go.Proofs.Ytonicgihpjolmaa.PPr
open Go.RowKit Go.Proofs.YtonicgihpjolmaaW.PrintWords Go.Proofs.YtonicgihpjolmaaW.PrintLast Go.Proofs.YtonicgihpjolmaaW.PrintMore
attribute [local go_sem] max2_int min2_int max_two min_two max_three min_three max_four min_four   -- for this text's walks alone
set_option linter.unusedVariables false
set_option linter.unusedSimpArgs false

/-! ### puncheonref08_Some: function 15 -/
mutual
def puncheonref08_Some.j0 : Nat → Int → List Int → Option (List Int × Int)
  | 0, _, _ => none
  | k + 1, x1, x6 => puncheonref08_Some.l0 k x6 (wrap64 (5 + (wrap64 (Int.tmod x1 5))))
def puncheonref08_Some.l0 : Nat → List Int → Int → Option (List Int × Int)
  | 0, _, _ => none
  | k + 1, x6, x7 => (puncheonref08_power.f k x7).bind fun t246 => ((puncheonref05_Many.f k x6).bind fun t247 => (if t246 < t247 then (puncheonref08_Some.l0 k x6 (wrap64 (x7 + 1))) else ((puncheonref08_Counts.f k x6 x7).bind fun bt248 => (some (bt248.1, x7)))))
end
def puncheonref08_Some.f (k : Nat) (l0 : List Int) (a1 : Int) : Option (List Int × Int) := (puncheonref05_Some.f k l0).bind fun t241 => ((puncheonref05_Total.f k t241).bind fun t244 => (if t244 = 0 then (if 7 < (t241.length : Int) then (puncheonref08_Some.j0 k a1 (t241.set (7 : Int).toNat 1)) else (none)) else (puncheonref08_Some.j0 k a1 t241)))
theorem puncheonref08_Some.mono_l : ∀ k, (∀ y0 y1, LeO (puncheonref08_Some.j0 k y0 y1) (puncheonref08_Some.j0 (k + 1) y0 y1)) ∧ (∀ y0 y1, LeO (puncheonref08_Some.l0 k y0 y1) (puncheonref08_Some.l0 (k + 1) y0 y1))
  | 0 => ⟨fun _ _ r h => by simp [puncheonref08_Some.j0] at h, fun _ _ r h => by simp [puncheonref08_Some.l0] at h⟩
  | k + 1 => by
    obtain ⟨ih0, ih1⟩ := puncheonref08_Some.mono_l k
    refine ⟨?_, ?_⟩
    · intro y0 y1
      unfold puncheonref08_Some.j0
      repeat' first
      | (with_reducible exact ih0 _ _)
      | (with_reducible exact ih1 _ _)
      | (with_reducible exact puncheonref05_Many.mono _ _)
      | (with_reducible exact puncheonref05_Some.mono _ _)
      | (with_reducible exact puncheonref05_Total.mono _ _)
      | (with_reducible exact puncheonref08_Counts.mono _ _ _)
      | (with_reducible exact puncheonref08_power.mono _ _)
      | (with_reducible exact LeO.refl _)
      | (with_reducible exact LeO.none _)
      | (with_reducible refine LeO.ite ?_ ?_)
      | (with_reducible refine LeO.bind ?_ (fun _ => ?_))
      | exact ih0 _ _
      | exact ih1 _ _
      | exact puncheonref05_Many.mono _ _
      | exact puncheonref05_Some.mono _ _
      | exact puncheonref05_Total.mono _ _
      | exact puncheonref08_Counts.mono _ _ _
      | exact puncheonref08_power.mono _ _
      | exact LeO.none _
      | refine LeO.ite ?_ ?_
      | refine LeO.bind ?_ (fun _ => ?_)
    · intro y0 y1
      unfold puncheonref08_Some.l0
      repeat' first
      | (with_reducible exact ih0 _ _)
      | (with_reducible exact ih1 _ _)
      | (with_reducible exact puncheonref05_Many.mono _ _)
      | (with_reducible exact puncheonref05_Some.mono _ _)
      | (with_reducible exact puncheonref05_Total.mono _ _)
      | (with_reducible exact puncheonref08_Counts.mono _ _ _)
      | (with_reducible exact puncheonref08_power.mono _ _)
      | (with_reducible exact LeO.refl _)
      | (with_reducible exact LeO.none _)
      | (with_reducible refine LeO.ite ?_ ?_)
      | (with_reducible refine LeO.bind ?_ (fun _ => ?_))
      | exact ih0 _ _
      | exact ih1 _ _
      | exact puncheonref05_Many.mono _ _
      | exact puncheonref05_Some.mono _ _
      | exact puncheonref05_Total.mono _ _
      | exact puncheonref08_Counts.mono _ _ _
      | exact puncheonref08_power.mono _ _
      | exact LeO.none _
      | refine LeO.ite ?_ ?_
      | refine LeO.bind ?_ (fun _ => ?_)
theorem puncheonref08_Some.mono : ∀ a0 a1 k, LeO (puncheonref08_Some.f k a0 a1) (puncheonref08_Some.f (k + 1) a0 a1) := by
  intro a0 a1 k
  obtain ⟨ih0, ih1⟩ := puncheonref08_Some.mono_l k
  unfold puncheonref08_Some.f
  repeat' first
      | (with_reducible exact ih0 _ _)
      | (with_reducible exact ih1 _ _)
      | (with_reducible exact puncheonref05_Many.mono _ _)
      | (with_reducible exact puncheonref05_Some.mono _ _)
      | (with_reducible exact puncheonref05_Total.mono _ _)
      | (with_reducible exact puncheonref08_Counts.mono _ _ _)
      | (with_reducible exact puncheonref08_power.mono _ _)
      | (with_reducible exact LeO.refl _)
      | (with_reducible exact LeO.none _)
      | (with_reducible refine LeO.ite ?_ ?_)
      | (with_reducible refine LeO.bind ?_ (fun _ => ?_))
      | exact ih0 _ _
      | exact ih1 _ _
      | exact puncheonref05_Many.mono _ _
      | exact puncheonref05_Some.mono _ _
      | exact puncheonref05_Total.mono _ _
      | exact puncheonref08_Counts.mono _ _ _
      | exact puncheonref08_power.mono _ _
      | exact LeO.none _
      | refine LeO.ite ?_ ?_
      | refine LeO.bind ?_ (fun _ => ?_)
set_option maxHeartbeats 8000000 in
set_option maxRecDepth 100000 in
theorem puncheonref08_Some.calls (k : Nat) (A0 : Option Addr) (c0 : Nat) (l0 : List Int) (a1 : Int) (r1 : List Int) (r2 : Int) (w : World) (hr0 : Kd.C (Kd.int .u16) w A0 l0.length l0) (hc0 : l0.length ≤ c0) (h : puncheonref08_Some.f k l0 a1 = some (r1, r2)) :
    Calls Try.prog 15 #[.slice A0 l0.length c0, .int .u8 a1] w fun e w' => ∃ v0_ : Value, e = .returned (.tuple #[v0_, .int .i64 r2]) ∧ Kd.R (Kd.int .i64) 3 w' w.heap.size (fun _ => True) v0_ r1 ∧ Below w.heap.size w w' := by
  have HR0 := Aside0.mk hr0
  have HC0 := Aside0.mk hc0
  clear hr0 hc0
  have HB := Aside0.mk (Below.refl w.heap.size w)
  have H : ((puncheonref05_Some.f k l0).bind fun t241 => ((puncheonref05_Total.f k t241).bind fun t244 => (if t244 = 0 then (if 7 < (t241.length : Int) then (puncheonref08_Some.j0 k a1 (t241.set (7 : Int).toNat 1)) else (none)) else (puncheonref08_Some.j0 k a1 t241)))) = some (r1, r2) := h
  clear h
  replace H := Option.bind_eq_some_iff.mp H
  obtain ⟨t241, A30, H⟩ := H
  replace H : ((puncheonref05_Total.f k t241).bind fun t244 => (if t244 = 0 then (if 7 < (t241.length : Int) then (puncheonref08_Some.j0 k a1 (t241.set (7 : Int).toNat 1)) else (none)) else (puncheonref08_Some.j0 k a1 t241))) = some (r1, r2) := H
  have A3 := Aside0.mk A30
  clear A30
  replace H := Option.bind_eq_some_iff.mp H
  obtain ⟨t244, A40, H⟩ := H
  replace H : (if t244 = 0 then (if 7 < (t241.length : Int) then (puncheonref08_Some.j0 k a1 (t241.set (7 : Int).toNat 1)) else (none)) else (puncheonref08_Some.j0 k a1 t241)) = some (r1, r2) := H
  have A4 := Aside0.mk A40
  clear A40
  have HC5 := Aside0.mk H
  clear H
  go_enter Try.func15, Try.ntmps15
  go_upto_if 14 with (first | ((with_reducible refine gate_callee (f := 22) rfl ?_); refine goesL_ (some 11) rfl rfl Try.func22 (by kernel_rfl) rfl #[.slice A0 l0.length c0] rfl (by (try simp only [List.map_toArray, List.map_cons, List.map_nil]); first | done | rfl | (simp only [List.length_drop, List.length_take]; rfl)) ?_; (with_reducible refine (puncheonref05_Some.calls k _ _ l0 t241 _ ?side1 ?side2 A3.out).mono ?_); (case side1 => repeat (first | exact HR0.out | (with_reducible refine Kd.C_alloc ?_ _) | (with_reducible refine Kd.C_drewN ?_ _) | (with_reducible refine Kd.C_drew ?_))); (case side2 => exact HC0.out); rintro e w6 ⟨v242, rfl, ho0, hb⟩; refine ⟨_, rfl, ?_⟩; have n0_ := Aside0.mk (Kd.R_lower ho0 (below_size (by repeat (first | (with_reducible first | exact HB.out | apply below_alloc | apply pw_below_drewN | apply below_drew1) | exact HB.out)))); have n1_ := Aside0.mk (below_step (by repeat (first | (with_reducible first | exact HB.out | apply below_alloc | apply pw_below_drewN | apply below_drew1) | exact HB.out)) hb); clear HB; have HO243 := n0_; have HB := n1_; clear n0_ n1_; (try clear hb); (try clear hb2); (try clear hk); (try clear hi); (try clear ho0); obtain ⟨Ao7, co7, eo7⟩ := Kd.R_slice HO243.out; subst eo7) | ((with_reducible refine gate_callee (f := 20) rfl ?_); refine goesL_ (some 13) rfl rfl Try.func20 (by kernel_rfl) rfl #[.slice Ao7 t241.length co7] rfl (by (try simp only [List.map_toArray, List.map_cons, List.map_nil]); first | done | rfl | (simp only [List.length_drop, List.length_take]; rfl)) ?_; (with_reducible refine (puncheonref05_Total.calls k _ _ t241 t244 _ ?side1 ?side2 A4.out).mono ?_); (case side1 => repeat (first | exact (Kd.R_reads' HO243.out).2.2 | (with_reducible refine Kd.C_alloc ?_ _) | (with_reducible refine Kd.C_drewN ?_ _) | (with_reducible refine Kd.C_drew ?_))); (case side2 => exact (Kd.R_reads' HO243.out).2.1); rintro e w' ⟨rfl, ⟨nd, rfl⟩⟩; refine ⟨_, rfl, ?_⟩))
  (try simp only [Act.put, List.setIfInBounds_toArray, List.set_cons_zero, List.set_cons_succ])
  go_cut [] (fun wc => ∃ (kq : Nat) (x6_4 : List Int), Aside0 (puncheonref08_Some.j0 kq a1 x6_4 = some (r1, r2)) ∧ Aside0 (kq ≤ k) ∧ Aside0 (Kd.R (Kd.int .i64) 3 wc w.heap.size (fun _ => True) (.slice Ao7 t241.length co7) x6_4) ∧ Aside0 (Below w.heap.size w wc))
  case first =>
    have H := HC5.out
    clear HC5
    by_cases c8 : t244 = 0
    · rw [if_pos c8] at H
      have c8b0 : (t244 == 0) = true := beq_iff_eq.mpr c8
      have c8b1 : (t244 != 0) = false := bne_eq_false_iff_eq.mpr c8
      clear c8
      (first | rw [c8b0] | (simp only [i64_w, i32_w]; rw [c8b0]) | skip)
      by_cases c9 : 7 < (t241.length : Int)
      · rw [if_pos c9] at H
        have c9b0 : decide (7 < (t241.length : Int)) = true := decide_eq_true c9
        have c9b1 : decide (7 < t241.length) = true := decide_eq_true (by omega)
        clear c9
        obtain ⟨y245, hy245⟩ : ∃ y_ : List Int, y_ = (t241.set (7 : Int).toNat 1) := ⟨_, rfl⟩
        replace H : (puncheonref08_Some.j0 k a1 y245) = some (r1, r2) := by first | (rw [hy245]; with_reducible exact H) | (have H2_ := (Option.bind_some _ _).symm.trans H; rw [hy245]; with_reducible exact H2_) | (have H2_ := (Option.bind_some _ _).symm.trans H; with_reducible exact H2_) | with_reducible exact H | (rw [hy245]; exact H) | exact H
        have Ny245 := Aside0.mk hy245
        clear hy245
        have H' := Aside0.mk H
        clear H
        have p10 : 0 ≤ (7 : Int) := (by omega)
        have q10 : (7 : Int) < ((t241.length : Int) : Int) := of_decide_eq_true (by first | (with_reducible assumption) | assumption)
        have qi10 : (7 < t241.length) = True := eq_true (by omega)
        obtain ⟨go10, co10, eo10, gb10, gl10, cl10, HG10⟩ := Kd.R_form HO243.out (by omega)
        (first | cases eo10 | (injection eo10 with ea_ en_ ec_; (first | subst ea_ | (injection ea_ with ea_; subst ea_)); subst ec_; clear en_))
        have GB10 := Aside0.mk gb10
        have GG10 := Aside0.mk HG10
        clear gb10 gl10 HG10
        obtain ⟨hx10_0, hf10_0⟩ := Kd.R_celln 0 HO243.out (7 : Int) p10 q10
        (try rw [show ((7 : Int)).toNat = 7 from rfl] at hx10_0)
        (try simp only [Nat.reduceMul, Nat.zero_mul, Nat.zero_add, Nat.reduceAdd] at hx10_0)
        (try rw [show ((7 : Int)).toNat = 7 from rfl] at hf10_0)
        (try simp only [Nat.reduceMul, Nat.zero_mul, Nat.zero_add, Nat.reduceAdd] at hf10_0)
        replace p10 := eq_true p10
        replace q10 := eq_true q10
        have HP11 := Kd.R_putg HO243.out (7 : Int) 1
        go_wp2_with (first | ((with_reducible refine gate_store (t := 3) (p := 16) rfl ?_); refine store_event (t := 3) (p := 16) (v := ?vo_w12) (w1 := (w6.setCell ⟨go10, (7 : Int).toNat, none⟩ (.int .i64 1))) ?hg ?ho ?hn ?hr ?_; (case ho => rfl); (case hg => rfl); (case hn => rfl); (case hr => first | (go_simp; done) | (go_simp; rfl)); intro w12 hw; have hg : w6.grownBy w12 (some go10) := (by rw [hw]; exact HP11.2); have hp_ : Kd.R (Kd.int .i64) 3 w12 w.heap.size (fun _ => True) (.slice (some ⟨go10, 0, none⟩) t241.length co7) y245 := (by rw [hw, Ny245.out]; exact HP11.1); clear HP11; have n0_ := Aside0.mk (hp_); have n1_ := Aside0.mk ((by rw [hw]; exact below_set (HB.out) GB10.out : Below w.heap.size w w12)); clear HO243; clear HB; have HO243 := n0_; have HB := n1_; clear n0_ n1_; clear hg hw hp_))
        go_meet
        case rel => exact ⟨_, (y245), H', ⟨by first | omega | exact Nat.le_refl _⟩, ⟨by (with_reducible repeat (first | apply Kd.R_alloc | apply Kd.R_drewN | apply Kd.R_drew)); first | exact HO243.out | (rw [Ny245.out]; exact (Kd.R_putg (Kd.R_drewN HO243.out _) (7 : Int) 1).1)⟩, ⟨by first | exact below_set (pw_below_drewN HB.out _) GB10.out | repeat (first | (with_reducible first | exact HB.out | apply below_alloc | apply pw_below_drewN | apply below_drew1) | exact HB.out)⟩⟩
      · rw [if_neg c9] at H
        exact absurd H (by simp)
    · rw [if_neg c8] at H
      have c8b0 : (t244 == 0) = false := beq_eq_false_iff_ne.mpr c8
      have c8b1 : (t244 != 0) = true := bne_iff_ne.mpr c8
      (first | rw [c8b0] | (simp only [i64_w, i32_w]; rw [c8b0]) | skip)
      have H' := Aside0.mk H
      clear H
      go_wp2
      go_meet
      case rel => exact ⟨_, (t241), H', ⟨by first | omega | exact Nat.le_refl _⟩, ⟨by (with_reducible repeat (first | apply Kd.R_alloc | apply Kd.R_drewN | apply Kd.R_drew)); exact HO243.out⟩, ⟨by repeat (first | (with_reducible first | exact HB.out | apply below_alloc | apply pw_below_drewN | apply below_drew1) | exact HB.out)⟩⟩
  case rest =>
    clear HC5
    try clear c1
    try clear p1
    try clear q1
    try clear hx1
    try clear qi1
    try clear c2
    try clear p2
    try clear c8
    try clear c8b0
    try clear c8b1
    try clear c9
    try clear c9b0
    try clear c9b1
    try clear p10
    try clear q10
    try clear hx10
    try clear qi10
    try clear hf10
    try clear hx10_0
    try clear p10
    try clear q10
    obtain ⟨kq, x6_4, HA, HJ4, HO_6, HB⟩ := hcut
    have hl6_4 := (Kd.R_reads' HO_6.out).1
    rw [hl6_4] at HO_6
    (try simp only [hl6_4])
    cases kq with
    | zero => exact absurd HA.out (by simp [puncheonref08_Some.j0])
    | succ kj4 =>
      have H := HA.out
      clear HA
      simp only [puncheonref08_Some.j0] at H
      have H' := Aside0.mk H
      clear H
      go_wp2
      go_loopg [7] kj4 (fun kq v7 w' => ∃ (x7_2 : Int), v7 = .int .i64 x7_2 ∧ Aside0 (puncheonref08_Some.l0 kq x6_4 x7_2 = some (r1, r2)) ∧ Aside0 (kq ≤ kj4) ∧ Aside0 (Kd.R (Kd.int .i64) 3 w' w.heap.size (fun _ => True) (.slice Ao7 x6_4.length co7) x6_4) ∧ Aside0 (Below w.heap.size w w'))
      case atStart => exact ⟨(wrap64 (5 + (wrap64 (Int.tmod a1 5)))), (by first | rfl | (simp; done) | (simp [*]; done)), H', ⟨Nat.le_refl _⟩, ⟨by (try simp only [hl6_4]); (with_reducible repeat (first | apply Kd.R_alloc | apply Kd.R_drewN | apply Kd.R_drew)); exact HO_6.out⟩, ⟨by repeat (first | (with_reducible first | exact HB.out | apply below_alloc | apply pw_below_drewN | apply below_drew1) | exact HB.out)⟩⟩
      case round =>
        clear H'
        try clear c1
        try clear p1
        try clear q1
        try clear hx1
        try clear qi1
        try clear c2
        try clear p2
        try clear p6
        try clear c8
        try clear c8b0
        try clear c8b1
        try clear c9
        try clear c9b0
        try clear c9b1
        try clear p10
        try clear q10
        try clear hx10
        try clear qi10
        try clear hf10
        try clear hx10_0
        try clear p1
        try clear p10
        try clear p2
        try clear q1
        try clear q10
        obtain ⟨x7_2, rfl, HA, HK2, HO_6, HB⟩ := hrel
        cases gk with
        | zero => exact absurd HA.out (by simp [puncheonref08_Some.l0])
        | succ k2 =>
          have H := HA.out
          clear HA
          simp only [puncheonref08_Some.l0] at H
          replace H := Option.bind_eq_some_iff.mp H
          obtain ⟨t246, A130, H⟩ := H
          replace H : ((puncheonref05_Many.f k2 x6_4).bind fun t247 => (if t246 < t247 then (puncheonref08_Some.l0 k2 x6_4 (wrap64 (x7_2 + 1))) else ((puncheonref08_Counts.f k2 x6_4 x7_2).bind fun bt248 => (some (bt248.1, x7_2))))) = some (r1, r2) := H
          have A13 := Aside0.mk A130
          clear A130
          replace H := Option.bind_eq_some_iff.mp H
          obtain ⟨t247, A140, H⟩ := H
          replace H : (if t246 < t247 then (puncheonref08_Some.l0 k2 x6_4 (wrap64 (x7_2 + 1))) else ((puncheonref08_Counts.f k2 x6_4 x7_2).bind fun bt248 => (some (bt248.1, x7_2)))) = some (r1, r2) := H
          have A14 := Aside0.mk A140
          clear A140
          by_cases c15 : t246 < t247
          · rw [if_pos c15] at H
            have c15b0 : decide (t246 < t247) = true := decide_eq_true c15
            clear c15
            have H' := Aside0.mk H
            clear H
            go_wp2_with (first | ((with_reducible refine gate_callee (f := 21) rfl ?_); refine goesL_ (some 22) rfl rfl Try.func21 (by kernel_rfl) rfl #[.int .i64 x7_2] rfl (by (try simp only [List.map_toArray, List.map_cons, List.map_nil]); first | done | rfl | (simp only [List.length_drop, List.length_take]; rfl)) ?_; (with_reducible refine (puncheonref08_power.calls k2 x7_2 t246 _ A13.out).mono ?_); rintro e w' ⟨rfl, ⟨nd, rfl⟩⟩; refine ⟨_, rfl, ?_⟩) | ((with_reducible refine gate_callee (f := 23) rfl ?_); refine goesL_ (some 24) rfl rfl Try.func23 (by kernel_rfl) rfl #[.slice Ao7 x6_4.length co7] rfl (by (try simp only [List.map_toArray, List.map_cons, List.map_nil]); first | done | rfl | (simp only [List.length_drop, List.length_take]; rfl)) ?_; (with_reducible refine (puncheonref05_Many.calls k2 _ _ x6_4 t247 _ ?side1 ?side2 A14.out).mono ?_); (case side1 => repeat (first | exact (Kd.R_reads' HO_6.out).2.2 | (with_reducible refine Kd.C_alloc ?_ _) | (with_reducible refine Kd.C_drewN ?_ _) | (with_reducible refine Kd.C_drew ?_))); (case side2 => exact (Kd.R_reads' HO_6.out).2.1); rintro e w' ⟨rfl, ⟨nd, rfl⟩⟩; refine ⟨_, rfl, ?_⟩))
            go_roundg k2
            case measure => have := HJ4.out; have := HK2.out; omega
            case rel => exact ⟨(wrap64 (x7_2 + 1)), (by first | rfl | (simp; done) | (simp [*]; done)), H', ⟨by have := HJ4.out; have := HK2.out; omega⟩, ⟨by (try simp only [hl6_4]); (with_reducible repeat (first | apply Kd.R_alloc | apply Kd.R_drewN | apply Kd.R_drew)); exact HO_6.out⟩, ⟨by repeat (first | (with_reducible first | exact HB.out | apply below_alloc | apply pw_below_drewN | apply below_drew1) | exact HB.out)⟩⟩
          · rw [if_neg c15] at H
            have c15b0 : decide (t246 < t247) = false := decide_eq_false c15
            clear c15
            replace H := Option.bind_eq_some_iff.mp H
            obtain ⟨⟨t248, t249⟩, A160, H⟩ := H
            replace H : (some (t248, x7_2)) = some (r1, r2) := H
            have A16 := Aside0.mk A160
            clear A160
            simp only [Option.some.injEq, Prod.mk.injEq] at H
            obtain ⟨rfl, rfl⟩ := H
            go_wp2_with (first | ((with_reducible refine gate_callee (f := 21) rfl ?_); refine goesL_ (some 22) rfl rfl Try.func21 (by kernel_rfl) rfl #[.int .i64 x7_2] rfl (by (try simp only [List.map_toArray, List.map_cons, List.map_nil]); first | done | rfl | (simp only [List.length_drop, List.length_take]; rfl)) ?_; (with_reducible refine (puncheonref08_power.calls k2 x7_2 t246 _ A13.out).mono ?_); rintro e w' ⟨rfl, ⟨nd, rfl⟩⟩; refine ⟨_, rfl, ?_⟩) | ((with_reducible refine gate_callee (f := 23) rfl ?_); refine goesL_ (some 24) rfl rfl Try.func23 (by kernel_rfl) rfl #[.slice Ao7 x6_4.length co7] rfl (by (try simp only [List.map_toArray, List.map_cons, List.map_nil]); first | done | rfl | (simp only [List.length_drop, List.length_take]; rfl)) ?_; (with_reducible refine (puncheonref05_Many.calls k2 _ _ x6_4 t247 _ ?side1 ?side2 A14.out).mono ?_); (case side1 => repeat (first | exact (Kd.R_reads' HO_6.out).2.2 | (with_reducible refine Kd.C_alloc ?_ _) | (with_reducible refine Kd.C_drewN ?_ _) | (with_reducible refine Kd.C_drew ?_))); (case side2 => exact (Kd.R_reads' HO_6.out).2.1); rintro e w' ⟨rfl, ⟨nd, rfl⟩⟩; refine ⟨_, rfl, ?_⟩) | ((with_reducible refine gate_callee (f := 24) rfl ?_); refine goesL_ (some 31) rfl rfl Try.func24 (by kernel_rfl) rfl #[.slice Ao7 x6_4.length co7, .int .i64 x7_2] rfl (by (try simp only [List.map_toArray, List.map_cons, List.map_nil]); first | done | rfl | (simp only [List.length_drop, List.length_take]; rfl)) ?_; (with_reducible refine (puncheonref08_Counts.calls k2 _ _ x6_4 x7_2 t248 t249 _ ?side1 ?side2 A16.out).mono ?_); (case side1 => repeat (first | exact (Kd.R_reads' HO_6.out).2.2 | (with_reducible refine Kd.C_alloc ?_ _) | (with_reducible refine Kd.C_drewN ?_ _) | (with_reducible refine Kd.C_drew ?_))); (case side2 => exact (Kd.R_reads' HO_6.out).2.1); rintro e w17 ⟨v250, rfl, ho0, hb⟩; refine ⟨_, rfl, ?_⟩; have n0_ := Aside0.mk (Kd.R_elder' (by (with_reducible repeat (first | apply Kd.R_alloc | apply Kd.R_drewN | apply Kd.R_drew)); exact HO_6.out) (Kd.R_base ho0) hb); have n1_ := Aside0.mk (Kd.R_lower (Kd.R_new' ho0 (Kd.R_lt (by (with_reducible repeat (first | apply Kd.R_alloc | apply Kd.R_drewN | apply Kd.R_drew)); exact HO_6.out))) (below_size (by repeat (first | (with_reducible first | exact HB.out | apply below_alloc | apply pw_below_drewN | apply below_drew1) | exact HB.out)))); have n2_ := Aside0.mk (below_step (by repeat (first | (with_reducible first | exact HB.out | apply below_alloc | apply pw_below_drewN | apply below_drew1) | exact HB.out)) hb); clear HO_6; clear HB; have HO_6 := n0_; have HO251 := n1_; have HB := n2_; clear n0_ n1_ n2_; (try clear hb); (try clear hb2); (try clear hk); (try clear hi); (try clear ho0)))
            go_ret2
            exact ⟨_, by first | rfl | (simp [errW_none, errW_some] <;> rfl) | (simp [*, errW_none, errW_some] <;> rfl), by (with_reducible repeat (first | apply Kd.R_alloc | apply Kd.R_drewN | apply Kd.R_drew)); exact Kd.R_mono HO251.out (fun _ hk => trivial), by repeat (first | (with_reducible first | exact HB.out | apply below_alloc | apply pw_below_drewN | apply below_drew1) | exact HB.out)⟩

/-! ### puncheonlaw10_SpreadPlaces: function 4 -/
def puncheonlaw10_SpreadPlaces.j0 : Nat → Int → Int → Bool → List Int → Int → Bool → Bool → Option (Bool)
  | 0, _, _, _, _, _, _, _ => none
  | k + 1, x2, x3, x9, x10, x12, x13, x14 => if x14 = true then (if 0 ≤ x2 then (if x2 < (x10.length : Int) then (if (rd x10 x2) > 0 then (if x3 ≥ (rd x10 x2) then (if (x3 < (wrap64 (2 * (rd x10 x2)))) then (if x9 = true then (if x13 = true then ((puncheonref10_Place.f k x10 x2 x3).bind fun t262 => (some (x12 == t262))) else (some false)) else (some false)) else (if x9 = true then (if x12 = 0 then (some (!x13)) else (some false)) else (some false))) else (if x9 = true then (if x12 = 0 then (some (!x13)) else (some false)) else (some false))) else (if x9 = true then (if x12 = 0 then (some (!x13)) else (some false)) else (some false))) else (none)) else (none)) else (if x9 = true then (if x12 = 0 then (some (!x13)) else (some false)) else (some false))
def puncheonlaw10_SpreadPlaces.f (k : Nat) (l0 : List Int) (a1 : Int) (a2 : Int) (a3 : Int) : Option (Bool) := (puncheonlaw10_awake.f k).bind fun t252 => (if (l0.length : Int) > 80 then (some t252) else ((puncheonref08_Some.f k l0 a1).bind fun bt253 => ((spread_Place.f k bt253.1 a2 a3).bind fun bt257 => (if a2 ≥ 0 then (puncheonlaw10_SpreadPlaces.j0 k a2 a3 t252 bt253.1 bt257.1 bt257.2 (decide (a2 ≤ 255))) else (puncheonlaw10_SpreadPlaces.j0 k a2 a3 t252 bt253.1 bt257.1 bt257.2 false)))))
theorem puncheonlaw10_SpreadPlaces.mono_l : ∀ k, (∀ y0 y1 y2 y3 y4 y5 y6, LeO (puncheonlaw10_SpreadPlaces.j0 k y0 y1 y2 y3 y4 y5 y6) (puncheonlaw10_SpreadPlaces.j0 (k + 1) y0 y1 y2 y3 y4 y5 y6))
  | 0 => fun _ _ _ _ _ _ _ r h => by simp [puncheonlaw10_SpreadPlaces.j0] at h
  | k + 1 => by
    have ih0 := puncheonlaw10_SpreadPlaces.mono_l k
    · intro y0 y1 y2 y3 y4 y5 y6
      unfold puncheonlaw10_SpreadPlaces.j0
      repeat' first
      | (with_reducible exact ih0 _ _ _ _ _ _ _)
      | (with_reducible exact puncheonlaw10_awake.mono _)
      | (with_reducible exact puncheonref08_Some.mono _ _ _)
      | (with_reducible exact puncheonref10_Place.mono _ _ _ _)
      | (with_reducible exact spread_Place.mono _ _ _ _)
      | (with_reducible exact LeO.refl _)
      | (with_reducible exact LeO.none _)
      | (with_reducible refine LeO.ite ?_ ?_)
      | (with_reducible refine LeO.bind ?_ (fun _ => ?_))
      | exact ih0 _ _ _ _ _ _ _
      | exact puncheonlaw10_awake.mono _
      | exact puncheonref08_Some.mono _ _ _
      | exact puncheonref10_Place.mono _ _ _ _
      | exact spread_Place.mono _ _ _ _
      | exact LeO.none _
      | refine LeO.ite ?_ ?_
      | refine LeO.bind ?_ (fun _ => ?_)
theorem puncheonlaw10_SpreadPlaces.mono : ∀ a0 a1 a2 a3 k, LeO (puncheonlaw10_SpreadPlaces.f k a0 a1 a2 a3) (puncheonlaw10_SpreadPlaces.f (k + 1) a0 a1 a2 a3) := by
  intro a0 a1 a2 a3 k
  have ih0 := puncheonlaw10_SpreadPlaces.mono_l k
  unfold puncheonlaw10_SpreadPlaces.f
  repeat' first
      | (with_reducible exact ih0 _ _ _ _ _ _ _)
      | (with_reducible exact puncheonlaw10_awake.mono _)
      | (with_reducible exact puncheonref08_Some.mono _ _ _)
      | (with_reducible exact puncheonref10_Place.mono _ _ _ _)
      | (with_reducible exact spread_Place.mono _ _ _ _)
      | (with_reducible exact LeO.refl _)
      | (with_reducible exact LeO.none _)
      | (with_reducible refine LeO.ite ?_ ?_)
      | (with_reducible refine LeO.bind ?_ (fun _ => ?_))
      | exact ih0 _ _ _ _ _ _ _
      | exact puncheonlaw10_awake.mono _
      | exact puncheonref08_Some.mono _ _ _
      | exact puncheonref10_Place.mono _ _ _ _
      | exact spread_Place.mono _ _ _ _
      | exact LeO.none _
      | refine LeO.ite ?_ ?_
      | refine LeO.bind ?_ (fun _ => ?_)
set_option maxHeartbeats 8000000 in
set_option maxRecDepth 100000 in
theorem puncheonlaw10_SpreadPlaces.calls (k : Nat) (A0 : Option Addr) (c0 : Nat) (l0 : List Int) (a1 : Int) (a2 : Int) (a3 : Int) (r : Bool) (w : World) (hr0 : Kd.C (Kd.int .u16) w A0 l0.length l0) (hc0 : l0.length ≤ c0) (h : puncheonlaw10_SpreadPlaces.f k l0 a1 a2 a3 = some r) :
    Calls Try.prog 4 #[.slice A0 l0.length c0, .int .u8 a1, .int .i64 a2, .int .i64 a3] w fun e w' => e = .returned (.bool r) ∧ Below w.heap.size w w' := by
  have HR0 := Aside0.mk hr0
  have HC0 := Aside0.mk hc0
  clear hr0 hc0
  have HB := Aside0.mk (Below.refl w.heap.size w)
  have H : ((puncheonlaw10_awake.f k).bind fun t252 => (if (l0.length : Int) > 80 then (some t252) else ((puncheonref08_Some.f k l0 a1).bind fun bt253 => ((spread_Place.f k bt253.1 a2 a3).bind fun bt257 => (if a2 ≥ 0 then (puncheonlaw10_SpreadPlaces.j0 k a2 a3 t252 bt253.1 bt257.1 bt257.2 (decide (a2 ≤ 255))) else (puncheonlaw10_SpreadPlaces.j0 k a2 a3 t252 bt253.1 bt257.1 bt257.2 false)))))) = some r := h
  clear h
  replace H := Option.bind_eq_some_iff.mp H
  obtain ⟨t252, A50, H⟩ := H
  replace H : (if (l0.length : Int) > 80 then (some t252) else ((puncheonref08_Some.f k l0 a1).bind fun bt253 => ((spread_Place.f k bt253.1 a2 a3).bind fun bt257 => (if a2 ≥ 0 then (puncheonlaw10_SpreadPlaces.j0 k a2 a3 t252 bt253.1 bt257.1 bt257.2 (decide (a2 ≤ 255))) else (puncheonlaw10_SpreadPlaces.j0 k a2 a3 t252 bt253.1 bt257.1 bt257.2 false))))) = some r := H
  have A5 := Aside0.mk A50
  clear A50
  by_cases c6 : (l0.length : Int) > 80
  · rw [if_pos c6] at H
    have c6b0 : decide (80 < (l0.length : Int)) = true := decide_eq_true c6
    have c6b1 : decide (80 < l0.length) = true := decide_eq_true (by omega)
    clear c6
    obtain rfl := Option.some.inj H
    go_enter Try.func4, Try.ntmps4
    go_wp2_with (first | ((with_reducible refine gate_callee (f := 8) rfl ?_); refine goesL_ (some 15) rfl rfl Try.func8 (by kernel_rfl) rfl #[] rfl (by (try simp only [List.map_toArray, List.map_cons, List.map_nil]); first | done | rfl | (simp only [List.length_drop, List.length_take]; rfl)) ?_; (with_reducible refine (puncheonlaw10_awake.calls k  t252 _ A5.out).mono ?_); rintro e w7 ⟨rfl, hb⟩; refine ⟨_, rfl, ?_⟩; have n0_ := Aside0.mk (below_step (by repeat (first | (with_reducible first | exact HB.out | apply below_alloc | apply pw_below_drewN | apply below_drew1) | exact HB.out)) hb); clear HB; have HB := n0_; clear n0_; (try clear hb); (try clear hb2); (try clear hk); (try clear hi)))
    go_ret
    exact ⟨by first | rfl | (simp [errW_none, errW_some] <;> rfl) | (simp [*, errW_none, errW_some] <;> rfl), by repeat (first | (with_reducible first | exact HB.out | apply below_alloc | apply pw_below_drewN | apply below_drew1) | exact HB.out)⟩
  · rw [if_neg c6] at H
    have c6b0 : decide (80 < (l0.length : Int)) = false := decide_eq_false c6
    have c6b1 : decide (80 < l0.length) = false := decide_eq_false (by omega)
    clear c6
    replace H := Option.bind_eq_some_iff.mp H
    obtain ⟨⟨t253, t254⟩, A80, H⟩ := H
    replace H : ((spread_Place.f k t253 a2 a3).bind fun bt257 => (if a2 ≥ 0 then (puncheonlaw10_SpreadPlaces.j0 k a2 a3 t252 t253 bt257.1 bt257.2 (decide (a2 ≤ 255))) else (puncheonlaw10_SpreadPlaces.j0 k a2 a3 t252 t253 bt257.1 bt257.2 false))) = some r := H
    have A8 := Aside0.mk A80
    clear A80
    replace H := Option.bind_eq_some_iff.mp H
    obtain ⟨⟨t257, t258⟩, A90, H⟩ := H
    replace H : (if a2 ≥ 0 then (puncheonlaw10_SpreadPlaces.j0 k a2 a3 t252 t253 t257 t258 (decide (a2 ≤ 255))) else (puncheonlaw10_SpreadPlaces.j0 k a2 a3 t252 t253 t257 t258 false)) = some r := H
    have A9 := Aside0.mk A90
    clear A90
    have HC10 := Aside0.mk H
    clear H
    go_enter Try.func4, Try.ntmps4
    go_upto_region 6 with (first | ((with_reducible refine gate_callee (f := 8) rfl ?_); refine goesL_ (some 15) rfl rfl Try.func8 (by kernel_rfl) rfl #[] rfl (by (try simp only [List.map_toArray, List.map_cons, List.map_nil]); first | done | rfl | (simp only [List.length_drop, List.length_take]; rfl)) ?_; (with_reducible refine (puncheonlaw10_awake.calls k  t252 _ A5.out).mono ?_); rintro e w11 ⟨rfl, hb⟩; refine ⟨_, rfl, ?_⟩; have n0_ := Aside0.mk (below_step (by repeat (first | (with_reducible first | exact HB.out | apply below_alloc | apply pw_below_drewN | apply below_drew1) | exact HB.out)) hb); clear HB; have HB := n0_; clear n0_; (try clear hb); (try clear hb2); (try clear hk); (try clear hi)) | ((with_reducible refine gate_callee (f := 15) rfl ?_); refine goesL_ (some 23) rfl rfl Try.func15 (by kernel_rfl) rfl #[.slice A0 l0.length c0, .int .u8 a1] rfl (by (try simp only [List.map_toArray, List.map_cons, List.map_nil]); first | done | rfl | (simp only [List.length_drop, List.length_take]; rfl)) ?_; (with_reducible refine (puncheonref08_Some.calls k _ _ l0 a1 t253 t254 _ ?side1 ?side2 A8.out).mono ?_); (case side1 => repeat (first | exact (Kd.C_below HR0.out HB.out) | (with_reducible refine Kd.C_alloc ?_ _) | (with_reducible refine Kd.C_drewN ?_ _) | (with_reducible refine Kd.C_drew ?_))); (case side2 => exact HC0.out); rintro e w12 ⟨v255, rfl, ho0, hb⟩; refine ⟨_, rfl, ?_⟩; have n0_ := Aside0.mk (Kd.R_lower ho0 (below_size (by repeat (first | (with_reducible first | exact HB.out | apply below_alloc | apply pw_below_drewN | apply below_drew1) | exact HB.out)))); have n1_ := Aside0.mk (below_step (by repeat (first | (with_reducible first | exact HB.out | apply below_alloc | apply pw_below_drewN | apply below_drew1) | exact HB.out)) hb); clear HB; have HO256 := n0_; have HB := n1_; clear n0_ n1_; (try clear hb); (try clear hb2); (try clear hk); (try clear hi); (try clear ho0); obtain ⟨Ao13, co13, eo13⟩ := Kd.R_slice HO256.out; subst eo13) | ((with_reducible refine gate_callee (f := 16) rfl ?_); refine goesL_ (some 30) rfl rfl Try.func16 (by kernel_rfl) rfl #[.slice Ao13 t253.length co13, .int .i64 a2, .int .i64 a3] rfl (by (try simp only [List.map_toArray, List.map_cons, List.map_nil]); first | done | rfl | (simp only [List.length_drop, List.length_take]; rfl)) ?_; (with_reducible refine (spread_Place.calls k _ _ t253 a2 a3 t257 t258 _ ?side1 ?side2 A9.out).mono ?_); (case side1 => repeat (first | exact (Kd.R_reads' HO256.out).2.2 | (with_reducible refine Kd.C_alloc ?_ _) | (with_reducible refine Kd.C_drewN ?_ _) | (with_reducible refine Kd.C_drew ?_))); (case side2 => exact (Kd.R_reads' HO256.out).2.1); rintro e w14 ⟨rfl, hb⟩; refine ⟨_, rfl, ?_⟩; have n0_ := Aside0.mk (Kd.R_below (by (with_reducible repeat (first | apply Kd.R_alloc | apply Kd.R_drewN | apply Kd.R_drew)); exact HO256.out) hb); have n1_ := Aside0.mk (below_step (by repeat (first | (with_reducible first | exact HB.out | apply below_alloc | apply pw_below_drewN | apply below_drew1) | exact HB.out)) hb); clear HO256; clear HB; have HO256 := n0_; have HB := n1_; clear n0_ n1_; (try clear hb); (try clear hb2); (try clear hk); (try clear hi)))
    (try simp only [Act.put, List.setIfInBounds_toArray, List.set_cons_zero, List.set_cons_succ])
    go_cut [14] (fun v14 wc => ∃ (kq : Nat) (x14_9 : Bool), v14 = .bool x14_9 ∧ Aside0 (puncheonlaw10_SpreadPlaces.j0 kq a2 a3 t252 t253 t257 t258 x14_9 = some r) ∧ Aside0 (kq ≤ k) ∧ Aside0 (Kd.R (Kd.int .i64) 3 wc w.heap.size (fun _ => True) (.slice Ao13 t253.length co13) t253) ∧ Aside0 (Below w.heap.size w wc))
    case first =>
      have H := HC10.out
      clear HC10
      by_cases c15 : a2 ≥ 0
      · rw [if_pos c15] at H
        have c15b0 : decide (0 ≤ a2) = true := decide_eq_true c15
        clear c15
        (first | rw [c15b0] | (simp only [i64_w, i32_w]; rw [c15b0]) | skip)
        have H' := Aside0.mk H
        clear H
        go_wp2
        go_meet
        case rel => exact ⟨_, (decide (a2 ≤ 255)), (by first | rfl | (simp; done) | (simp [*]; done)), H', ⟨by first | omega | exact Nat.le_refl _⟩, ⟨by (with_reducible repeat (first | apply Kd.R_alloc | apply Kd.R_drewN | apply Kd.R_drew)); exact HO256.out⟩, ⟨by repeat (first | (with_reducible first | exact HB.out | apply below_alloc | apply pw_below_drewN | apply below_drew1) | exact HB.out)⟩⟩
      · rw [if_neg c15] at H
        have c15b0 : decide (0 ≤ a2) = false := decide_eq_false c15
        clear c15
        (first | rw [c15b0] | (simp only [i64_w, i32_w]; rw [c15b0]) | skip)
        have H' := Aside0.mk H
        clear H
        go_wp2
        go_meet
        case rel => exact ⟨_, (false), (by first | rfl | (simp; done) | (simp [*]; done)), H', ⟨by first | omega | exact Nat.le_refl _⟩, ⟨by (with_reducible repeat (first | apply Kd.R_alloc | apply Kd.R_drewN | apply Kd.R_drew)); exact HO256.out⟩, ⟨by repeat (first | (with_reducible first | exact HB.out | apply below_alloc | apply pw_below_drewN | apply below_drew1) | exact HB.out)⟩⟩
    case rest =>
      clear HC10
      try clear c1
      try clear p2
      try clear c4
      try clear c6
      try clear c6b0
      try clear c6b1
      try clear c8
      try clear c15
      try clear c15b0
      obtain ⟨kq, x14_9, rfl, HA, HJ9, HO_10, HB⟩ := hcut
      cases kq with
      | zero => exact absurd HA.out (by simp [puncheonlaw10_SpreadPlaces.j0])
      | succ kj9 =>
        have H := HA.out
        clear HA
        simp only [puncheonlaw10_SpreadPlaces.j0] at H
        by_cases c16 : x14_9 = true
        · subst c16
          have H1 : (if 0 ≤ a2 then (if a2 < (t253.length : Int) then (if (rd t253 a2) > 0 then (if a3 ≥ (rd t253 a2) then (if (a3 < (wrap64 (2 * (rd t253 a2)))) then (if t252 = true then (if t258 = true then ((puncheonref10_Place.f kj9 t253 a2 a3).bind fun t262 => (some (t257 == t262))) else (some false)) else (some false)) else (if t252 = true then (if t257 = 0 then (some (!t258)) else (some false)) else (some false))) else (if t252 = true then (if t257 = 0 then (some (!t258)) else (some false)) else (some false))) else (if t252 = true then (if t257 = 0 then (some (!t258)) else (some false)) else (some false))) else (none)) else (none)) = some r := by rw [if_pos rfl] at H; exact H
          clear H
          have H := H1
          clear H1
          by_cases c17 : 0 ≤ a2
          · rw [if_pos c17] at H
            have c17b0 : decide (0 ≤ a2) = true := decide_eq_true c17
            clear c17
            by_cases c18 : a2 < (t253.length : Int)
            · rw [if_pos c18] at H
              have c18b0 : decide (a2 < (t253.length : Int)) = true := decide_eq_true c18
              clear c18
              by_cases c19 : (rd t253 a2) > 0
              · rw [if_pos c19] at H
                have c19b0 : decide (0 < (rd t253 a2)) = true := decide_eq_true c19
                clear c19
                by_cases c20 : a3 ≥ (rd t253 a2)
                · rw [if_pos c20] at H
                  have c20b0 : decide ((rd t253 a2) ≤ a3) = true := decide_eq_true c20
                  clear c20
                  by_cases c21 : (a3 < (wrap64 (2 * (rd t253 a2))))
                  · rw [if_pos c21] at H
                    have c21b0 : decide (a3 < (wrap64 (2 * (rd t253 a2)))) = true := decide_eq_true c21
                    clear c21
                    by_cases c22 : t252 = true
                    · subst c22
                      have H1 : (if t258 = true then ((puncheonref10_Place.f kj9 t253 a2 a3).bind fun t262 => (some (t257 == t262))) else (some false)) = some r := by rw [if_pos rfl] at H; exact H
                      clear H
                      have H := H1
                      clear H1
                      by_cases c23 : t258 = true
                      · subst c23
                        have H1 : ((puncheonref10_Place.f kj9 t253 a2 a3).bind fun t262 => (some (t257 == t262))) = some r := by rw [if_pos rfl] at H; exact H
                        clear H
                        have H := H1
                        clear H1
                        replace H := Option.bind_eq_some_iff.mp H
                        obtain ⟨t262, A240, H⟩ := H
                        replace H : (some (t257 == t262)) = some r := H
                        have A24 := Aside0.mk A240
                        clear A240
                        obtain rfl := Option.some.inj H
                        have p259 : 0 ≤ (a2 : Int) := of_decide_eq_true (by first | (with_reducible assumption) | assumption)
                        have q259 : a2 < (t253.length : Int) := of_decide_eq_true (by first | (with_reducible assumption) | assumption)
                        obtain ⟨ad259, e259, hx259_0⟩ := Kd.at_int (Kd.R_reads' HO_10.out).2.2 a2 p259 q259
                        cases e259
                        replace p259 := eq_true p259
                        replace q259 := eq_true q259
                        have p260 : 0 ≤ (a2 : Int) := of_decide_eq_true (by first | (with_reducible assumption) | assumption)
                        have q260 : a2 < (t253.length : Int) := of_decide_eq_true (by first | (with_reducible assumption) | assumption)
                        obtain ⟨ad260, e260, hx260_0⟩ := Kd.at_int (Kd.R_reads' HO_10.out).2.2 a2 p260 q260
                        obtain rfl : ad259 = ad260 := (by injection e260)
                        replace p260 := eq_true p260
                        replace q260 := eq_true q260
                        have p261 : 0 ≤ (a2 : Int) := of_decide_eq_true (by first | (with_reducible assumption) | assumption)
                        have q261 : a2 < (t253.length : Int) := of_decide_eq_true (by first | (with_reducible assumption) | assumption)
                        obtain ⟨ad261, e261, hx261_0⟩ := Kd.at_int (Kd.R_reads' HO_10.out).2.2 a2 p261 q261
                        obtain rfl : ad259 = ad261 := (by injection e261)
                        replace p261 := eq_true p261
                        replace q261 := eq_true q261
                        go_wp2_with (first | (go_at_call 17; (with_reducible refine (puncheonref10_Place.calls kj9 _ _ t253 a2 a3 t262 _ ?side1 ?side2 A24.out).mono ?_); (case side1 => repeat (first | exact (Kd.R_reads' HO_10.out).2.2 | (with_reducible refine Kd.C_alloc ?_ _) | (with_reducible refine Kd.C_drewN ?_ _) | (with_reducible refine Kd.C_drew ?_))); (case side2 => exact (Kd.R_reads' HO_10.out).2.1); rintro e w' ⟨rfl, ⟨nd, rfl⟩⟩))
                        go_ret
                        exact ⟨by first | rfl | (simp [errW_none, errW_some] <;> rfl) | (simp [*, errW_none, errW_some] <;> rfl), by repeat (first | (with_reducible first | exact HB.out | apply below_alloc | apply pw_below_drewN | apply below_drew1) | exact HB.out)⟩
                      · replace c23 := Bool.eq_false_iff.mpr c23
                        subst c23
                        have H1 : (some false) = some r := by rw [if_neg (show ¬ (false = true) by decide)] at H; exact H
                        clear H
                        have H := H1
                        clear H1
                        obtain rfl := Option.some.inj H
                        have p259 : 0 ≤ (a2 : Int) := of_decide_eq_true (by first | (with_reducible assumption) | assumption)
                        have q259 : a2 < (t253.length : Int) := of_decide_eq_true (by first | (with_reducible assumption) | assumption)
                        obtain ⟨ad259, e259, hx259_0⟩ := Kd.at_int (Kd.R_reads' HO_10.out).2.2 a2 p259 q259
                        cases e259
                        replace p259 := eq_true p259
                        replace q259 := eq_true q259
                        have p260 : 0 ≤ (a2 : Int) := of_decide_eq_true (by first | (with_reducible assumption) | assumption)
                        have q260 : a2 < (t253.length : Int) := of_decide_eq_true (by first | (with_reducible assumption) | assumption)
                        obtain ⟨ad260, e260, hx260_0⟩ := Kd.at_int (Kd.R_reads' HO_10.out).2.2 a2 p260 q260
                        obtain rfl : ad259 = ad260 := (by injection e260)
                        replace p260 := eq_true p260
                        replace q260 := eq_true q260
                        have p261 : 0 ≤ (a2 : Int) := of_decide_eq_true (by first | (with_reducible assumption) | assumption)
                        have q261 : a2 < (t253.length : Int) := of_decide_eq_true (by first | (with_reducible assumption) | assumption)
                        obtain ⟨ad261, e261, hx261_0⟩ := Kd.at_int (Kd.R_reads' HO_10.out).2.2 a2 p261 q261
                        obtain rfl : ad259 = ad261 := (by injection e261)
                        replace p261 := eq_true p261
                        replace q261 := eq_true q261
                        go_wp2
                        go_ret
                        exact ⟨by first | rfl | (simp [errW_none, errW_some] <;> rfl) | (simp [*, errW_none, errW_some] <;> rfl), by repeat (first | (with_reducible first | exact HB.out | apply below_alloc | apply pw_below_drewN | apply below_drew1) | exact HB.out)⟩
                    · replace c22 := Bool.eq_false_iff.mpr c22
                      subst c22
                      have H1 : (some false) = some r := by rw [if_neg (show ¬ (false = true) by decide)] at H; exact H
                      clear H
                      have H := H1
                      clear H1
                      obtain rfl := Option.some.inj H
                      have p259 : 0 ≤ (a2 : Int) := of_decide_eq_true (by first | (with_reducible assumption) | assumption)
                      have q259 : a2 < (t253.length : Int) := of_decide_eq_true (by first | (with_reducible assumption) | assumption)
                      obtain ⟨ad259, e259, hx259_0⟩ := Kd.at_int (Kd.R_reads' HO_10.out).2.2 a2 p259 q259
                      cases e259
                      replace p259 := eq_true p259
                      replace q259 := eq_true q259
                      have p260 : 0 ≤ (a2 : Int) := of_decide_eq_true (by first | (with_reducible assumption) | assumption)
                      have q260 : a2 < (t253.length : Int) := of_decide_eq_true (by first | (with_reducible assumption) | assumption)
                      obtain ⟨ad260, e260, hx260_0⟩ := Kd.at_int (Kd.R_reads' HO_10.out).2.2 a2 p260 q260
                      obtain rfl : ad259 = ad260 := (by injection e260)
                      replace p260 := eq_true p260
                      replace q260 := eq_true q260
                      have p261 : 0 ≤ (a2 : Int) := of_decide_eq_true (by first | (with_reducible assumption) | assumption)
                      have q261 : a2 < (t253.length : Int) := of_decide_eq_true (by first | (with_reducible assumption) | assumption)
                      obtain ⟨ad261, e261, hx261_0⟩ := Kd.at_int (Kd.R_reads' HO_10.out).2.2 a2 p261 q261
                      obtain rfl : ad259 = ad261 := (by injection e261)
                      replace p261 := eq_true p261
                      replace q261 := eq_true q261
                      go_wp2
                      go_ret
                      exact ⟨by first | rfl | (simp [errW_none, errW_some] <;> rfl) | (simp [*, errW_none, errW_some] <;> rfl), by repeat (first | (with_reducible first | exact HB.out | apply below_alloc | apply pw_below_drewN | apply below_drew1) | exact HB.out)⟩
                  · rw [if_neg c21] at H
                    have c21b0 : decide (a3 < (wrap64 (2 * (rd t253 a2)))) = false := decide_eq_false c21
                    clear c21
                    by_cases c25 : t252 = true
                    · subst c25
                      have H1 : (if t257 = 0 then (some (!t258)) else (some false)) = some r := by rw [if_pos rfl] at H; exact H
                      clear H
                      have H := H1
                      clear H1
                      by_cases c26 : t257 = 0
                      · rw [if_pos c26] at H
                        have c26b0 : (t257 == 0) = true := beq_iff_eq.mpr c26
                        have c26b1 : (t257 != 0) = false := bne_eq_false_iff_eq.mpr c26
                        clear c26
                        obtain rfl := Option.some.inj H
                        have p259 : 0 ≤ (a2 : Int) := of_decide_eq_true (by first | (with_reducible assumption) | assumption)
                        have q259 : a2 < (t253.length : Int) := of_decide_eq_true (by first | (with_reducible assumption) | assumption)
                        obtain ⟨ad259, e259, hx259_0⟩ := Kd.at_int (Kd.R_reads' HO_10.out).2.2 a2 p259 q259
                        cases e259
                        replace p259 := eq_true p259
                        replace q259 := eq_true q259
                        have p260 : 0 ≤ (a2 : Int) := of_decide_eq_true (by first | (with_reducible assumption) | assumption)
                        have q260 : a2 < (t253.length : Int) := of_decide_eq_true (by first | (with_reducible assumption) | assumption)
                        obtain ⟨ad260, e260, hx260_0⟩ := Kd.at_int (Kd.R_reads' HO_10.out).2.2 a2 p260 q260
                        obtain rfl : ad259 = ad260 := (by injection e260)
                        replace p260 := eq_true p260
                        replace q260 := eq_true q260
                        have p261 : 0 ≤ (a2 : Int) := of_decide_eq_true (by first | (with_reducible assumption) | assumption)
                        have q261 : a2 < (t253.length : Int) := of_decide_eq_true (by first | (with_reducible assumption) | assumption)
                        obtain ⟨ad261, e261, hx261_0⟩ := Kd.at_int (Kd.R_reads' HO_10.out).2.2 a2 p261 q261
                        obtain rfl : ad259 = ad261 := (by injection e261)
                        replace p261 := eq_true p261
                        replace q261 := eq_true q261
                        go_wp2
                        go_ret
                        exact ⟨by first | rfl | (simp [errW_none, errW_some] <;> rfl) | (simp [*, errW_none, errW_some] <;> rfl), by repeat (first | (with_reducible first | exact HB.out | apply below_alloc | apply pw_below_drewN | apply below_drew1) | exact HB.out)⟩
                      · rw [if_neg c26] at H
                        have c26b0 : (t257 == 0) = false := beq_eq_false_iff_ne.mpr c26
                        have c26b1 : (t257 != 0) = true := bne_iff_ne.mpr c26
                        obtain rfl := Option.some.inj H
                        have p259 : 0 ≤ (a2 : Int) := of_decide_eq_true (by first | (with_reducible assumption) | assumption)
                        have q259 : a2 < (t253.length : Int) := of_decide_eq_true (by first | (with_reducible assumption) | assumption)
                        obtain ⟨ad259, e259, hx259_0⟩ := Kd.at_int (Kd.R_reads' HO_10.out).2.2 a2 p259 q259
                        cases e259
                        replace p259 := eq_true p259
                        replace q259 := eq_true q259
                        have p260 : 0 ≤ (a2 : Int) := of_decide_eq_true (by first | (with_reducible assumption) | assumption)
                        have q260 : a2 < (t253.length : Int) := of_decide_eq_true (by first | (with_reducible assumption) | assumption)
                        obtain ⟨ad260, e260, hx260_0⟩ := Kd.at_int (Kd.R_reads' HO_10.out).2.2 a2 p260 q260
                        obtain rfl : ad259 = ad260 := (by injection e260)
                        replace p260 := eq_true p260
                        replace q260 := eq_true q260
                        have p261 : 0 ≤ (a2 : Int) := of_decide_eq_true (by first | (with_reducible assumption) | assumption)
                        have q261 : a2 < (t253.length : Int) := of_decide_eq_true (by first | (with_reducible assumption) | assumption)
                        obtain ⟨ad261, e261, hx261_0⟩ := Kd.at_int (Kd.R_reads' HO_10.out).2.2 a2 p261 q261
                        obtain rfl : ad259 = ad261 := (by injection e261)
                        replace p261 := eq_true p261
                        replace q261 := eq_true q261
                        go_wp2
                        go_ret
                        exact ⟨by first | rfl | (simp [errW_none, errW_some] <;> rfl) | (simp [*, errW_none, errW_some] <;> rfl), by repeat (first | (with_reducible first | exact HB.out | apply below_alloc | apply pw_below_drewN | apply below_drew1) | exact HB.out)⟩
                    · replace c25 := Bool.eq_false_iff.mpr c25
                      subst c25
                      have H1 : (some false) = some r := by rw [if_neg (show ¬ (false = true) by decide)] at H; exact H
                      clear H
                      have H := H1
                      clear H1
                      obtain rfl := Option.some.inj H
                      have p259 : 0 ≤ (a2 : Int) := of_decide_eq_true (by first | (with_reducible assumption) | assumption)
                      have q259 : a2 < (t253.length : Int) := of_decide_eq_true (by first | (with_reducible assumption) | assumption)
                      obtain ⟨ad259, e259, hx259_0⟩ := Kd.at_int (Kd.R_reads' HO_10.out).2.2 a2 p259 q259
                      cases e259
                      replace p259 := eq_true p259
                      replace q259 := eq_true q259
                      have p260 : 0 ≤ (a2 : Int) := of_decide_eq_true (by first | (with_reducible assumption) | assumption)
                      have q260 : a2 < (t253.length : Int) := of_decide_eq_true (by first | (with_reducible assumption) | assumption)
                      obtain ⟨ad260, e260, hx260_0⟩ := Kd.at_int (Kd.R_reads' HO_10.out).2.2 a2 p260 q260
                      obtain rfl : ad259 = ad260 := (by injection e260)
                      replace p260 := eq_true p260
                      replace q260 := eq_true q260
                      have p261 : 0 ≤ (a2 : Int) := of_decide_eq_true (by first | (with_reducible assumption) | assumption)
                      have q261 : a2 < (t253.length : Int) := of_decide_eq_true (by first | (with_reducible assumption) | assumption)
                      obtain ⟨ad261, e261, hx261_0⟩ := Kd.at_int (Kd.R_reads' HO_10.out).2.2 a2 p261 q261
                      obtain rfl : ad259 = ad261 := (by injection e261)
                      replace p261 := eq_true p261
                      replace q261 := eq_true q261
                      go_wp2
                      go_ret
                      exact ⟨by first | rfl | (simp [errW_none, errW_some] <;> rfl) | (simp [*, errW_none, errW_some] <;> rfl), by repeat (first | (with_reducible first | exact HB.out | apply below_alloc | apply pw_below_drewN | apply below_drew1) | exact HB.out)⟩
                · rw [if_neg c20] at H
                  have c20b0 : decide ((rd t253 a2) ≤ a3) = false := decide_eq_false c20
                  clear c20
                  by_cases c27 : t252 = true
                  · subst c27
                    have H1 : (if t257 = 0 then (some (!t258)) else (some false)) = some r := by rw [if_pos rfl] at H; exact H
                    clear H
                    have H := H1
                    clear H1
                    by_cases c28 : t257 = 0
                    · rw [if_pos c28] at H
                      have c28b0 : (t257 == 0) = true := beq_iff_eq.mpr c28
                      have c28b1 : (t257 != 0) = false := bne_eq_false_iff_eq.mpr c28
                      clear c28
                      obtain rfl := Option.some.inj H
                      have p259 : 0 ≤ (a2 : Int) := of_decide_eq_true (by first | (with_reducible assumption) | assumption)
                      have q259 : a2 < (t253.length : Int) := of_decide_eq_true (by first | (with_reducible assumption) | assumption)
                      obtain ⟨ad259, e259, hx259_0⟩ := Kd.at_int (Kd.R_reads' HO_10.out).2.2 a2 p259 q259
                      cases e259
                      replace p259 := eq_true p259
                      replace q259 := eq_true q259
                      have p260 : 0 ≤ (a2 : Int) := of_decide_eq_true (by first | (with_reducible assumption) | assumption)
                      have q260 : a2 < (t253.length : Int) := of_decide_eq_true (by first | (with_reducible assumption) | assumption)
                      obtain ⟨ad260, e260, hx260_0⟩ := Kd.at_int (Kd.R_reads' HO_10.out).2.2 a2 p260 q260
                      obtain rfl : ad259 = ad260 := (by injection e260)
                      replace p260 := eq_true p260
                      replace q260 := eq_true q260
                      go_wp2
                      go_ret
                      exact ⟨by first | rfl | (simp [errW_none, errW_some] <;> rfl) | (simp [*, errW_none, errW_some] <;> rfl), by repeat (first | (with_reducible first | exact HB.out | apply below_alloc | apply pw_below_drewN | apply below_drew1) | exact HB.out)⟩
                    · rw [if_neg c28] at H
                      have c28b0 : (t257 == 0) = false := beq_eq_false_iff_ne.mpr c28
                      have c28b1 : (t257 != 0) = true := bne_iff_ne.mpr c28
                      obtain rfl := Option.some.inj H
                      have p259 : 0 ≤ (a2 : Int) := of_decide_eq_true (by first | (with_reducible assumption) | assumption)
                      have q259 : a2 < (t253.length : Int) := of_decide_eq_true (by first | (with_reducible assumption) | assumption)
                      obtain ⟨ad259, e259, hx259_0⟩ := Kd.at_int (Kd.R_reads' HO_10.out).2.2 a2 p259 q259
                      cases e259
                      replace p259 := eq_true p259
                      replace q259 := eq_true q259
                      have p260 : 0 ≤ (a2 : Int) := of_decide_eq_true (by first | (with_reducible assumption) | assumption)
                      have q260 : a2 < (t253.length : Int) := of_decide_eq_true (by first | (with_reducible assumption) | assumption)
                      obtain ⟨ad260, e260, hx260_0⟩ := Kd.at_int (Kd.R_reads' HO_10.out).2.2 a2 p260 q260
                      obtain rfl : ad259 = ad260 := (by injection e260)
                      replace p260 := eq_true p260
                      replace q260 := eq_true q260
                      go_wp2
                      go_ret
                      exact ⟨by first | rfl | (simp [errW_none, errW_some] <;> rfl) | (simp [*, errW_none, errW_some] <;> rfl), by repeat (first | (with_reducible first | exact HB.out | apply below_alloc | apply pw_below_drewN | apply below_drew1) | exact HB.out)⟩
                  · replace c27 := Bool.eq_false_iff.mpr c27
                    subst c27
                    have H1 : (some false) = some r := by rw [if_neg (show ¬ (false = true) by decide)] at H; exact H
                    clear H
                    have H := H1
                    clear H1
                    obtain rfl := Option.some.inj H
                    have p259 : 0 ≤ (a2 : Int) := of_decide_eq_true (by first | (with_reducible assumption) | assumption)
                    have q259 : a2 < (t253.length : Int) := of_decide_eq_true (by first | (with_reducible assumption) | assumption)
                    obtain ⟨ad259, e259, hx259_0⟩ := Kd.at_int (Kd.R_reads' HO_10.out).2.2 a2 p259 q259
                    cases e259
                    replace p259 := eq_true p259
                    replace q259 := eq_true q259
                    have p260 : 0 ≤ (a2 : Int) := of_decide_eq_true (by first | (with_reducible assumption) | assumption)
                    have q260 : a2 < (t253.length : Int) := of_decide_eq_true (by first | (with_reducible assumption) | assumption)
                    obtain ⟨ad260, e260, hx260_0⟩ := Kd.at_int (Kd.R_reads' HO_10.out).2.2 a2 p260 q260
                    obtain rfl : ad259 = ad260 := (by injection e260)
                    replace p260 := eq_true p260
                    replace q260 := eq_true q260
                    go_wp2
                    go_ret
                    exact ⟨by first | rfl | (simp [errW_none, errW_some] <;> rfl) | (simp [*, errW_none, errW_some] <;> rfl), by repeat (first | (with_reducible first | exact HB.out | apply below_alloc | apply pw_below_drewN | apply below_drew1) | exact HB.out)⟩
              · rw [if_neg c19] at H
                have c19b0 : decide (0 < (rd t253 a2)) = false := decide_eq_false c19
                clear c19
                by_cases c29 : t252 = true
                · subst c29
                  have H1 : (if t257 = 0 then (some (!t258)) else (some false)) = some r := by rw [if_pos rfl] at H; exact H
                  clear H
                  have H := H1
                  clear H1
                  by_cases c30 : t257 = 0
                  · rw [if_pos c30] at H
                    have c30b0 : (t257 == 0) = true := beq_iff_eq.mpr c30
                    have c30b1 : (t257 != 0) = false := bne_eq_false_iff_eq.mpr c30
                    clear c30
                    obtain rfl := Option.some.inj H
                    have p259 : 0 ≤ (a2 : Int) := of_decide_eq_true (by first | (with_reducible assumption) | assumption)
                    have q259 : a2 < (t253.length : Int) := of_decide_eq_true (by first | (with_reducible assumption) | assumption)
                    obtain ⟨ad259, e259, hx259_0⟩ := Kd.at_int (Kd.R_reads' HO_10.out).2.2 a2 p259 q259
                    cases e259
                    replace p259 := eq_true p259
                    replace q259 := eq_true q259
                    go_wp2
                    go_ret
                    exact ⟨by first | rfl | (simp [errW_none, errW_some] <;> rfl) | (simp [*, errW_none, errW_some] <;> rfl), by repeat (first | (with_reducible first | exact HB.out | apply below_alloc | apply pw_below_drewN | apply below_drew1) | exact HB.out)⟩
                  · rw [if_neg c30] at H
                    have c30b0 : (t257 == 0) = false := beq_eq_false_iff_ne.mpr c30
                    have c30b1 : (t257 != 0) = true := bne_iff_ne.mpr c30
                    obtain rfl := Option.some.inj H
                    have p259 : 0 ≤ (a2 : Int) := of_decide_eq_true (by first | (with_reducible assumption) | assumption)
                    have q259 : a2 < (t253.length : Int) := of_decide_eq_true (by first | (with_reducible assumption) | assumption)
                    obtain ⟨ad259, e259, hx259_0⟩ := Kd.at_int (Kd.R_reads' HO_10.out).2.2 a2 p259 q259
                    cases e259
                    replace p259 := eq_true p259
                    replace q259 := eq_true q259
                    go_wp2
                    go_ret
                    exact ⟨by first | rfl | (simp [errW_none, errW_some] <;> rfl) | (simp [*, errW_none, errW_some] <;> rfl), by repeat (first | (with_reducible first | exact HB.out | apply below_alloc | apply pw_below_drewN | apply below_drew1) | exact HB.out)⟩
                · replace c29 := Bool.eq_false_iff.mpr c29
                  subst c29
                  have H1 : (some false) = some r := by rw [if_neg (show ¬ (false = true) by decide)] at H; exact H
                  clear H
                  have H := H1
                  clear H1
                  obtain rfl := Option.some.inj H
                  have p259 : 0 ≤ (a2 : Int) := of_decide_eq_true (by first | (with_reducible assumption) | assumption)
                  have q259 : a2 < (t253.length : Int) := of_decide_eq_true (by first | (with_reducible assumption) | assumption)
                  obtain ⟨ad259, e259, hx259_0⟩ := Kd.at_int (Kd.R_reads' HO_10.out).2.2 a2 p259 q259
                  cases e259
                  replace p259 := eq_true p259
                  replace q259 := eq_true q259
                  go_wp2
                  go_ret
                  exact ⟨by first | rfl | (simp [errW_none, errW_some] <;> rfl) | (simp [*, errW_none, errW_some] <;> rfl), by repeat (first | (with_reducible first | exact HB.out | apply below_alloc | apply pw_below_drewN | apply below_drew1) | exact HB.out)⟩
            · rw [if_neg c18] at H
              exact absurd H (by simp)
          · rw [if_neg c17] at H
            exact absurd H (by simp)
        · replace c16 := Bool.eq_false_iff.mpr c16
          subst c16
          have H1 : (if t252 = true then (if t257 = 0 then (some (!t258)) else (some false)) else (some false)) = some r := by rw [if_neg (show ¬ (false = true) by decide)] at H; exact H
          clear H
          have H := H1
          clear H1
          by_cases c31 : t252 = true
          · subst c31
            have H1 : (if t257 = 0 then (some (!t258)) else (some false)) = some r := by rw [if_pos rfl] at H; exact H
            clear H
            have H := H1
            clear H1
            by_cases c32 : t257 = 0
            · rw [if_pos c32] at H
              have c32b0 : (t257 == 0) = true := beq_iff_eq.mpr c32
              have c32b1 : (t257 != 0) = false := bne_eq_false_iff_eq.mpr c32
              clear c32
              obtain rfl := Option.some.inj H
              go_wp2
              go_ret
              exact ⟨by first | rfl | (simp [errW_none, errW_some] <;> rfl) | (simp [*, errW_none, errW_some] <;> rfl), by repeat (first | (with_reducible first | exact HB.out | apply below_alloc | apply pw_below_drewN | apply below_drew1) | exact HB.out)⟩
            · rw [if_neg c32] at H
              have c32b0 : (t257 == 0) = false := beq_eq_false_iff_ne.mpr c32
              have c32b1 : (t257 != 0) = true := bne_iff_ne.mpr c32
              obtain rfl := Option.some.inj H
              go_wp2
              go_ret
              exact ⟨by first | rfl | (simp [errW_none, errW_some] <;> rfl) | (simp [*, errW_none, errW_some] <;> rfl), by repeat (first | (with_reducible first | exact HB.out | apply below_alloc | apply pw_below_drewN | apply below_drew1) | exact HB.out)⟩
          · replace c31 := Bool.eq_false_iff.mpr c31
            subst c31
            have H1 : (some false) = some r := by rw [if_neg (show ¬ (false = true) by decide)] at H; exact H
            clear H
            have H := H1
            clear H1
            obtain rfl := Option.some.inj H
            go_wp2
            go_ret
            exact ⟨by first | rfl | (simp [errW_none, errW_some] <;> rfl) | (simp [*, errW_none, errW_some] <;> rfl), by repeat (first | (with_reducible first | exact HB.out | apply below_alloc | apply pw_below_drewN | apply below_drew1) | exact HB.out)⟩

/-- THE ONE PURE STATEMENT of puncheonlaw10_SpreadPlaces: yours. -/
def puncheonlaw10_SpreadPlaces.Pure : Prop := ∀ (l0 : List Int) (a1 : Int) (a2 : Int) (a3 : Int), l0.length ≤ maxLen → l0.length * 2 ≤ 140737488351232 → (∀ x ∈ l0, (Lit.int .u16 x).wf = true) → (Lit.int .u8 a1).wf = true → (Lit.int .i64 a2).wf = true → (Lit.int .i64 a3).wf = true → ∃ k, puncheonlaw10_SpreadPlaces.f k l0 a1 a2 a3 = some true
theorem puncheonlaw10_SpreadPlaces.walk (P : puncheonlaw10_SpreadPlaces.Pure) (a0 : Option Addr) (len0 cap0 : Nat) (z0 : List Int) (a1 : Int) (a2 : Int) (a3 : Int) (w : World) (w0 : (a0 = none ∧ len0 = 0 ∧ cap0 = 0 ∧ z0 = []) ∨ ∃ x, a0 = some x ∧ len0 ≤ cap0 ∧ cap0 ≤ maxLen ∧ z0.length = cap0 ∧ (∀ i, i < z0.length → w.cell? (x.add i) = some (.int .u16 (z0.getD i 0))) ∧ ∀ n ∈ z0, (Lit.int .u16 n).wf = true) (y0 : len0 * 2 ≤ 140737488351232) (w1 : (Lit.int .u8 a1).wf = true) (w2 : (Lit.int .i64 a2).wf = true) (w3 : (Lit.int .i64 a3).wf = true) :
    Calls Try.prog 4 #[.slice a0 len0 cap0, .int .u8 a1, .int .i64 a2, .int .i64 a3] w fun e w' => e = .returned (.bool true) ∧ Below w.heap.size w w' := by
  obtain ⟨l0, rfl, hr0, hm0, hw0, hc0⟩ := ReadsInt.ofRowC w0
  obtain ⟨k, h⟩ := P l0 a1 a2 a3 hm0 y0 hw0 w1 w2 w3
  refine (puncheonlaw10_SpreadPlaces.calls k _ _ l0 a1 a2 a3 true w (Kd.C_of_reads (d := (0 : Int)) (h1 := fun _ => rfl) hr0) hc0 h).mono ?_
  rintro e w' ⟨rfl, hd⟩
  exact ⟨rfl, hd⟩

end Go.Proofs.Ytonicgihpjolmaa.PPr
