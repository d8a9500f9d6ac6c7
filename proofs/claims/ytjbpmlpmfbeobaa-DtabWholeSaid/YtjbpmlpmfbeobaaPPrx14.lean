/- The machine's side of this seat's laws: what each function computes, and that its call computes it; written by a program (pr.py over the kit's print.py). -/
import Derived.Test.YtjbpmlpmfbeobaaPPrx0
import Derived.Test.YtjbpmlpmfbeobaaPPrx8
import Derived.Test.YtjbpmlpmfbeobaaPPrx9
import Derived.Test.YtjbpmlpmfbeobaaPPrx10
import Derived.Test.YtjbpmlpmfbeobaaPPrx11
import Derived.Test.YtjbpmlpmfbeobaaPPrx13
namespace Go.Proofs.Ytjbpmlpmfbeobaa.PPr
open Go.RowKit Go.Proofs.YtjbpmlpmfbeobaaW.PrintWords Go.Proofs.YtjbpmlpmfbeobaaW.PrintLast Go.Proofs.YtjbpmlpmfbeobaaW.PrintMore
attribute [local go_sem] max2_int min2_int max_two min_two max_three min_three max_four min_four   -- for this text's walks alone
set_option linter.unusedVariables false
set_option linter.unusedSimpArgs false

/-! ### puncheonref08_Some: function 12 -/
mutual
def puncheonref08_Some.j0 : Nat → Int → List Int → Option (List Int × Int)
  | 0, _, _ => none
  | k + 1, x1, x6 => puncheonref08_Some.l0 k x6 (wrap64 (5 + (wrap64 (Int.tmod x1 5))))
def puncheonref08_Some.l0 : Nat → List Int → Int → Option (List Int × Int)
  | 0, _, _ => none
  | k + 1, x6, x7 => (puncheonref08_power.f k x7).bind fun t246 => ((puncheonref05_Many.f k x6).bind fun t247 => (if t246 < t247 then (puncheonref08_Some.l0 k x6 (wrap64 (x7 + 1))) else ((puncheonref08_Counts.f k x6 x7).bind fun bt248 => (some (bt248.1, x7)))))
end
def puncheonref08_Some.f (k : Nat) (l0 : List Int) (a1 : Int) : Option (List Int × Int) := (puncheonref05_Some.f k l0).bind fun t241 => ((puncheonref05_Total.f k t241).bind fun t244 => (if t244 = 0 then (if 7 < (t241.length : Int) then (puncheonref08_Some.j0 k a1 (t241.set (7 : Int).toNat 1)) else (none)) else (puncheonref08_Some.j0 k a1 t241)))
theorem puncheonref08_Some.mono_l : ∀ k, (∀ y0 y1, LeO (puncheonref08_Some.j0 k y0 y1) (puncheonref08_Some.j0 (k + 1) y0 y1)) ∧ (∀ y0 y1, LeO (puncheonref08_Some.l0 k y0 y1) (puncheonref08_Some.l0 (k + 1) y0 y1))
  | 0 => ⟨fun _ _ r h => by simp [puncheonref08_Some.j0] at h, fun _ _ r h => by simp [puncheonref08_Some.l0] at h⟩
  | k + 1 => by
    obtain ⟨ih0, ih1⟩ := puncheonref08_Some.mono_l k
    refine ⟨?_, ?_⟩
    · intro y0 y1
      unfold puncheonref08_Some.j0
      repeat' first
      | (with_reducible exact ih0 _ _)
      | (with_reducible exact ih1 _ _)
      | (with_reducible exact puncheonref05_Many.mono _ _)
      | (with_reducible exact puncheonref05_Some.mono _ _)
      | (with_reducible exact puncheonref05_Total.mono _ _)
      | (with_reducible exact puncheonref08_Counts.mono _ _ _)
      | (with_reducible exact puncheonref08_power.mono _ _)
      | (with_reducible exact LeO.refl _)
      | (with_reducible exact LeO.none _)
      | (with_reducible refine LeO.ite ?_ ?_)
      | (with_reducible refine LeO.bind ?_ (fun _ => ?_))
      | exact ih0 _ _
      | exact ih1 _ _
      | exact puncheonref05_Many.mono _ _
      | exact puncheonref05_Some.mono _ _
      | exact puncheonref05_Total.mono _ _
      | exact puncheonref08_Counts.mono _ _ _
      | exact puncheonref08_power.mono _ _
      | exact LeO.none _
      | refine LeO.ite ?_ ?_
      | refine LeO.bind ?_ (fun _ => ?_)
    · intro y0 y1
      unfold puncheonref08_Some.l0
      repeat' first
      | (with_reducible exact ih0 _ _)
      | (with_reducible exact ih1 _ _)
      | (with_reducible exact puncheonref05_Many.mono _ _)
      | (with_reducible exact puncheonref05_Some.mono _ _)
      | (with_reducible exact puncheonref05_Total.mono _ _)
      | (with_reducible exact puncheonref08_Counts.mono _ _ _)
      | (with_reducible exact puncheonref08_power.mono _ _)
      | (with_reducible exact LeO.refl _)
      | (with_reducible exact LeO.none _)
      | (with_reducible refine LeO.ite ?_ ?_)
      | (with_reducible refine LeO.bind ?_ (fun _ => ?_))
      | exact ih0 _ _
      | exact ih1 _ _
      | exact puncheonref05_Many.mono _ _
      | exact puncheonref05_Some.mono _ _
      | exact puncheonref05_Total.mono _ _
      | exact puncheonref08_Counts.mono _ _ _
      | exact puncheonref08_power.mono _ _
      | exact LeO.none _
      | refine LeO.ite ?_ ?_
      | refine LeO.bind ?_ (fun _ => ?_)
theorem puncheonref08_Some.mono : ∀ a0 a1 k, LeO (puncheonref08_Some.f k a0 a1) (puncheonref08_Some.f (k + 1) a0 a1) := by
  intro a0 a1 k
  obtain ⟨ih0, ih1⟩ := puncheonref08_Some.mono_l k
  unfold puncheonref08_Some.f
  repeat' first
      | (with_reducible exact ih0 _ _)
      | (with_reducible exact ih1 _ _)
      | (with_reducible exact puncheonref05_Many.mono _ _)
      | (with_reducible exact puncheonref05_Some.mono _ _)
      | (with_reducible exact puncheonref05_Total.mono _ _)
      | (with_reducible exact puncheonref08_Counts.mono _ _ _)
      | (with_reducible exact puncheonref08_power.mono _ _)
      | (with_reducible exact LeO.refl _)
      | (with_reducible exact LeO.none _)
      | (with_reducible refine LeO.ite ?_ ?_)
      | (with_reducible refine LeO.bind ?_ (fun _ => ?_))
      | exact ih0 _ _
      | exact ih1 _ _
      | exact puncheonref05_Many.mono _ _
      | exact puncheonref05_Some.mono _ _
      | exact puncheonref05_Total.mono _ _
      | exact puncheonref08_Counts.mono _ _ _
      | exact puncheonref08_power.mono _ _
      | exact LeO.none _
      | refine LeO.ite ?_ ?_
      | refine LeO.bind ?_ (fun _ => ?_)
set_option maxHeartbeats 8000000 in
set_option maxRecDepth 100000 in
theorem puncheonref08_Some.calls (k : Nat) (A0 : Option Addr) (c0 : Nat) (l0 : List Int) (a1 : Int) (r1 : List Int) (r2 : Int) (w : World) (hr0 : Kd.C (Kd.int .u16) w A0 l0.length l0) (hc0 : l0.length ≤ c0) (h : puncheonref08_Some.f k l0 a1 = some (r1, r2)) :
    Calls Try.prog 12 #[.slice A0 l0.length c0, .int .u8 a1] w fun e w' => ∃ v0_ : Value, e = .returned (.tuple #[v0_, .int .i64 r2]) ∧ Kd.R (Kd.int .i64) 3 w' w.heap.size (fun _ => True) v0_ r1 ∧ Below w.heap.size w w' := by
  have HR0 := Aside0.mk hr0
  have HC0 := Aside0.mk hc0
  clear hr0 hc0
  have HB := Aside0.mk (Below.refl w.heap.size w)
  have H : ((puncheonref05_Some.f k l0).bind fun t241 => ((puncheonref05_Total.f k t241).bind fun t244 => (if t244 = 0 then (if 7 < (t241.length : Int) then (puncheonref08_Some.j0 k a1 (t241.set (7 : Int).toNat 1)) else (none)) else (puncheonref08_Some.j0 k a1 t241)))) = some (r1, r2) := h
  clear h
  replace H := Option.bind_eq_some_iff.mp H
  obtain ⟨t241, A30, H⟩ := H
  replace H : ((puncheonref05_Total.f k t241).bind fun t244 => (if t244 = 0 then (if 7 < (t241.length : Int) then (puncheonref08_Some.j0 k a1 (t241.set (7 : Int).toNat 1)) else (none)) else (puncheonref08_Some.j0 k a1 t241))) = some (r1, r2) := H
  have A3 := Aside0.mk A30
  clear A30
  replace H := Option.bind_eq_some_iff.mp H
  obtain ⟨t244, A40, H⟩ := H
  replace H : (if t244 = 0 then (if 7 < (t241.length : Int) then (puncheonref08_Some.j0 k a1 (t241.set (7 : Int).toNat 1)) else (none)) else (puncheonref08_Some.j0 k a1 t241)) = some (r1, r2) := H
  have A4 := Aside0.mk A40
  clear A40
  have HC5 := Aside0.mk H
  clear H
  go_enter Try.func12, Try.ntmps12
  go_upto_if 14 with (first | ((with_reducible refine gate_callee (f := 21) rfl ?_); refine goesL_ (some 11) rfl rfl Try.func21 (by kernel_rfl) rfl #[.slice A0 l0.length c0] rfl (by (try simp only [List.map_toArray, List.map_cons, List.map_nil]); first | done | rfl | (simp only [List.length_drop, List.length_take]; rfl)) ?_; (with_reducible refine (puncheonref05_Some.calls k _ _ l0 t241 _ ?side1 ?side2 A3.out).mono ?_); (case side1 => repeat (first | exact HR0.out | (with_reducible refine Kd.C_alloc ?_ _) | (with_reducible refine Kd.C_drewN ?_ _) | (with_reducible refine Kd.C_drew ?_))); (case side2 => exact HC0.out); rintro e w6 ⟨v242, rfl, ho0, hb⟩; refine ⟨_, rfl, ?_⟩; have n0_ := Aside0.mk (Kd.R_lower ho0 (below_size (by repeat (first | (with_reducible first | exact HB.out | apply below_alloc | apply pw_below_drewN | apply below_drew1) | exact HB.out)))); have n1_ := Aside0.mk (below_step (by repeat (first | (with_reducible first | exact HB.out | apply below_alloc | apply pw_below_drewN | apply below_drew1) | exact HB.out)) hb); clear HB; have HO243 := n0_; have HB := n1_; clear n0_ n1_; (try clear hb); (try clear hb2); (try clear hk); (try clear hi); (try clear ho0); obtain ⟨Ao7, co7, eo7⟩ := Kd.R_slice HO243.out; subst eo7) | ((with_reducible refine gate_callee (f := 22) rfl ?_); refine goesL_ (some 13) rfl rfl Try.func22 (by kernel_rfl) rfl #[.slice Ao7 t241.length co7] rfl (by (try simp only [List.map_toArray, List.map_cons, List.map_nil]); first | done | rfl | (simp only [List.length_drop, List.length_take]; rfl)) ?_; (with_reducible refine (puncheonref05_Total.calls k _ _ t241 t244 _ ?side1 ?side2 A4.out).mono ?_); (case side1 => repeat (first | exact (Kd.R_reads' HO243.out).2.2 | (with_reducible refine Kd.C_alloc ?_ _) | (with_reducible refine Kd.C_drewN ?_ _) | (with_reducible refine Kd.C_drew ?_))); (case side2 => exact (Kd.R_reads' HO243.out).2.1); rintro e w' ⟨rfl, ⟨nd, rfl⟩⟩; refine ⟨_, rfl, ?_⟩))
  (try simp only [Act.put, List.setIfInBounds_toArray, List.set_cons_zero, List.set_cons_succ])
  go_cut [] (fun wc => ∃ (kq : Nat) (x6_4 : List Int), Aside0 (puncheonref08_Some.j0 kq a1 x6_4 = some (r1, r2)) ∧ Aside0 (kq ≤ k) ∧ Aside0 (Kd.R (Kd.int .i64) 3 wc w.heap.size (fun _ => True) (.slice Ao7 t241.length co7) x6_4) ∧ Aside0 (Below w.heap.size w wc))
  case first =>
    have H := HC5.out
    clear HC5
    by_cases c8 : t244 = 0
    · rw [if_pos c8] at H
      have c8b0 : (t244 == 0) = true := beq_iff_eq.mpr c8
      have c8b1 : (t244 != 0) = false := bne_eq_false_iff_eq.mpr c8
      clear c8
      (first | rw [c8b0] | (simp only [i64_w, i32_w]; rw [c8b0]) | skip)
      by_cases c9 : 7 < (t241.length : Int)
      · rw [if_pos c9] at H
        have c9b0 : decide (7 < (t241.length : Int)) = true := decide_eq_true c9
        have c9b1 : decide (7 < t241.length) = true := decide_eq_true (by omega)
        clear c9
        obtain ⟨y245, hy245⟩ : ∃ y_ : List Int, y_ = (t241.set (7 : Int).toNat 1) := ⟨_, rfl⟩
        replace H : (puncheonref08_Some.j0 k a1 y245) = some (r1, r2) := by first | (rw [hy245]; with_reducible exact H) | (have H2_ := (Option.bind_some _ _).symm.trans H; rw [hy245]; with_reducible exact H2_) | (have H2_ := (Option.bind_some _ _).symm.trans H; with_reducible exact H2_) | with_reducible exact H | (rw [hy245]; exact H) | exact H
        have Ny245 := Aside0.mk hy245
        clear hy245
        have H' := Aside0.mk H
        clear H
        have p10 : 0 ≤ (7 : Int) := (by omega)
        have q10 : (7 : Int) < ((t241.length : Int) : Int) := of_decide_eq_true (by first | (with_reducible assumption) | assumption)
        have qi10 : (7 < t241.length) = True := eq_true (by omega)
        obtain ⟨go10, co10, eo10, gb10, gl10, cl10, HG10⟩ := Kd.R_form HO243.out (by omega)
        (first | cases eo10 | (injection eo10 with ea_ en_ ec_; (first | subst ea_ | (injection ea_ with ea_; subst ea_)); subst ec_; clear en_))
        have GB10 := Aside0.mk gb10
        have GG10 := Aside0.mk HG10
        clear gb10 gl10 HG10
        obtain ⟨hx10_0, hf10_0⟩ := Kd.R_celln 0 HO243.out (7 : Int) p10 q10
        (try rw [show ((7 : Int)).toNat = 7 from rfl] at hx10_0)
        (try simp only [Nat.reduceMul, Nat.zero_mul, Nat.zero_add, Nat.reduceAdd] at hx10_0)
        (try rw [show ((7 : Int)).toNat = 7 from rfl] at hf10_0)
        (try simp only [Nat.reduceMul, Nat.zero_mul, Nat.zero_add, Nat.reduceAdd] at hf10_0)
        replace p10 := eq_true p10
        replace q10 := eq_true q10
        have HP11 := Kd.R_putg HO243.out (7 : Int) 1
        go_wp2_with (first | ((with_reducible refine gate_store (t := 3) (p := 16) rfl ?_); refine store_event (t := 3) (p := 16) (v := ?vo_w12) (w1 := (w6.setCell ⟨go10, (7 : Int).toNat, none⟩ (.int .i64 1))) ?hg ?ho ?hn ?hr ?_; (case ho => rfl); (case hg => rfl); (case hn => rfl); (case hr => first | (go_simp; done) | (go_simp; rfl)); intro w12 hw; have hg : w6.grownBy w12 (some go10) := (by rw [hw]; exact HP11.2); have hp_ : Kd.R (Kd.int .i64) 3 w12 w.heap.size (fun _ => True) (.slice (some ⟨go10, 0, none⟩) t241.length co7) y245 := (by rw [hw, Ny245.out]; exact HP11.1); clear HP11; have n0_ := Aside0.mk (hp_); have n1_ := Aside0.mk ((by rw [hw]; exact below_set (HB.out) GB10.out : Below w.heap.size w w12)); clear HO243; clear HB; have HO243 := n0_; have HB := n1_; clear n0_ n1_; clear hg hw hp_))
        go_meet
        case rel => exact ⟨_, (y245), H', ⟨by first | omega | exact Nat.le_refl _⟩, ⟨by (with_reducible repeat (first | apply Kd.R_alloc | apply Kd.R_drewN | apply Kd.R_drew)); first | exact HO243.out | (rw [Ny245.out]; exact (Kd.R_putg (Kd.R_drewN HO243.out _) (7 : Int) 1).1)⟩, ⟨by first | exact below_set (pw_below_drewN HB.out _) GB10.out | repeat (first | (with_reducible first | exact HB.out | apply below_alloc | apply pw_below_drewN | apply below_drew1) | exact HB.out)⟩⟩
      · rw [if_neg c9] at H
        exact absurd H (by simp)
    · rw [if_neg c8] at H
      have c8b0 : (t244 == 0) = false := beq_eq_false_iff_ne.mpr c8
      have c8b1 : (t244 != 0) = true := bne_iff_ne.mpr c8
      (first | rw [c8b0] | (simp only [i64_w, i32_w]; rw [c8b0]) | skip)
      have H' := Aside0.mk H
      clear H
      go_wp2
      go_meet
      case rel => exact ⟨_, (t241), H', ⟨by first | omega | exact Nat.le_refl _⟩, ⟨by (with_reducible repeat (first | apply Kd.R_alloc | apply Kd.R_drewN | apply Kd.R_drew)); exact HO243.out⟩, ⟨by repeat (first | (with_reducible first | exact HB.out | apply below_alloc | apply pw_below_drewN | apply below_drew1) | exact HB.out)⟩⟩
  case rest =>
    clear HC5
    try clear c1
    try clear p1
    try clear q1
    try clear hx1
    try clear qi1
    try clear c2
    try clear p2
    try clear c8
    try clear c8b0
    try clear c8b1
    try clear c9
    try clear c9b0
    try clear c9b1
    try clear p10
    try clear q10
    try clear hx10
    try clear qi10
    try clear hf10
    try clear c12
    try clear hx10_0
    try clear p10
    try clear q10
    obtain ⟨kq, x6_4, HA, HJ4, HO_6, HB⟩ := hcut
    have hl6_4 := (Kd.R_reads' HO_6.out).1
    rw [hl6_4] at HO_6
    (try simp only [hl6_4])
    cases kq with
    | zero => exact absurd HA.out (by simp [puncheonref08_Some.j0])
    | succ kj4 =>
      have H := HA.out
      clear HA
      simp only [puncheonref08_Some.j0] at H
      have H' := Aside0.mk H
      clear H
      go_wp2
      go_loopg [7] kj4 (fun kq v7 w' => ∃ (x7_2 : Int), v7 = .int .i64 x7_2 ∧ Aside0 (puncheonref08_Some.l0 kq x6_4 x7_2 = some (r1, r2)) ∧ Aside0 (kq ≤ kj4) ∧ Aside0 (Kd.R (Kd.int .i64) 3 w' w.heap.size (fun _ => True) (.slice Ao7 x6_4.length co7) x6_4) ∧ Aside0 (Below w.heap.size w w'))
      case atStart => exact ⟨(wrap64 (5 + (wrap64 (Int.tmod a1 5)))), (by first | rfl | (simp; done) | (simp [*]; done)), H', ⟨Nat.le_refl _⟩, ⟨by (try simp only [hl6_4]); (with_reducible repeat (first | apply Kd.R_alloc | apply Kd.R_drewN | apply Kd.R_drew)); exact HO_6.out⟩, ⟨by repeat (first | (with_reducible first | exact HB.out | apply below_alloc | apply pw_below_drewN | apply below_drew1) | exact HB.out)⟩⟩
      case round =>
        clear H'
        try clear c1
        try clear p1
        try clear q1
        try clear hx1
        try clear qi1
        try clear c2
        try clear p2
        try clear p6
        try clear c8
        try clear c8b0
        try clear c8b1
        try clear c9
        try clear c9b0
        try clear c9b1
        try clear p10
        try clear q10
        try clear hx10
        try clear qi10
        try clear hf10
        try clear c12
        try clear hx10_0
        try clear p1
        try clear p10
        try clear p2
        try clear q1
        try clear q10
        obtain ⟨x7_2, rfl, HA, HK2, HO_6, HB⟩ := hrel
        cases gk with
        | zero => exact absurd HA.out (by simp [puncheonref08_Some.l0])
        | succ k2 =>
          have H := HA.out
          clear HA
          simp only [puncheonref08_Some.l0] at H
          replace H := Option.bind_eq_some_iff.mp H
          obtain ⟨t246, A130, H⟩ := H
          replace H : ((puncheonref05_Many.f k2 x6_4).bind fun t247 => (if t246 < t247 then (puncheonref08_Some.l0 k2 x6_4 (wrap64 (x7_2 + 1))) else ((puncheonref08_Counts.f k2 x6_4 x7_2).bind fun bt248 => (some (bt248.1, x7_2))))) = some (r1, r2) := H
          have A13 := Aside0.mk A130
          clear A130
          replace H := Option.bind_eq_some_iff.mp H
          obtain ⟨t247, A140, H⟩ := H
          replace H : (if t246 < t247 then (puncheonref08_Some.l0 k2 x6_4 (wrap64 (x7_2 + 1))) else ((puncheonref08_Counts.f k2 x6_4 x7_2).bind fun bt248 => (some (bt248.1, x7_2)))) = some (r1, r2) := H
          have A14 := Aside0.mk A140
          clear A140
          by_cases c15 : t246 < t247
          · rw [if_pos c15] at H
            have c15b0 : decide (t246 < t247) = true := decide_eq_true c15
            clear c15
            have H' := Aside0.mk H
            clear H
            go_wp2_with (first | ((with_reducible refine gate_callee (f := 23) rfl ?_); refine goesL_ (some 22) rfl rfl Try.func23 (by kernel_rfl) rfl #[.int .i64 x7_2] rfl (by (try simp only [List.map_toArray, List.map_cons, List.map_nil]); first | done | rfl | (simp only [List.length_drop, List.length_take]; rfl)) ?_; (with_reducible refine (puncheonref08_power.calls k2 x7_2 t246 _ A13.out).mono ?_); rintro e w' ⟨rfl, ⟨nd, rfl⟩⟩; refine ⟨_, rfl, ?_⟩) | ((with_reducible refine gate_callee (f := 24) rfl ?_); refine goesL_ (some 24) rfl rfl Try.func24 (by kernel_rfl) rfl #[.slice Ao7 x6_4.length co7] rfl (by (try simp only [List.map_toArray, List.map_cons, List.map_nil]); first | done | rfl | (simp only [List.length_drop, List.length_take]; rfl)) ?_; (with_reducible refine (puncheonref05_Many.calls k2 _ _ x6_4 t247 _ ?side1 ?side2 A14.out).mono ?_); (case side1 => repeat (first | exact (Kd.R_reads' HO_6.out).2.2 | (with_reducible refine Kd.C_alloc ?_ _) | (with_reducible refine Kd.C_drewN ?_ _) | (with_reducible refine Kd.C_drew ?_))); (case side2 => exact (Kd.R_reads' HO_6.out).2.1); rintro e w' ⟨rfl, ⟨nd, rfl⟩⟩; refine ⟨_, rfl, ?_⟩))
            go_roundg k2
            case measure => have := HJ4.out; have := HK2.out; omega
            case rel => exact ⟨(wrap64 (x7_2 + 1)), (by first | rfl | (simp; done) | (simp [*]; done)), H', ⟨by have := HJ4.out; have := HK2.out; omega⟩, ⟨by (try simp only [hl6_4]); (with_reducible repeat (first | apply Kd.R_alloc | apply Kd.R_drewN | apply Kd.R_drew)); exact HO_6.out⟩, ⟨by repeat (first | (with_reducible first | exact HB.out | apply below_alloc | apply pw_below_drewN | apply below_drew1) | exact HB.out)⟩⟩
          · rw [if_neg c15] at H
            have c15b0 : decide (t246 < t247) = false := decide_eq_false c15
            clear c15
            replace H := Option.bind_eq_some_iff.mp H
            obtain ⟨⟨t248, t249⟩, A160, H⟩ := H
            replace H : (some (t248, x7_2)) = some (r1, r2) := H
            have A16 := Aside0.mk A160
            clear A160
            simp only [Option.some.injEq, Prod.mk.injEq] at H
            obtain ⟨rfl, rfl⟩ := H
            go_wp2_with (first | ((with_reducible refine gate_callee (f := 23) rfl ?_); refine goesL_ (some 22) rfl rfl Try.func23 (by kernel_rfl) rfl #[.int .i64 x7_2] rfl (by (try simp only [List.map_toArray, List.map_cons, List.map_nil]); first | done | rfl | (simp only [List.length_drop, List.length_take]; rfl)) ?_; (with_reducible refine (puncheonref08_power.calls k2 x7_2 t246 _ A13.out).mono ?_); rintro e w' ⟨rfl, ⟨nd, rfl⟩⟩; refine ⟨_, rfl, ?_⟩) | ((with_reducible refine gate_callee (f := 24) rfl ?_); refine goesL_ (some 24) rfl rfl Try.func24 (by kernel_rfl) rfl #[.slice Ao7 x6_4.length co7] rfl (by (try simp only [List.map_toArray, List.map_cons, List.map_nil]); first | done | rfl | (simp only [List.length_drop, List.length_take]; rfl)) ?_; (with_reducible refine (puncheonref05_Many.calls k2 _ _ x6_4 t247 _ ?side1 ?side2 A14.out).mono ?_); (case side1 => repeat (first | exact (Kd.R_reads' HO_6.out).2.2 | (with_reducible refine Kd.C_alloc ?_ _) | (with_reducible refine Kd.C_drewN ?_ _) | (with_reducible refine Kd.C_drew ?_))); (case side2 => exact (Kd.R_reads' HO_6.out).2.1); rintro e w' ⟨rfl, ⟨nd, rfl⟩⟩; refine ⟨_, rfl, ?_⟩) | ((with_reducible refine gate_callee (f := 25) rfl ?_); refine goesL_ (some 31) rfl rfl Try.func25 (by kernel_rfl) rfl #[.slice Ao7 x6_4.length co7, .int .i64 x7_2] rfl (by (try simp only [List.map_toArray, List.map_cons, List.map_nil]); first | done | rfl | (simp only [List.length_drop, List.length_take]; rfl)) ?_; (with_reducible refine (puncheonref08_Counts.calls k2 _ _ x6_4 x7_2 t248 t249 _ ?side1 ?side2 A16.out).mono ?_); (case side1 => repeat (first | exact (Kd.R_reads' HO_6.out).2.2 | (with_reducible refine Kd.C_alloc ?_ _) | (with_reducible refine Kd.C_drewN ?_ _) | (with_reducible refine Kd.C_drew ?_))); (case side2 => exact (Kd.R_reads' HO_6.out).2.1); rintro e w17 ⟨v250, rfl, ho0, hb⟩; refine ⟨_, rfl, ?_⟩; have n0_ := Aside0.mk (Kd.R_elder' (by (with_reducible repeat (first | apply Kd.R_alloc | apply Kd.R_drewN | apply Kd.R_drew)); exact HO_6.out) (Kd.R_base ho0) hb); have n1_ := Aside0.mk (Kd.R_lower (Kd.R_new' ho0 (Kd.R_lt (by (with_reducible repeat (first | apply Kd.R_alloc | apply Kd.R_drewN | apply Kd.R_drew)); exact HO_6.out))) (below_size (by repeat (first | (with_reducible first | exact HB.out | apply below_alloc | apply pw_below_drewN | apply below_drew1) | exact HB.out)))); have n2_ := Aside0.mk (below_step (by repeat (first | (with_reducible first | exact HB.out | apply below_alloc | apply pw_below_drewN | apply below_drew1) | exact HB.out)) hb); clear HO_6; clear HB; have HO_6 := n0_; have HO251 := n1_; have HB := n2_; clear n0_ n1_ n2_; (try clear hb); (try clear hb2); (try clear hk); (try clear hi); (try clear ho0)))
            go_ret2
            exact ⟨_, by first | rfl | (simp [errW_none, errW_some] <;> rfl) | (simp [*, errW_none, errW_some] <;> rfl), by (with_reducible repeat (first | apply Kd.R_alloc | apply Kd.R_drewN | apply Kd.R_drew)); exact Kd.R_mono HO251.out (fun _ hk => trivial), by repeat (first | (with_reducible first | exact HB.out | apply below_alloc | apply pw_below_drewN | apply below_drew1) | exact HB.out)⟩

/-! ### puncheonlaw11_DtabWhole: function 4 -/
def puncheonlaw11_DtabWhole.j0 : Nat → Int → Int → Bool → List (S37) → Bool → Option (Bool)
  | 0, _, _, _, _, _ => none
  | k + 1, x2, x3, x9, x12, x46 => if x46 = true then (some false) else ((some (([] : List (S37)) : List (S37))).bind fun y262 => (if y262.length + x12.length < 5864062014805 then ((some (y262 ++ x12 : List (S37))).bind fun y265 => (if (y265.length : Int) = 0 then (none) else (if 0 ≤ (Int.tmod (wrap64 (x2)) (y265.length : Int)) then (if (Int.tmod (wrap64 (x2)) (y265.length : Int)) < (y265.length : Int) then ((some (([] : List (S37)) : List (S37))).bind fun y270 => (if y270.length + x12.length < 5864062014805 then ((some (y270 ++ x12 : List (S37))).bind fun y273 => (if (Int.tmod (wrap64 (x2)) (y265.length : Int)) < (y273.length : Int) then (if x9 = true then ((dtab_Whole.f k (y265.set ((Int.tmod (wrap64 (x2)) (y265.length : Int)) : Int).toNat (⟨(rd_T37 y265 (Int.tmod (wrap64 (x2)) (y265.length : Int))).f0, (rd_T37 y265 (Int.tmod (wrap64 (x2)) (y265.length : Int))).f1, wrap64 (((rd_T37 y265 (Int.tmod (wrap64 (x2)) (y265.length : Int))).f2) + (wrap64 (x3)))⟩ : S37))).bind fun t278 => (if (t278 == (x3 == 0)) = true then ((dtab_Whole.f k (y273.set ((Int.tmod (wrap64 (x2)) (y265.length : Int)) : Int).toNat (⟨(rd_T37 y273 (Int.tmod (wrap64 (x2)) (y265.length : Int))).f0, wrap64 (((rd_T37 y273 (Int.tmod (wrap64 (x2)) (y265.length : Int))).f1) + 1), (rd_T37 y273 (Int.tmod (wrap64 (x2)) (y265.length : Int))).f2⟩ : S37))).bind fun t279 => (some (!t279))) else (some false))) else (some false)) else (none))) else (none))) else (none)) else (none)))) else (none)))
def puncheonlaw11_DtabWhole.f (k : Nat) (l0 : List Int) (a1 : Int) (a2 : Int) (a3 : Int) : Option (Bool) := (puncheonlaw11_awake.f k).bind fun t252 => (if (l0.length : Int) > 80 then (some t252) else ((puncheonref08_Some.f k l0 a1).bind fun bt253 => ((dtab_Of.f k bt253.1).bind fun bt257 => (if bt257.2 = 0 then (if 0 ≤ bt253.2 then (if (bt257.1.length : Int) = (shl .i64 1 bt253.2) then ((dtab_Whole.f k bt257.1).bind fun t261 => (puncheonlaw11_DtabWhole.j0 k a2 a3 t252 bt257.1 (!t261))) else (puncheonlaw11_DtabWhole.j0 k a2 a3 t252 bt257.1 true)) else (none)) else (puncheonlaw11_DtabWhole.j0 k a2 a3 t252 bt257.1 true)))))
theorem puncheonlaw11_DtabWhole.mono_l : ∀ k, (∀ y0 y1 y2 y3 y4, LeO (puncheonlaw11_DtabWhole.j0 k y0 y1 y2 y3 y4) (puncheonlaw11_DtabWhole.j0 (k + 1) y0 y1 y2 y3 y4))
  | 0 => fun _ _ _ _ _ r h => by simp [puncheonlaw11_DtabWhole.j0] at h
  | k + 1 => by
    have ih0 := puncheonlaw11_DtabWhole.mono_l k
    · intro y0 y1 y2 y3 y4
      unfold puncheonlaw11_DtabWhole.j0
      repeat' first
      | (with_reducible exact ih0 _ _ _ _ _)
      | (with_reducible exact dtab_Of.mono _ _)
      | (with_reducible exact dtab_Whole.mono _ _)
      | (with_reducible exact puncheonlaw11_awake.mono _)
      | (with_reducible exact puncheonref08_Some.mono _ _ _)
      | (with_reducible exact LeO.refl _)
      | (with_reducible exact LeO.none _)
      | (with_reducible refine LeO.ite ?_ ?_)
      | (with_reducible refine LeO.bind ?_ (fun _ => ?_))
      | exact ih0 _ _ _ _ _
      | exact dtab_Of.mono _ _
      | exact dtab_Whole.mono _ _
      | exact puncheonlaw11_awake.mono _
      | exact puncheonref08_Some.mono _ _ _
      | exact LeO.none _
      | refine LeO.ite ?_ ?_
      | refine LeO.bind ?_ (fun _ => ?_)
theorem puncheonlaw11_DtabWhole.mono : ∀ a0 a1 a2 a3 k, LeO (puncheonlaw11_DtabWhole.f k a0 a1 a2 a3) (puncheonlaw11_DtabWhole.f (k + 1) a0 a1 a2 a3) := by
  intro a0 a1 a2 a3 k
  have ih0 := puncheonlaw11_DtabWhole.mono_l k
  unfold puncheonlaw11_DtabWhole.f
  repeat' first
      | (with_reducible exact ih0 _ _ _ _ _)
      | (with_reducible exact dtab_Of.mono _ _)
      | (with_reducible exact dtab_Whole.mono _ _)
      | (with_reducible exact puncheonlaw11_awake.mono _)
      | (with_reducible exact puncheonref08_Some.mono _ _ _)
      | (with_reducible exact LeO.refl _)
      | (with_reducible exact LeO.none _)
      | (with_reducible refine LeO.ite ?_ ?_)
      | (with_reducible refine LeO.bind ?_ (fun _ => ?_))
      | exact ih0 _ _ _ _ _
      | exact dtab_Of.mono _ _
      | exact dtab_Whole.mono _ _
      | exact puncheonlaw11_awake.mono _
      | exact puncheonref08_Some.mono _ _ _
      | exact LeO.none _
      | refine LeO.ite ?_ ?_
      | refine LeO.bind ?_ (fun _ => ?_)
set_option maxHeartbeats 8000000 in
set_option maxRecDepth 100000 in
theorem puncheonlaw11_DtabWhole.calls (k : Nat) (A0 : Option Addr) (c0 : Nat) (l0 : List Int) (a1 : Int) (a2 : Int) (a3 : Int) (r : Bool) (w : World) (hr0 : Kd.C (Kd.int .u16) w A0 l0.length l0) (hc0 : l0.length ≤ c0) (h : puncheonlaw11_DtabWhole.f k l0 a1 a2 a3 = some r) :
    Calls Try.prog 4 #[.slice A0 l0.length c0, .int .u8 a1, .int .u16 a2, .int .i8 a3] w fun e w' => e = .returned (.bool r) ∧ Below w.heap.size w w' := by
  have HR0 := Aside0.mk hr0
  have HC0 := Aside0.mk hc0
  clear hr0 hc0
  have HB := Aside0.mk (Below.refl w.heap.size w)
  have H : ((puncheonlaw11_awake.f k).bind fun t252 => (if (l0.length : Int) > 80 then (some t252) else ((puncheonref08_Some.f k l0 a1).bind fun bt253 => ((dtab_Of.f k bt253.1).bind fun bt257 => (if bt257.2 = 0 then (if 0 ≤ bt253.2 then (if (bt257.1.length : Int) = (shl .i64 1 bt253.2) then ((dtab_Whole.f k bt257.1).bind fun t261 => (puncheonlaw11_DtabWhole.j0 k a2 a3 t252 bt257.1 (!t261))) else (puncheonlaw11_DtabWhole.j0 k a2 a3 t252 bt257.1 true)) else (none)) else (puncheonlaw11_DtabWhole.j0 k a2 a3 t252 bt257.1 true)))))) = some r := h
  clear h
  replace H := Option.bind_eq_some_iff.mp H
  obtain ⟨t252, A50, H⟩ := H
  replace H : (if (l0.length : Int) > 80 then (some t252) else ((puncheonref08_Some.f k l0 a1).bind fun bt253 => ((dtab_Of.f k bt253.1).bind fun bt257 => (if bt257.2 = 0 then (if 0 ≤ bt253.2 then (if (bt257.1.length : Int) = (shl .i64 1 bt253.2) then ((dtab_Whole.f k bt257.1).bind fun t261 => (puncheonlaw11_DtabWhole.j0 k a2 a3 t252 bt257.1 (!t261))) else (puncheonlaw11_DtabWhole.j0 k a2 a3 t252 bt257.1 true)) else (none)) else (puncheonlaw11_DtabWhole.j0 k a2 a3 t252 bt257.1 true))))) = some r := H
  have A5 := Aside0.mk A50
  clear A50
  by_cases c6 : (l0.length : Int) > 80
  · rw [if_pos c6] at H
    have c6b0 : decide (80 < (l0.length : Int)) = true := decide_eq_true c6
    have c6b1 : decide (80 < l0.length) = true := decide_eq_true (by omega)
    clear c6
    obtain rfl := Option.some.inj H
    go_enter Try.func4, Try.ntmps4
    go_wp2_with (first | ((with_reducible refine gate_callee (f := 7) rfl ?_); refine goesL_ (some 17) rfl rfl Try.func7 (by kernel_rfl) rfl #[] rfl (by (try simp only [List.map_toArray, List.map_cons, List.map_nil]); first | done | rfl | (simp only [List.length_drop, List.length_take]; rfl)) ?_; (with_reducible refine (puncheonlaw11_awake.calls k  t252 _ A5.out).mono ?_); rintro e w7 ⟨rfl, hb⟩; refine ⟨_, rfl, ?_⟩; have n0_ := Aside0.mk (below_step (by repeat (first | (with_reducible first | exact HB.out | apply below_alloc | apply pw_below_drewN | apply below_drew1) | exact HB.out)) hb); clear HB; have HB := n0_; clear n0_; (try clear hb); (try clear hb2); (try clear hk); (try clear hi)))
    go_ret
    exact ⟨by first | rfl | (simp [errW_none, errW_some] <;> rfl) | (simp [*, errW_none, errW_some] <;> rfl), by repeat (first | (with_reducible first | exact HB.out | apply below_alloc | apply pw_below_drewN | apply below_drew1) | exact HB.out)⟩
  · rw [if_neg c6] at H
    have c6b0 : decide (80 < (l0.length : Int)) = false := decide_eq_false c6
    have c6b1 : decide (80 < l0.length) = false := decide_eq_false (by omega)
    clear c6
    replace H := Option.bind_eq_some_iff.mp H
    obtain ⟨⟨t253, t254⟩, A80, H⟩ := H
    replace H : ((dtab_Of.f k t253).bind fun bt257 => (if bt257.2 = 0 then (if 0 ≤ t254 then (if (bt257.1.length : Int) = (shl .i64 1 t254) then ((dtab_Whole.f k bt257.1).bind fun t261 => (puncheonlaw11_DtabWhole.j0 k a2 a3 t252 bt257.1 (!t261))) else (puncheonlaw11_DtabWhole.j0 k a2 a3 t252 bt257.1 true)) else (none)) else (puncheonlaw11_DtabWhole.j0 k a2 a3 t252 bt257.1 true))) = some r := H
    have A8 := Aside0.mk A80
    clear A80
    replace H := Option.bind_eq_some_iff.mp H
    obtain ⟨⟨t257, t258⟩, A90, H⟩ := H
    replace H : (if t258 = 0 then (if 0 ≤ t254 then (if (t257.length : Int) = (shl .i64 1 t254) then ((dtab_Whole.f k t257).bind fun t261 => (puncheonlaw11_DtabWhole.j0 k a2 a3 t252 t257 (!t261))) else (puncheonlaw11_DtabWhole.j0 k a2 a3 t252 t257 true)) else (none)) else (puncheonlaw11_DtabWhole.j0 k a2 a3 t252 t257 true)) = some r := H
    have A9 := Aside0.mk A90
    clear A90
    have HC10 := Aside0.mk H
    clear H
    go_enter Try.func4, Try.ntmps4
    go_upto_region 6 with (first | ((with_reducible refine gate_callee (f := 7) rfl ?_); refine goesL_ (some 17) rfl rfl Try.func7 (by kernel_rfl) rfl #[] rfl (by (try simp only [List.map_toArray, List.map_cons, List.map_nil]); first | done | rfl | (simp only [List.length_drop, List.length_take]; rfl)) ?_; (with_reducible refine (puncheonlaw11_awake.calls k  t252 _ A5.out).mono ?_); rintro e w11 ⟨rfl, hb⟩; refine ⟨_, rfl, ?_⟩; have n0_ := Aside0.mk (below_step (by repeat (first | (with_reducible first | exact HB.out | apply below_alloc | apply pw_below_drewN | apply below_drew1) | exact HB.out)) hb); clear HB; have HB := n0_; clear n0_; (try clear hb); (try clear hb2); (try clear hk); (try clear hi)) | ((with_reducible refine gate_callee (f := 12) rfl ?_); refine goesL_ (some 25) rfl rfl Try.func12 (by kernel_rfl) rfl #[.slice A0 l0.length c0, .int .u8 a1] rfl (by (try simp only [List.map_toArray, List.map_cons, List.map_nil]); first | done | rfl | (simp only [List.length_drop, List.length_take]; rfl)) ?_; (with_reducible refine (puncheonref08_Some.calls k _ _ l0 a1 t253 t254 _ ?side1 ?side2 A8.out).mono ?_); (case side1 => repeat (first | exact (Kd.C_below HR0.out HB.out) | (with_reducible refine Kd.C_alloc ?_ _) | (with_reducible refine Kd.C_drewN ?_ _) | (with_reducible refine Kd.C_drew ?_))); (case side2 => exact HC0.out); rintro e w12 ⟨v255, rfl, ho0, hb⟩; refine ⟨_, rfl, ?_⟩; have n0_ := Aside0.mk (Kd.R_lower ho0 (below_size (by repeat (first | (with_reducible first | exact HB.out | apply below_alloc | apply pw_below_drewN | apply below_drew1) | exact HB.out)))); have n1_ := Aside0.mk (below_step (by repeat (first | (with_reducible first | exact HB.out | apply below_alloc | apply pw_below_drewN | apply below_drew1) | exact HB.out)) hb); clear HB; have HO256 := n0_; have HB := n1_; clear n0_ n1_; (try clear hb); (try clear hb2); (try clear hk); (try clear hi); (try clear ho0); obtain ⟨Ao13, co13, eo13⟩ := Kd.R_slice HO256.out; subst eo13) | ((with_reducible refine gate_callee (f := 9) rfl ?_); refine goesL_ (some 30) rfl rfl Try.func9 (by kernel_rfl) rfl #[.slice Ao13 t253.length co13] rfl (by (try simp only [List.map_toArray, List.map_cons, List.map_nil]); first | done | rfl | (simp only [List.length_drop, List.length_take]; rfl)) ?_; (with_reducible refine (dtab_Of.calls k _ _ t253 t257 t258 _ ?side1 ?side2 A9.out).mono ?_); (case side1 => repeat (first | exact (Kd.R_reads' HO256.out).2.2 | (with_reducible refine Kd.C_alloc ?_ _) | (with_reducible refine Kd.C_drewN ?_ _) | (with_reducible refine Kd.C_drew ?_))); (case side2 => exact (Kd.R_reads' HO256.out).2.1); rintro e w14 ⟨v259, rfl, ho0, hb⟩; refine ⟨_, rfl, ?_⟩; have n0_ := Aside0.mk (Kd.R_below (by (with_reducible repeat (first | apply Kd.R_alloc | apply Kd.R_drewN | apply Kd.R_drew)); exact HO256.out) hb); have n1_ := Aside0.mk (Kd.R_lower ho0 (below_size (by repeat (first | (with_reducible first | exact HB.out | apply below_alloc | apply pw_below_drewN | apply below_drew1) | exact HB.out)))); have n2_ := Aside0.mk (below_step (by repeat (first | (with_reducible first | exact HB.out | apply below_alloc | apply pw_below_drewN | apply below_drew1) | exact HB.out)) hb); clear HO256; clear HB; have HO256 := n0_; have HO260 := n1_; have HB := n2_; clear n0_ n1_ n2_; (try clear hb); (try clear hb2); (try clear hk); (try clear hi); (try clear ho0)))
    (try simp only [Act.put, List.setIfInBounds_toArray, List.set_cons_zero, List.set_cons_succ])
    go_cut [46] (fun v46 wc => ∃ (kq : Nat) (x46_9 : Bool), v46 = .bool x46_9 ∧ Aside0 (puncheonlaw11_DtabWhole.j0 kq a2 a3 t252 t257 x46_9 = some r) ∧ Aside0 (kq ≤ k) ∧ Aside0 (Kd.R k37 37 wc w.heap.size (fun _ => True) v259 t257) ∧ Aside0 (Below w.heap.size w wc))
    case first =>
      have H := HC10.out
      clear HC10
      by_cases c15 : t258 = 0
      · rw [if_pos c15] at H
        have c15b0 : (t258 == 0) = true := beq_iff_eq.mpr c15
        have c15b1 : (t258 != 0) = false := bne_eq_false_iff_eq.mpr c15
        clear c15
        (first | rw [c15b0] | (simp only [i64_w, i32_w]; rw [c15b0]) | skip)
        by_cases c16 : 0 ≤ t254
        · rw [if_pos c16] at H
          have c16b0 := eq_true c16
          have c16b1 : decide (0 ≤ t254) = true := decide_eq_true c16
          clear c16
          obtain ⟨ji17, hji17⟩ : ∃ j_ : Int, (shl .i64 1 t254) = j_ := ⟨_, rfl⟩
          replace H : (if (t257.length : Int) = (ji17) then ((dtab_Whole.f k t257).bind fun t261 => (puncheonlaw11_DtabWhole.j0 k a2 a3 t252 t257 (!t261))) else (puncheonlaw11_DtabWhole.j0 k a2 a3 t252 t257 true)) = some r := by first | (rw [hji17] at H; exact H) | (simp only [hji17] at H ⊢; exact H)
          have hji17_ : (IntKind.i64.wrap (1 * 2 ^ min t254.toNat 64)) = ji17 := hji17
          have hji17z : t254 ≤ 64 → (IntKind.i64.wrap (1 * 2 ^ t254.toNat)) = ji17 := shl_small hji17
          have hji17u : (IntKind.i64.wrap (2 ^ min t254.toNat 64)) = ji17 := by have h_ := hji17_; rw [Int.one_mul] at h_; exact h_
          have hji17v : t254 ≤ 64 → (IntKind.i64.wrap (2 ^ t254.toNat)) = ji17 := fun hle_ => by have h_ := hji17z hle_; rw [Int.one_mul] at h_; exact h_
          have hji17y : (wrap64 (1 * 2 ^ min t254.toNat 64)) = ji17 := (i64_w _).symm.trans hji17_
          have hji17x : t254 ≤ 64 → (wrap64 (1 * 2 ^ t254.toNat)) = ji17 := fun h_ => (i64_w _).symm.trans (hji17z h_)
          by_cases c18 : (t257.length : Int) = (ji17)
          · rw [if_pos c18] at H
            have c18b0 : ((t257.length : Int) == (ji17)) = true := beq_iff_eq.mpr c18
            have c18b1 : ((t257.length : Int) != (ji17)) = false := bne_eq_false_iff_eq.mpr c18
            clear c18
            replace H := Option.bind_eq_some_iff.mp H
            obtain ⟨t261, A190, H⟩ := H
            replace H : (puncheonlaw11_DtabWhole.j0 k a2 a3 t252 t257 (!t261)) = some r := H
            have A19 := Aside0.mk A190
            clear A190
            have H' := Aside0.mk H
            clear H
            obtain ⟨Ao20, co20, eo20⟩ := Kd.R_slice HO260.out
            subst eo20
            go_wp2_with (first | (go_at_call 13; (with_reducible refine (dtab_Whole.calls k _ _ t257 t261 _ ?side1 ?side2 A19.out).mono ?_); (case side1 => repeat (first | exact (Kd.R_reads' HO260.out).2.2 | (with_reducible refine Kd.C_alloc ?_ _) | (with_reducible refine Kd.C_drewN ?_ _) | (with_reducible refine Kd.C_drew ?_))); (case side2 => exact (Kd.R_reads' HO260.out).2.1); rintro e w21 ⟨rfl, hb⟩; have n0_ := Aside0.mk (Kd.R_below (by (with_reducible repeat (first | apply Kd.R_alloc | apply Kd.R_drewN | apply Kd.R_drew)); exact HO256.out) hb); have n1_ := Aside0.mk (Kd.R_below (by (with_reducible repeat (first | apply Kd.R_alloc | apply Kd.R_drewN | apply Kd.R_drew)); exact HO260.out) hb); have n2_ := Aside0.mk (below_step (by repeat (first | (with_reducible first | exact HB.out | apply below_alloc | apply pw_below_drewN | apply below_drew1) | exact HB.out)) hb); clear HO256; clear HO260; clear HB; have HO256 := n0_; have HO260 := n1_; have HB := n2_; clear n0_ n1_ n2_; (try clear hb); (try clear hb2); (try clear hk); (try clear hi)))
            subst hji17
            go_meet
            case rel => exact ⟨_, (!t261), (by first | rfl | (simp; done) | (simp [*]; done)), H', ⟨by first | omega | exact Nat.le_refl _⟩, ⟨by (with_reducible repeat (first | apply Kd.R_alloc | apply Kd.R_drewN | apply Kd.R_drew)); exact HO260.out⟩, ⟨by repeat (first | (with_reducible first | exact HB.out | apply below_alloc | apply pw_below_drewN | apply below_drew1) | exact HB.out)⟩⟩
          · rw [if_neg c18] at H
            have c18b0 : ((t257.length : Int) == (ji17)) = false := beq_eq_false_iff_ne.mpr c18
            have c18b1 : ((t257.length : Int) != (ji17)) = true := bne_iff_ne.mpr c18
            have H' := Aside0.mk H
            clear H
            obtain ⟨Ao22, co22, eo22⟩ := Kd.R_slice HO260.out
            subst eo22
            go_wp2
            subst hji17
            go_meet
            case rel => exact ⟨_, (true), (by first | rfl | (simp; done) | (simp [*]; done)), H', ⟨by first | omega | exact Nat.le_refl _⟩, ⟨by (with_reducible repeat (first | apply Kd.R_alloc | apply Kd.R_drewN | apply Kd.R_drew)); exact HO260.out⟩, ⟨by repeat (first | (with_reducible first | exact HB.out | apply below_alloc | apply pw_below_drewN | apply below_drew1) | exact HB.out)⟩⟩
        · rw [if_neg c16] at H
          exact absurd H (by simp)
      · rw [if_neg c15] at H
        have c15b0 : (t258 == 0) = false := beq_eq_false_iff_ne.mpr c15
        have c15b1 : (t258 != 0) = true := bne_iff_ne.mpr c15
        (first | rw [c15b0] | (simp only [i64_w, i32_w]; rw [c15b0]) | skip)
        have H' := Aside0.mk H
        clear H
        go_wp2
        go_meet
        case rel => exact ⟨_, (true), (by first | rfl | (simp; done) | (simp [*]; done)), H', ⟨by first | omega | exact Nat.le_refl _⟩, ⟨by (with_reducible repeat (first | apply Kd.R_alloc | apply Kd.R_drewN | apply Kd.R_drew)); exact HO260.out⟩, ⟨by repeat (first | (with_reducible first | exact HB.out | apply below_alloc | apply pw_below_drewN | apply below_drew1) | exact HB.out)⟩⟩
    case rest =>
      clear HC10
      try clear c1
      try clear p2
      try clear c4
      try clear c6
      try clear c6b0
      try clear c6b1
      try clear p6
      try clear c7
      try clear c9
      try clear c12
      try clear c15
      try clear c15b0
      try clear c15b1
      try clear c16
      try clear c16b0
      try clear c16b1
      try clear c18
      try clear c18b0
      try clear c18b1
      obtain ⟨kq, x46_9, rfl, HA, HJ9, HO_12, HB⟩ := hcut
      cases kq with
      | zero => exact absurd HA.out (by simp [puncheonlaw11_DtabWhole.j0])
      | succ kj9 =>
        have H := HA.out
        clear HA
        simp only [puncheonlaw11_DtabWhole.j0] at H
        by_cases c23 : x46_9 = true
        · subst c23
          have H1 : (some false) = some r := by rw [if_pos rfl] at H; exact H
          clear H
          have H := H1
          clear H1
          obtain rfl := Option.some.inj H
          go_wp2
          go_ret
          exact ⟨by first | rfl | (simp [errW_none, errW_some] <;> rfl) | (simp [*, errW_none, errW_some] <;> rfl), by repeat (first | (with_reducible first | exact HB.out | apply below_alloc | apply pw_below_drewN | apply below_drew1) | exact HB.out)⟩
        · replace c23 := Bool.eq_false_iff.mpr c23
          subst c23
          have H1 : ((some (([] : List (S37)) : List (S37))).bind fun y262 => (if y262.length + t257.length < 5864062014805 then ((some (y262 ++ t257 : List (S37))).bind fun y265 => (if (y265.length : Int) = 0 then (none) else (if 0 ≤ (Int.tmod (wrap64 (a2)) (y265.length : Int)) then (if (Int.tmod (wrap64 (a2)) (y265.length : Int)) < (y265.length : Int) then ((some (([] : List (S37)) : List (S37))).bind fun y270 => (if y270.length + t257.length < 5864062014805 then ((some (y270 ++ t257 : List (S37))).bind fun y273 => (if (Int.tmod (wrap64 (a2)) (y265.length : Int)) < (y273.length : Int) then (if t252 = true then ((dtab_Whole.f kj9 (y265.set ((Int.tmod (wrap64 (a2)) (y265.length : Int)) : Int).toNat (⟨(rd_T37 y265 (Int.tmod (wrap64 (a2)) (y265.length : Int))).f0, (rd_T37 y265 (Int.tmod (wrap64 (a2)) (y265.length : Int))).f1, wrap64 (((rd_T37 y265 (Int.tmod (wrap64 (a2)) (y265.length : Int))).f2) + (wrap64 (a3)))⟩ : S37))).bind fun t278 => (if (t278 == (a3 == 0)) = true then ((dtab_Whole.f kj9 (y273.set ((Int.tmod (wrap64 (a2)) (y265.length : Int)) : Int).toNat (⟨(rd_T37 y273 (Int.tmod (wrap64 (a2)) (y265.length : Int))).f0, wrap64 (((rd_T37 y273 (Int.tmod (wrap64 (a2)) (y265.length : Int))).f1) + 1), (rd_T37 y273 (Int.tmod (wrap64 (a2)) (y265.length : Int))).f2⟩ : S37))).bind fun t279 => (some (!t279))) else (some false))) else (some false)) else (none))) else (none))) else (none)) else (none)))) else (none))) = some r := by rw [if_neg (show ¬ (false = true) by decide)] at H; exact H
          clear H
          have H := H1
          clear H1
          obtain ⟨y262, hy262⟩ : ∃ y_ : List (S37), y_ = (([] : List (S37))) := ⟨_, rfl⟩
          replace H : (if y262.length + t257.length < 5864062014805 then ((some (y262 ++ t257 : List (S37))).bind fun y265 => (if (y265.length : Int) = 0 then (none) else (if 0 ≤ (Int.tmod (wrap64 (a2)) (y265.length : Int)) then (if (Int.tmod (wrap64 (a2)) (y265.length : Int)) < (y265.length : Int) then ((some (([] : List (S37)) : List (S37))).bind fun y270 => (if y270.length + t257.length < 5864062014805 then ((some (y270 ++ t257 : List (S37))).bind fun y273 => (if (Int.tmod (wrap64 (a2)) (y265.length : Int)) < (y273.length : Int) then (if t252 = true then ((dtab_Whole.f kj9 (y265.set ((Int.tmod (wrap64 (a2)) (y265.length : Int)) : Int).toNat (⟨(rd_T37 y265 (Int.tmod (wrap64 (a2)) (y265.length : Int))).f0, (rd_T37 y265 (Int.tmod (wrap64 (a2)) (y265.length : Int))).f1, wrap64 (((rd_T37 y265 (Int.tmod (wrap64 (a2)) (y265.length : Int))).f2) + (wrap64 (a3)))⟩ : S37))).bind fun t278 => (if (t278 == (a3 == 0)) = true then ((dtab_Whole.f kj9 (y273.set ((Int.tmod (wrap64 (a2)) (y265.length : Int)) : Int).toNat (⟨(rd_T37 y273 (Int.tmod (wrap64 (a2)) (y265.length : Int))).f0, wrap64 (((rd_T37 y273 (Int.tmod (wrap64 (a2)) (y265.length : Int))).f1) + 1), (rd_T37 y273 (Int.tmod (wrap64 (a2)) (y265.length : Int))).f2⟩ : S37))).bind fun t279 => (some (!t279))) else (some false))) else (some false)) else (none))) else (none))) else (none)) else (none)))) else (none)) = some r := by first | (rw [hy262]; with_reducible exact H) | (have H2_ := (Option.bind_some _ _).symm.trans H; rw [hy262]; with_reducible exact H2_) | (have H2_ := (Option.bind_some _ _).symm.trans H; with_reducible exact H2_) | with_reducible exact H | (rw [hy262]; exact H) | exact H
          have Ny262 := Aside0.mk hy262
          clear hy262
          by_cases c24 : y262.length + t257.length < 5864062014805
          · rw [if_pos c24] at H
            have LMc24 := Aside0.mk c24
            clear c24
            obtain ⟨y265, hy265⟩ : ∃ y_ : List (S37), y_ = (y262 ++ t257) := ⟨_, rfl⟩
            replace H : (if (y265.length : Int) = 0 then (none) else (if 0 ≤ (Int.tmod (wrap64 (a2)) (y265.length : Int)) then (if (Int.tmod (wrap64 (a2)) (y265.length : Int)) < (y265.length : Int) then ((some (([] : List (S37)) : List (S37))).bind fun y270 => (if y270.length + t257.length < 5864062014805 then ((some (y270 ++ t257 : List (S37))).bind fun y273 => (if (Int.tmod (wrap64 (a2)) (y265.length : Int)) < (y273.length : Int) then (if t252 = true then ((dtab_Whole.f kj9 (y265.set ((Int.tmod (wrap64 (a2)) (y265.length : Int)) : Int).toNat (⟨(rd_T37 y265 (Int.tmod (wrap64 (a2)) (y265.length : Int))).f0, (rd_T37 y265 (Int.tmod (wrap64 (a2)) (y265.length : Int))).f1, wrap64 (((rd_T37 y265 (Int.tmod (wrap64 (a2)) (y265.length : Int))).f2) + (wrap64 (a3)))⟩ : S37))).bind fun t278 => (if (t278 == (a3 == 0)) = true then ((dtab_Whole.f kj9 (y273.set ((Int.tmod (wrap64 (a2)) (y265.length : Int)) : Int).toNat (⟨(rd_T37 y273 (Int.tmod (wrap64 (a2)) (y265.length : Int))).f0, wrap64 (((rd_T37 y273 (Int.tmod (wrap64 (a2)) (y265.length : Int))).f1) + 1), (rd_T37 y273 (Int.tmod (wrap64 (a2)) (y265.length : Int))).f2⟩ : S37))).bind fun t279 => (some (!t279))) else (some false))) else (some false)) else (none))) else (none))) else (none)) else (none))) = some r := by first | (rw [hy265]; with_reducible exact H) | (have H2_ := (Option.bind_some _ _).symm.trans H; rw [hy265]; with_reducible exact H2_) | (have H2_ := (Option.bind_some _ _).symm.trans H; with_reducible exact H2_) | with_reducible exact H | (rw [hy265]; exact H) | exact H
            have Ny265 := Aside0.mk hy265
            clear hy265
            by_cases c25 : (y265.length : Int) = 0
            · rw [if_pos c25] at H
              exact absurd H (by simp)
            · rw [if_neg c25] at H
              have c25b0 : ((y265.length : Int) == 0) = false := beq_eq_false_iff_ne.mpr c25
              have c25b1 : ((y265.length : Int) != 0) = true := bne_iff_ne.mpr c25
              have c25b2 : ¬ (y265 = []) := fun h_ => c25 (by rw [h_]; rfl)
              obtain ⟨ji26, hji26⟩ : ∃ j_ : Int, (Int.tmod (wrap64 (a2)) (y265.length : Int)) = j_ := ⟨_, rfl⟩
              replace H : (if 0 ≤ (ji26) then (if (ji26) < (y265.length : Int) then ((some (([] : List (S37)) : List (S37))).bind fun y270 => (if y270.length + t257.length < 5864062014805 then ((some (y270 ++ t257 : List (S37))).bind fun y273 => (if (ji26) < (y273.length : Int) then (if t252 = true then ((dtab_Whole.f kj9 (y265.set ((ji26) : Int).toNat (⟨(rd_T37 y265 (ji26)).f0, (rd_T37 y265 (ji26)).f1, wrap64 (((rd_T37 y265 (ji26)).f2) + (wrap64 (a3)))⟩ : S37))).bind fun t278 => (if (t278 == (a3 == 0)) = true then ((dtab_Whole.f kj9 (y273.set ((ji26) : Int).toNat (⟨(rd_T37 y273 (ji26)).f0, wrap64 (((rd_T37 y273 (ji26)).f1) + 1), (rd_T37 y273 (ji26)).f2⟩ : S37))).bind fun t279 => (some (!t279))) else (some false))) else (some false)) else (none))) else (none))) else (none)) else (none)) = some r := by first | (rw [hji26] at H; exact H) | (simp only [hji26] at H ⊢; exact H)
              by_cases c27 : 0 ≤ (ji26)
              · rw [if_pos c27] at H
                have c27b0 : decide (0 ≤ (ji26)) = true := decide_eq_true c27
                clear c27
                by_cases c28 : (ji26) < (y265.length : Int)
                · rw [if_pos c28] at H
                  have c28b0 : decide ((ji26) < (y265.length : Int)) = true := decide_eq_true c28
                  clear c28
                  obtain ⟨y269, hy269⟩ : ∃ y_ : List (S37), y_ = (y265.set ((ji26) : Int).toNat (⟨(rd_T37 y265 (ji26)).f0, (rd_T37 y265 (ji26)).f1, wrap64 (((rd_T37 y265 (ji26)).f2) + (wrap64 (a3)))⟩ : S37)) := ⟨_, rfl⟩
                  replace H : ((some (([] : List (S37)) : List (S37))).bind fun y270 => (if y270.length + t257.length < 5864062014805 then ((some (y270 ++ t257 : List (S37))).bind fun y273 => (if (ji26) < (y273.length : Int) then (if t252 = true then ((dtab_Whole.f kj9 y269).bind fun t278 => (if (t278 == (a3 == 0)) = true then ((dtab_Whole.f kj9 (y273.set ((ji26) : Int).toNat (⟨(rd_T37 y273 (ji26)).f0, wrap64 (((rd_T37 y273 (ji26)).f1) + 1), (rd_T37 y273 (ji26)).f2⟩ : S37))).bind fun t279 => (some (!t279))) else (some false))) else (some false)) else (none))) else (none))) = some r := by first | (rw [hy269]; with_reducible exact H) | (have H2_ := (Option.bind_some _ _).symm.trans H; rw [hy269]; with_reducible exact H2_) | (have H2_ := (Option.bind_some _ _).symm.trans H; with_reducible exact H2_) | with_reducible exact H | (rw [hy269]; exact H) | exact H
                  have Ny269 := Aside0.mk hy269
                  clear hy269
                  obtain ⟨y270, hy270⟩ : ∃ y_ : List (S37), y_ = (([] : List (S37))) := ⟨_, rfl⟩
                  replace H : (if y270.length + t257.length < 5864062014805 then ((some (y270 ++ t257 : List (S37))).bind fun y273 => (if (ji26) < (y273.length : Int) then (if t252 = true then ((dtab_Whole.f kj9 y269).bind fun t278 => (if (t278 == (a3 == 0)) = true then ((dtab_Whole.f kj9 (y273.set ((ji26) : Int).toNat (⟨(rd_T37 y273 (ji26)).f0, wrap64 (((rd_T37 y273 (ji26)).f1) + 1), (rd_T37 y273 (ji26)).f2⟩ : S37))).bind fun t279 => (some (!t279))) else (some false))) else (some false)) else (none))) else (none)) = some r := by first | (rw [hy270]; with_reducible exact H) | (have H2_ := (Option.bind_some _ _).symm.trans H; rw [hy270]; with_reducible exact H2_) | (have H2_ := (Option.bind_some _ _).symm.trans H; with_reducible exact H2_) | with_reducible exact H | (rw [hy270]; exact H) | exact H
                  have Ny270 := Aside0.mk hy270
                  clear hy270
                  by_cases c30 : y270.length + t257.length < 5864062014805
                  · rw [if_pos c30] at H
                    have LMc30 := Aside0.mk c30
                    clear c30
                    obtain ⟨y273, hy273⟩ : ∃ y_ : List (S37), y_ = (y270 ++ t257) := ⟨_, rfl⟩
                    replace H : (if (ji26) < (y273.length : Int) then (if t252 = true then ((dtab_Whole.f kj9 y269).bind fun t278 => (if (t278 == (a3 == 0)) = true then ((dtab_Whole.f kj9 (y273.set ((ji26) : Int).toNat (⟨(rd_T37 y273 (ji26)).f0, wrap64 (((rd_T37 y273 (ji26)).f1) + 1), (rd_T37 y273 (ji26)).f2⟩ : S37))).bind fun t279 => (some (!t279))) else (some false))) else (some false)) else (none)) = some r := by first | (rw [hy273]; with_reducible exact H) | (have H2_ := (Option.bind_some _ _).symm.trans H; rw [hy273]; with_reducible exact H2_) | (have H2_ := (Option.bind_some _ _).symm.trans H; with_reducible exact H2_) | with_reducible exact H | (rw [hy273]; exact H) | exact H
                    have Ny273 := Aside0.mk hy273
                    clear hy273
                    by_cases c31 : (ji26) < (y273.length : Int)
                    · rw [if_pos c31] at H
                      have c31b0 : decide ((ji26) < (y273.length : Int)) = true := decide_eq_true c31
                      clear c31
                      obtain ⟨y277, hy277⟩ : ∃ y_ : List (S37), y_ = (y273.set ((ji26) : Int).toNat (⟨(rd_T37 y273 (ji26)).f0, wrap64 (((rd_T37 y273 (ji26)).f1) + 1), (rd_T37 y273 (ji26)).f2⟩ : S37)) := ⟨_, rfl⟩
                      replace H : (if t252 = true then ((dtab_Whole.f kj9 y269).bind fun t278 => (if (t278 == (a3 == 0)) = true then ((dtab_Whole.f kj9 y277).bind fun t279 => (some (!t279))) else (some false))) else (some false)) = some r := by first | (rw [hy277]; with_reducible exact H) | (have H2_ := (Option.bind_some _ _).symm.trans H; rw [hy277]; with_reducible exact H2_) | (have H2_ := (Option.bind_some _ _).symm.trans H; with_reducible exact H2_) | with_reducible exact H | (rw [hy277]; exact H) | exact H
                      have Ny277 := Aside0.mk hy277
                      clear hy277
                      by_cases c33 : t252 = true
                      · subst c33
                        have H1 : ((dtab_Whole.f kj9 y269).bind fun t278 => (if (t278 == (a3 == 0)) = true then ((dtab_Whole.f kj9 y277).bind fun t279 => (some (!t279))) else (some false))) = some r := by rw [if_pos rfl] at H; exact H
                        clear H
                        have H := H1
                        clear H1
                        replace H := Option.bind_eq_some_iff.mp H
                        obtain ⟨t278, A340, H⟩ := H
                        replace H : (if (t278 == (a3 == 0)) = true then ((dtab_Whole.f kj9 y277).bind fun t279 => (some (!t279))) else (some false)) = some r := H
                        have A34 := Aside0.mk A340
                        clear A340
                        by_cases c35 : (t278 == (a3 == 0)) = true
                        · rw [if_pos c35] at H
                          have c35b0 : (t278 == (a3 == 0)) = true := c35
                          (try (have c35b1 : decide (t278 = (a3 == 0)) = true := by simpa using c35))
                          (try (have c35b2 : (t278 == (a3 == 0)) = true := by simpa using c35))
                          clear c35
                          replace H := Option.bind_eq_some_iff.mp H
                          obtain ⟨t279, A360, H⟩ := H
                          replace H : (some (!t279)) = some r := H
                          have A36 := Aside0.mk A360
                          clear A360
                          obtain rfl := Option.some.inj H
                          go_wp2_with (first | ((with_reducible refine gate_dst (N := 47) rfl ?_); (try (refine gate_guard (by rfl) ?_; dsimp only)); refine Kd.R_lit k37 _ 37 ?hg (N := 47) ?hd (xs := ([] : List (S37))) (inner := []) (ok := fun _ => True) (okp := fun _ => True) ?hr ?hp (fun _ hk => hk) trivial (Below.refl _ _) (Nat.le_refl _) (by simp) ?_; (case hd => rfl); (case hg => rfl); (case hr => first | (go_simp; done) | (go_simp; rfl)); (case hp => exact (Reps.none _ _)); intro v263 w37 ho38 hb hg_ hnew_; clear hg_ hnew_; (first | rw [← Ny262.out] at ho38 | (simp only [Int.reduceToNat] at ho38; rw [← Ny262.out] at ho38)); have n0_ := Aside0.mk (Kd.R_elder' (by (with_reducible repeat (first | apply Kd.R_alloc | apply Kd.R_drewN | apply Kd.R_drew)); exact HO_12.out) (Kd.R_base ho38) hb); have n1_ := Aside0.mk (Kd.R_lower (Kd.R_new' ho38 (Kd.R_lt (by (with_reducible repeat (first | apply Kd.R_alloc | apply Kd.R_drewN | apply Kd.R_drew)); exact HO_12.out))) (below_size (by repeat (first | (with_reducible first | exact HB.out | apply below_alloc | apply pw_below_drewN | apply below_drew1) | exact HB.out)))); have n2_ := Aside0.mk (below_step (by repeat (first | (with_reducible first | exact HB.out | apply below_alloc | apply pw_below_drewN | apply below_drew1) | exact HB.out)) hb); clear HO_12; clear HB; have HO_12 := n0_; have HO264 := n1_; have HB := n2_; clear n0_ n1_ n2_; clear hb ho38; obtain ⟨Ao40, co40, eo40⟩ := Kd.R_slice HO_12.out; subst eo40) | ((with_reducible refine gate_builtin (b := .append) (xs := #[.tmp 47, .tmp 48]) rfl ?_); (try (refine gate_guard (by rfl) ?_; dsimp only)); at_builtin; refine Kd.R_append_rows k37 (w0 := w) w.heap.size rfl (.tmp 47) (.tmp 48) 25 37 (.agg #[(.int .u8 0), (.int .i64 0), (.int .i64 0)]) 24 rfl Try.underlying25 info37 rfl (by decide) (by omega) v263 y262 t257 _ _ _ (fun k_ => some k_ ≠ (.slice Ao40 t257.length co40 : Value).ownBlock) (fun _ => False) rfl rfl ?aO ?aR (fun _ _ h => h) (fun _ h => h.elim) ?aF ?aB ?aS ?aL ?_; (case aR => repeat (first | exact (Kd.R_reads' HO_12.out).2.2 | (with_reducible refine Kd.C_alloc ?_ _) | (with_reducible refine Kd.C_drewN ?_ _) | (with_reducible refine Kd.C_drew ?_))); (case aB => exact (by repeat (first | (with_reducible first | exact HB.out | apply below_alloc | apply pw_below_drewN | apply below_drew1) | exact HB.out))); (case aF => exact (fun k_ hk => Kd.fresh' (Kd.R_lt (by (with_reducible repeat (first | apply Kd.R_alloc | apply Kd.R_drewN | apply Kd.R_drew)); exact HO_12.out)) k_ hk)); (case aO => exact (by (with_reducible repeat (first | apply Kd.R_alloc | apply Kd.R_drewN | apply Kd.R_drew)); exact Kd.R_mono HO264.out (fun _ hk => hk.2))); (case aS => exact (below_size (by repeat (first | (with_reducible first | exact HB.out | apply below_alloc | apply pw_below_drewN | apply below_drew1) | exact HB.out)))); (case aL => have := LMc24.out; omega); intro v266 w39 ho hb hg hat; rw [← Ny265.out] at ho; have n0_ := Aside0.mk (Kd.R_after (ok := (fun _ => True)) (by (with_reducible repeat (first | apply Kd.R_alloc | apply Kd.R_drewN | apply Kd.R_drew)); exact HO_12.out) hg hat); have n1_ := Aside0.mk (hb); have n2_ := Aside0.mk (ho); clear HO_12; clear HB; clear HO264; have HO_12 := n0_; have HB := n1_; have HO267 := n2_; clear n0_ n1_ n2_; clear ho hb hg hat; obtain ⟨Ao41, co41, eo41⟩ := Kd.R_slice HO267.out; subst eo41; have p268 : 0 ≤ ((ji26) : Int) := of_decide_eq_true (by first | (with_reducible assumption) | assumption); have q268 : (ji26) < (y265.length : Int) := of_decide_eq_true (by first | (with_reducible assumption) | assumption); obtain ⟨ad268, e268, hx268_0, hx268_1, hx268_2⟩ := at_T37 (Kd.R_reads' HO267.out).2.2 (ji26) p268 q268; cases e268; replace p268 := eq_true p268; replace q268 := eq_true q268; have p29 : 0 ≤ ((ji26) : Int) := of_decide_eq_true (by first | (with_reducible assumption) | assumption); have q29 : ((ji26) : Int) < ((y265.length : Int) : Int) := of_decide_eq_true (by first | (with_reducible assumption) | assumption); obtain ⟨go29, co29, eo29, gb29, gl29, cl29, HG29⟩ := Kd.R_form HO267.out (by omega); (first | cases eo29 | (injection eo29 with ea_ en_ ec_; (first | subst ea_ | (injection ea_ with ea_; subst ea_)); subst ec_; clear en_)); have GB29 := Aside0.mk gb29; have GG29 := Aside0.mk HG29; clear gb29 gl29 HG29; (first | simp only [add_plain] at hx268_0 | skip); (first | simp only [add_plain] at hx268_1 | skip); (first | simp only [add_plain] at hx268_2 | skip); obtain ⟨ce29, hcl29, hM29, hcc29, hfr29⟩ := Kd.R_elem HO267.out z37 ((ji26) : Int) p29 q29; obtain rfl := k37_openM hM29; have hx29_0 : w39.cell? ⟨go29, ((ji26) : Int).toNat * 3, none⟩ = some (.int .u8 ((rd_T37 y265 (ji26)).f0)) := hcc29 0 _ rfl; have hx29_1 : w39.cell? ⟨go29, ((ji26) : Int).toNat * 3 + 1, none⟩ = some (.int .i64 ((rd_T37 y265 (ji26)).f1)) := hcc29 1 _ rfl; have hx29_2 : w39.cell? ⟨go29, ((ji26) : Int).toNat * 3 + 2, none⟩ = some (.int .i64 ((rd_T37 y265 (ji26)).f2)) := hcc29 2 _ rfl; have hf29_0 : w39.frozen? ⟨go29, ((ji26) : Int).toNat * 3, none⟩ = false := hfr29 0; have hf29_1 : w39.frozen? ⟨go29, ((ji26) : Int).toNat * 3 + 1, none⟩ = false := hfr29 1; have hf29_2 : w39.frozen? ⟨go29, ((ji26) : Int).toNat * 3 + 2, none⟩ = false := hfr29 2; clear hcl29 hcc29 hfr29 hM29; replace p29 := eq_true p29; replace q29 := eq_true q29; have HX42 := Aside0.mk (show Kd.R k37 37 w39 w.heap.size (fun k_ => some k_ ≠ (.slice Ao40 t257.length co40 : Value).ownBlock) (.slice (some ⟨go29, 0, none⟩) y265.length co41) y265 from (by (with_reducible repeat (first | apply Kd.R_alloc | apply Kd.R_drewN | apply Kd.R_drew)); exact HO267.out)); obtain ⟨ce42, hcl42, hM42, hcc42, hfr42⟩ := Kd.R_elem HX42.out z37 ((ji26) : Int) (of_decide_eq_true (by first | (with_reducible assumption) | assumption)) (by have h_ : ((ji26) : Int) < ((y265.length : Int) : Int) := of_decide_eq_true (by first | (with_reducible assumption) | assumption); first | exact h_ | (have e_ := (Kd.R_reads' HO267.out).1; omega) | simpa using h_); obtain rfl := k37_openM hM42; have HP42 := Kd.R_seg HX42.out ((ji26) : Int) (of_decide_eq_true (by first | (with_reducible assumption) | assumption)) (by have h_ : ((ji26) : Int) < ((y265.length : Int) : Int) := of_decide_eq_true (by first | (with_reducible assumption) | assumption); first | exact h_ | (have e_ := (Kd.R_reads' HO267.out).1; omega) | simpa using h_) (seg := [.int .i64 (wrap64 (((rd_T37 y265 (ji26)).f2) + (wrap64 (a3))))]) (j := 2) hcl42 hcc42 (show 3 ≤ 3 from by decide) (x' := (⟨(rd_T37 y265 (ji26)).f0, (rd_T37 y265 (ji26)).f1, wrap64 (((rd_T37 y265 (ji26)).f2) + (wrap64 (a3)))⟩ : S37)) (k37_mkM _ _ _ (⟨(rd_T37 y265 (ji26)).f0, (rd_T37 y265 (ji26)).f1, wrap64 (((rd_T37 y265 (ji26)).f2) + (wrap64 (a3)))⟩ : S37) ) (fun _ hk => hk); have hx42_2 := hcc42 2 _ rfl; (try simp only [show (k37).sz = 3 from rfl, Nat.mul_one, Nat.add_zero] at hx42_2); have hf42_2 := hfr42 2; (try simp only [show (k37).sz = 3 from rfl, Nat.mul_one, Nat.add_zero] at hf42_2); clear hcl42 hcc42 hfr42 hM42) | ((with_reducible refine gate_store (t := 3) (p := 66) rfl ?_); refine store_event (t := 3) (p := 66) (v := ?vo_w43) (w1 := (w39.setCell ⟨go29, ((ji26) : Int).toNat * 3 + 2, none⟩ (.int .i64 (wrap64 (((rd_T37 y265 (ji26)).f2) + (wrap64 (a3))))))) ?hg ?ho ?hn ?hr ?_; (case ho => rfl); (case hg => rfl); (case hn => rfl); (case hr => first | (go_simp; done) | (go_simp; rfl)); intro w43 hw; have hg : w39.grownBy w43 (some go29) := (by rw [hw]; exact HP42.2); have hp_ : Kd.R k37 37 w43 w.heap.size (fun k_ => some k_ ≠ (.slice Ao40 t257.length co40 : Value).ownBlock) (.slice (some ⟨go29, 0, none⟩) y265.length co41) y269 := (by rw [hw, Ny269.out]; exact HP42.1); clear HP42; have n0_ := Aside0.mk (Kd.R_after (v := (.slice (some ⟨go29, 0, none⟩) y265.length co41)) (v1 := (.slice (some ⟨go29, 0, none⟩) y265.length co41)) (ok := (fun _ => True)) (by (with_reducible repeat (first | apply Kd.R_alloc | apply Kd.R_drewN | apply Kd.R_drew)); exact HO_12.out) hg (.inl rfl)); have n1_ := Aside0.mk (hp_); have n2_ := Aside0.mk ((by rw [hw]; exact below_set (HB.out) GB29.out : Below w.heap.size w w43)); clear HO_12; clear HO267; clear HB; have HO_12 := n0_; have HO267 := n1_; have HB := n2_; clear n0_ n1_ n2_; clear hg hw hp_) | ((with_reducible refine gate_dst (N := 67) rfl ?_); (try (refine gate_guard (by rfl) ?_; dsimp only)); refine Kd.R_lit k37 _ 37 ?hg (N := 67) ?hd (xs := ([] : List (S37))) (inner := []) (ok := fun _ => True) (okp := fun _ => True) ?hr ?hp (fun _ hk => hk) trivial (Below.refl _ _) (Nat.le_refl _) (by simp) ?_; (case hd => rfl); (case hg => rfl); (case hr => first | (go_simp; done) | (go_simp; rfl)); (case hp => exact (Reps.none _ _)); intro v271 w44 ho45 hb hg_ hnew_; clear hg_ hnew_; (first | rw [← Ny270.out] at ho45 | (simp only [Int.reduceToNat] at ho45; rw [← Ny270.out] at ho45)); have n0_ := Aside0.mk (Kd.R_elder' (by (with_reducible repeat (first | apply Kd.R_alloc | apply Kd.R_drewN | apply Kd.R_drew)); exact HO_12.out) (Kd.R_base ho45) hb); have n1_ := Aside0.mk (Kd.R_elder' (by (with_reducible repeat (first | apply Kd.R_alloc | apply Kd.R_drewN | apply Kd.R_drew)); exact HO267.out) (Kd.R_base ho45) hb); have n2_ := Aside0.mk (Kd.R_lower (Kd.R_new' (Kd.R_new' ho45 (Kd.R_lt (by (with_reducible repeat (first | apply Kd.R_alloc | apply Kd.R_drewN | apply Kd.R_drew)); exact HO_12.out))) (Kd.R_lt (by (with_reducible repeat (first | apply Kd.R_alloc | apply Kd.R_drewN | apply Kd.R_drew)); exact HO267.out))) (below_size (by repeat (first | (with_reducible first | exact HB.out | apply below_alloc | apply pw_below_drewN | apply below_drew1) | exact HB.out)))); have n3_ := Aside0.mk (below_step (by repeat (first | (with_reducible first | exact HB.out | apply below_alloc | apply pw_below_drewN | apply below_drew1) | exact HB.out)) hb); clear HO_12; clear HO267; clear HB; have HO_12 := n0_; have HO267 := n1_; have HO272 := n2_; have HB := n3_; clear n0_ n1_ n2_ n3_; clear hb ho45) | ((with_reducible refine gate_builtin (b := .append) (xs := #[.tmp 67, .tmp 68]) rfl ?_); (try (refine gate_guard (by rfl) ?_; dsimp only)); at_builtin; refine Kd.R_append_rows k37 (w0 := w) w.heap.size rfl (.tmp 67) (.tmp 68) 25 37 (.agg #[(.int .u8 0), (.int .i64 0), (.int .i64 0)]) 24 rfl Try.underlying25 info37 rfl (by decide) (by omega) v271 y270 t257 _ _ _ (fun k_ => some k_ ≠ (.slice Ao40 t257.length co40 : Value).ownBlock ∧ some k_ ≠ (.slice (some ⟨go29, 0, none⟩) y265.length co41 : Value).ownBlock) (fun _ => False) rfl rfl ?aO ?aR (fun _ _ h => h) (fun _ h => h.elim) ?aF ?aB ?aS ?aL ?_; (case aR => repeat (first | exact (Kd.R_reads' HO_12.out).2.2 | (with_reducible refine Kd.C_alloc ?_ _) | (with_reducible refine Kd.C_drewN ?_ _) | (with_reducible refine Kd.C_drew ?_))); (case aB => exact (by repeat (first | (with_reducible first | exact HB.out | apply below_alloc | apply pw_below_drewN | apply below_drew1) | exact HB.out))); (case aF => exact (fun k_ hk => ⟨Kd.fresh' (Kd.R_lt (by (with_reducible repeat (first | apply Kd.R_alloc | apply Kd.R_drewN | apply Kd.R_drew)); exact HO_12.out)) k_ hk, Kd.fresh' (Kd.R_lt (by (with_reducible repeat (first | apply Kd.R_alloc | apply Kd.R_drewN | apply Kd.R_drew)); exact HO267.out)) k_ hk⟩)); (case aO => exact (by (with_reducible repeat (first | apply Kd.R_alloc | apply Kd.R_drewN | apply Kd.R_drew)); exact Kd.R_mono HO272.out (fun _ hk => ⟨hk.1.2, hk.2⟩))); (case aS => exact (below_size (by repeat (first | (with_reducible first | exact HB.out | apply below_alloc | apply pw_below_drewN | apply below_drew1) | exact HB.out)))); (case aL => have := LMc30.out; omega); intro v274 w46 ho hb hg hat; rw [← Ny273.out] at ho; have n0_ := Aside0.mk (Kd.R_after (ok := (fun k_ => some k_ ≠ (.slice (some ⟨go29, 0, none⟩) y265.length co41 : Value).ownBlock)) (by (with_reducible repeat (first | apply Kd.R_alloc | apply Kd.R_drewN | apply Kd.R_drew)); exact Kd.R_mono HO_12.out (fun _ hk => ⟨hk.1.2, hk.2⟩)) hg hat); have n1_ := Aside0.mk (Kd.R_after (ok := (fun k_ => some k_ ≠ (.slice Ao40 t257.length co40 : Value).ownBlock)) (by (with_reducible repeat (first | apply Kd.R_alloc | apply Kd.R_drewN | apply Kd.R_drew)); exact HO267.out) hg hat); have n2_ := Aside0.mk (hb); have n3_ := Aside0.mk (ho); clear HO_12; clear HO267; clear HB; clear HO272; have HO_12 := n0_; have HO267 := n1_; have HB := n2_; have HO275 := n3_; clear n0_ n1_ n2_ n3_; clear ho hb hg hat; obtain ⟨Ao47, co47, eo47⟩ := Kd.R_slice HO275.out; subst eo47; have p276 : 0 ≤ ((ji26) : Int) := of_decide_eq_true (by first | (with_reducible assumption) | assumption); have q276 : (ji26) < (y273.length : Int) := of_decide_eq_true (by first | (with_reducible assumption) | assumption); obtain ⟨ad276, e276, hx276_0, hx276_1, hx276_2⟩ := at_T37 (Kd.R_reads' HO275.out).2.2 (ji26) p276 q276; cases e276; replace p276 := eq_true p276; replace q276 := eq_true q276; have p32 : 0 ≤ ((ji26) : Int) := of_decide_eq_true (by first | (with_reducible assumption) | assumption); have q32 : ((ji26) : Int) < ((y273.length : Int) : Int) := of_decide_eq_true (by first | (with_reducible assumption) | assumption); obtain ⟨go32, co32, eo32, gb32, gl32, cl32, HG32⟩ := Kd.R_form HO275.out (by omega); (first | cases eo32 | (injection eo32 with ea_ en_ ec_; (first | subst ea_ | (injection ea_ with ea_; subst ea_)); subst ec_; clear en_)); have GB32 := Aside0.mk gb32; have GG32 := Aside0.mk HG32; clear gb32 gl32 HG32; (first | simp only [add_plain] at hx276_0 | skip); (first | simp only [add_plain] at hx276_1 | skip); (first | simp only [add_plain] at hx276_2 | skip); obtain ⟨ce32, hcl32, hM32, hcc32, hfr32⟩ := Kd.R_elem HO275.out z37 ((ji26) : Int) p32 q32; obtain rfl := k37_openM hM32; have hx32_0 : w46.cell? ⟨go32, ((ji26) : Int).toNat * 3, none⟩ = some (.int .u8 ((rd_T37 y273 (ji26)).f0)) := hcc32 0 _ rfl; have hx32_1 : w46.cell? ⟨go32, ((ji26) : Int).toNat * 3 + 1, none⟩ = some (.int .i64 ((rd_T37 y273 (ji26)).f1)) := hcc32 1 _ rfl; have hx32_2 : w46.cell? ⟨go32, ((ji26) : Int).toNat * 3 + 2, none⟩ = some (.int .i64 ((rd_T37 y273 (ji26)).f2)) := hcc32 2 _ rfl; have hf32_0 : w46.frozen? ⟨go32, ((ji26) : Int).toNat * 3, none⟩ = false := hfr32 0; have hf32_1 : w46.frozen? ⟨go32, ((ji26) : Int).toNat * 3 + 1, none⟩ = false := hfr32 1; have hf32_2 : w46.frozen? ⟨go32, ((ji26) : Int).toNat * 3 + 2, none⟩ = false := hfr32 2; clear hcl32 hcc32 hfr32 hM32; replace p32 := eq_true p32; replace q32 := eq_true q32; have HX48 := Aside0.mk (show Kd.R k37 37 w46 w.heap.size (fun k_ => some k_ ≠ (.slice Ao40 t257.length co40 : Value).ownBlock ∧ some k_ ≠ (.slice (some ⟨go29, 0, none⟩) y265.length co41 : Value).ownBlock) (.slice (some ⟨go32, 0, none⟩) y273.length co47) y273 from (by (with_reducible repeat (first | apply Kd.R_alloc | apply Kd.R_drewN | apply Kd.R_drew)); exact HO275.out)); obtain ⟨ce48, hcl48, hM48, hcc48, hfr48⟩ := Kd.R_elem HX48.out z37 ((ji26) : Int) (of_decide_eq_true (by first | (with_reducible assumption) | assumption)) (by have h_ : ((ji26) : Int) < ((y273.length : Int) : Int) := of_decide_eq_true (by first | (with_reducible assumption) | assumption); first | exact h_ | (have e_ := (Kd.R_reads' HO275.out).1; omega) | simpa using h_); obtain rfl := k37_openM hM48; have HP48 := Kd.R_seg HX48.out ((ji26) : Int) (of_decide_eq_true (by first | (with_reducible assumption) | assumption)) (by have h_ : ((ji26) : Int) < ((y273.length : Int) : Int) := of_decide_eq_true (by first | (with_reducible assumption) | assumption); first | exact h_ | (have e_ := (Kd.R_reads' HO275.out).1; omega) | simpa using h_) (seg := [.int .i64 (wrap64 (((rd_T37 y273 (ji26)).f1) + 1))]) (j := 1) hcl48 hcc48 (show 2 ≤ 3 from by decide) (x' := (⟨(rd_T37 y273 (ji26)).f0, wrap64 (((rd_T37 y273 (ji26)).f1) + 1), (rd_T37 y273 (ji26)).f2⟩ : S37)) (k37_mkM _ _ _ (⟨(rd_T37 y273 (ji26)).f0, wrap64 (((rd_T37 y273 (ji26)).f1) + 1), (rd_T37 y273 (ji26)).f2⟩ : S37) ) (fun _ hk => hk); have hx48_1 := hcc48 1 _ rfl; (try simp only [show (k37).sz = 3 from rfl, Nat.mul_one, Nat.add_zero] at hx48_1); have hf48_1 := hfr48 1; (try simp only [show (k37).sz = 3 from rfl, Nat.mul_one, Nat.add_zero] at hf48_1); clear hcl48 hcc48 hfr48 hM48) | ((with_reducible refine gate_store (t := 3) (p := 79) rfl ?_); refine store_event (t := 3) (p := 79) (v := ?vo_w49) (w1 := (w46.setCell ⟨go32, ((ji26) : Int).toNat * 3 + 1, none⟩ (.int .i64 (wrap64 (((rd_T37 y273 (ji26)).f1) + 1))))) ?hg ?ho ?hn ?hr ?_; (case ho => rfl); (case hg => rfl); (case hn => rfl); (case hr => first | (go_simp; done) | (go_simp; rfl)); intro w49 hw; have hg : w46.grownBy w49 (some go32) := (by rw [hw]; exact HP48.2); have hp_ : Kd.R k37 37 w49 w.heap.size (fun k_ => some k_ ≠ (.slice Ao40 t257.length co40 : Value).ownBlock ∧ some k_ ≠ (.slice (some ⟨go29, 0, none⟩) y265.length co41 : Value).ownBlock) (.slice (some ⟨go32, 0, none⟩) y273.length co47) y277 := (by rw [hw, Ny277.out]; exact HP48.1); clear HP48; have n0_ := Aside0.mk (Kd.R_after (v := (.slice (some ⟨go32, 0, none⟩) y273.length co47)) (v1 := (.slice (some ⟨go32, 0, none⟩) y273.length co47)) (ok := (fun k_ => some k_ ≠ (.slice (some ⟨go29, 0, none⟩) y265.length co41 : Value).ownBlock)) (by (with_reducible repeat (first | apply Kd.R_alloc | apply Kd.R_drewN | apply Kd.R_drew)); exact HO_12.out) hg (.inl rfl)); have n1_ := Aside0.mk (Kd.R_after (v := (.slice (some ⟨go32, 0, none⟩) y273.length co47)) (v1 := (.slice (some ⟨go32, 0, none⟩) y273.length co47)) (ok := (fun k_ => some k_ ≠ (.slice Ao40 t257.length co40 : Value).ownBlock)) (by (with_reducible repeat (first | apply Kd.R_alloc | apply Kd.R_drewN | apply Kd.R_drew)); exact HO267.out) hg (.inl rfl)); have n2_ := Aside0.mk (hp_); have n3_ := Aside0.mk ((by rw [hw]; exact below_set (HB.out) GB32.out : Below w.heap.size w w49)); clear HO_12; clear HO267; clear HO275; clear HB; have HO_12 := n0_; have HO267 := n1_; have HO275 := n2_; have HB := n3_; clear n0_ n1_ n2_ n3_; clear hg hw hp_) | (go_at_call 13; refine calls_of_args (args' := #[.slice (some ⟨go29, 0, none⟩) y269.length co41]) (by first | (rw [show y269.length = y265.length from (Kd.R_reads' HO267.out).1.symm] <;> rfl) | rfl) ?_; (with_reducible refine (dtab_Whole.calls kj9 _ _ y269 t278 _ ?side1 ?side2 A34.out).mono ?_); (case side1 => repeat (first | exact (Kd.R_reads' HO267.out).2.2 | (with_reducible refine Kd.C_alloc ?_ _) | (with_reducible refine Kd.C_drewN ?_ _) | (with_reducible refine Kd.C_drew ?_))); (case side2 => rw [show y269.length = y265.length from (Kd.R_reads' HO267.out).1.symm]; exact (Kd.R_reads' HO267.out).2.1); rintro e w50 ⟨rfl, hb⟩; have n0_ := Aside0.mk (Kd.R_below (by (with_reducible repeat (first | apply Kd.R_alloc | apply Kd.R_drewN | apply Kd.R_drew)); exact HO_12.out) hb); have n1_ := Aside0.mk (Kd.R_below (by (with_reducible repeat (first | apply Kd.R_alloc | apply Kd.R_drewN | apply Kd.R_drew)); exact HO267.out) hb); have n2_ := Aside0.mk (Kd.R_below (by (with_reducible repeat (first | apply Kd.R_alloc | apply Kd.R_drewN | apply Kd.R_drew)); exact HO275.out) hb); have n3_ := Aside0.mk (below_step (by repeat (first | (with_reducible first | exact HB.out | apply below_alloc | apply pw_below_drewN | apply below_drew1) | exact HB.out)) hb); clear HO_12; clear HO267; clear HO275; clear HB; have HO_12 := n0_; have HO267 := n1_; have HO275 := n2_; have HB := n3_; clear n0_ n1_ n2_ n3_; (try clear hb); (try clear hb2); (try clear hk); (try clear hi)) | (go_at_call 13; refine calls_of_args (args' := #[.slice (some ⟨go32, 0, none⟩) y277.length co47]) (by first | (rw [show y277.length = y273.length from (Kd.R_reads' HO275.out).1.symm] <;> rfl) | rfl) ?_; (with_reducible refine (dtab_Whole.calls kj9 _ _ y277 t279 _ ?side1 ?side2 A36.out).mono ?_); (case side1 => repeat (first | exact (Kd.R_reads' HO275.out).2.2 | (with_reducible refine Kd.C_alloc ?_ _) | (with_reducible refine Kd.C_drewN ?_ _) | (with_reducible refine Kd.C_drew ?_))); (case side2 => rw [show y277.length = y273.length from (Kd.R_reads' HO275.out).1.symm]; exact (Kd.R_reads' HO275.out).2.1); rintro e w51 ⟨rfl, hb⟩; have n0_ := Aside0.mk (Kd.R_below (by (with_reducible repeat (first | apply Kd.R_alloc | apply Kd.R_drewN | apply Kd.R_drew)); exact HO_12.out) hb); have n1_ := Aside0.mk (Kd.R_below (by (with_reducible repeat (first | apply Kd.R_alloc | apply Kd.R_drewN | apply Kd.R_drew)); exact HO267.out) hb); have n2_ := Aside0.mk (Kd.R_below (by (with_reducible repeat (first | apply Kd.R_alloc | apply Kd.R_drewN | apply Kd.R_drew)); exact HO275.out) hb); have n3_ := Aside0.mk (below_step (by repeat (first | (with_reducible first | exact HB.out | apply below_alloc | apply pw_below_drewN | apply below_drew1) | exact HB.out)) hb); clear HO_12; clear HO267; clear HO275; clear HB; have HO_12 := n0_; have HO267 := n1_; have HO275 := n2_; have HB := n3_; clear n0_ n1_ n2_ n3_; (try clear hb); (try clear hb2); (try clear hk); (try clear hi)))
                          go_ret
                          exact ⟨by first | rfl | (simp [errW_none, errW_some] <;> rfl) | (simp only [← hji26]; first | rfl | (simp [errW_none, errW_some] <;> rfl)) | (simp [*, errW_none, errW_some] <;> rfl), by repeat (first | (with_reducible first | exact HB.out | apply below_alloc | apply pw_below_drewN | apply below_drew1) | exact HB.out)⟩
                        · rw [if_neg c35] at H
                          have c35b0 : (t278 == (a3 == 0)) = false := by simpa using c35
                          (try (have c35b1 : decide (t278 = (a3 == 0)) = false := by simpa using c35))
                          (try (have c35b2 : (t278 == (a3 == 0)) = false := by simpa using c35))
                          (try (have c35b3 : ¬ (t278 = (a3 == 0)) := by simpa using c35))
                          clear c35
                          obtain rfl := Option.some.inj H
                          go_wp2_with (first | ((with_reducible refine gate_dst (N := 47) rfl ?_); (try (refine gate_guard (by rfl) ?_; dsimp only)); refine Kd.R_lit k37 _ 37 ?hg (N := 47) ?hd (xs := ([] : List (S37))) (inner := []) (ok := fun _ => True) (okp := fun _ => True) ?hr ?hp (fun _ hk => hk) trivial (Below.refl _ _) (Nat.le_refl _) (by simp) ?_; (case hd => rfl); (case hg => rfl); (case hr => first | (go_simp; done) | (go_simp; rfl)); (case hp => exact (Reps.none _ _)); intro v263 w52 ho53 hb hg_ hnew_; clear hg_ hnew_; (first | rw [← Ny262.out] at ho53 | (simp only [Int.reduceToNat] at ho53; rw [← Ny262.out] at ho53)); have n0_ := Aside0.mk (Kd.R_elder' (by (with_reducible repeat (first | apply Kd.R_alloc | apply Kd.R_drewN | apply Kd.R_drew)); exact HO_12.out) (Kd.R_base ho53) hb); have n1_ := Aside0.mk (Kd.R_lower (Kd.R_new' ho53 (Kd.R_lt (by (with_reducible repeat (first | apply Kd.R_alloc | apply Kd.R_drewN | apply Kd.R_drew)); exact HO_12.out))) (below_size (by repeat (first | (with_reducible first | exact HB.out | apply below_alloc | apply pw_below_drewN | apply below_drew1) | exact HB.out)))); have n2_ := Aside0.mk (below_step (by repeat (first | (with_reducible first | exact HB.out | apply below_alloc | apply pw_below_drewN | apply below_drew1) | exact HB.out)) hb); clear HO_12; clear HB; have HO_12 := n0_; have HO264 := n1_; have HB := n2_; clear n0_ n1_ n2_; clear hb ho53; obtain ⟨Ao55, co55, eo55⟩ := Kd.R_slice HO_12.out; subst eo55) | ((with_reducible refine gate_builtin (b := .append) (xs := #[.tmp 47, .tmp 48]) rfl ?_); (try (refine gate_guard (by rfl) ?_; dsimp only)); at_builtin; refine Kd.R_append_rows k37 (w0 := w) w.heap.size rfl (.tmp 47) (.tmp 48) 25 37 (.agg #[(.int .u8 0), (.int .i64 0), (.int .i64 0)]) 24 rfl Try.underlying25 info37 rfl (by decide) (by omega) v263 y262 t257 _ _ _ (fun k_ => some k_ ≠ (.slice Ao55 t257.length co55 : Value).ownBlock) (fun _ => False) rfl rfl ?aO ?aR (fun _ _ h => h) (fun _ h => h.elim) ?aF ?aB ?aS ?aL ?_; (case aR => repeat (first | exact (Kd.R_reads' HO_12.out).2.2 | (with_reducible refine Kd.C_alloc ?_ _) | (with_reducible refine Kd.C_drewN ?_ _) | (with_reducible refine Kd.C_drew ?_))); (case aB => exact (by repeat (first | (with_reducible first | exact HB.out | apply below_alloc | apply pw_below_drewN | apply below_drew1) | exact HB.out))); (case aF => exact (fun k_ hk => Kd.fresh' (Kd.R_lt (by (with_reducible repeat (first | apply Kd.R_alloc | apply Kd.R_drewN | apply Kd.R_drew)); exact HO_12.out)) k_ hk)); (case aO => exact (by (with_reducible repeat (first | apply Kd.R_alloc | apply Kd.R_drewN | apply Kd.R_drew)); exact Kd.R_mono HO264.out (fun _ hk => hk.2))); (case aS => exact (below_size (by repeat (first | (with_reducible first | exact HB.out | apply below_alloc | apply pw_below_drewN | apply below_drew1) | exact HB.out)))); (case aL => have := LMc24.out; omega); intro v266 w54 ho hb hg hat; rw [← Ny265.out] at ho; have n0_ := Aside0.mk (Kd.R_after (ok := (fun _ => True)) (by (with_reducible repeat (first | apply Kd.R_alloc | apply Kd.R_drewN | apply Kd.R_drew)); exact HO_12.out) hg hat); have n1_ := Aside0.mk (hb); have n2_ := Aside0.mk (ho); clear HO_12; clear HB; clear HO264; have HO_12 := n0_; have HB := n1_; have HO267 := n2_; clear n0_ n1_ n2_; clear ho hb hg hat; obtain ⟨Ao56, co56, eo56⟩ := Kd.R_slice HO267.out; subst eo56; have p268 : 0 ≤ ((ji26) : Int) := of_decide_eq_true (by first | (with_reducible assumption) | assumption); have q268 : (ji26) < (y265.length : Int) := of_decide_eq_true (by first | (with_reducible assumption) | assumption); obtain ⟨ad268, e268, hx268_0, hx268_1, hx268_2⟩ := at_T37 (Kd.R_reads' HO267.out).2.2 (ji26) p268 q268; cases e268; replace p268 := eq_true p268; replace q268 := eq_true q268; have p29 : 0 ≤ ((ji26) : Int) := of_decide_eq_true (by first | (with_reducible assumption) | assumption); have q29 : ((ji26) : Int) < ((y265.length : Int) : Int) := of_decide_eq_true (by first | (with_reducible assumption) | assumption); obtain ⟨go29, co29, eo29, gb29, gl29, cl29, HG29⟩ := Kd.R_form HO267.out (by omega); (first | cases eo29 | (injection eo29 with ea_ en_ ec_; (first | subst ea_ | (injection ea_ with ea_; subst ea_)); subst ec_; clear en_)); have GB29 := Aside0.mk gb29; have GG29 := Aside0.mk HG29; clear gb29 gl29 HG29; (first | simp only [add_plain] at hx268_0 | skip); (first | simp only [add_plain] at hx268_1 | skip); (first | simp only [add_plain] at hx268_2 | skip); obtain ⟨ce29, hcl29, hM29, hcc29, hfr29⟩ := Kd.R_elem HO267.out z37 ((ji26) : Int) p29 q29; obtain rfl := k37_openM hM29; have hx29_0 : w54.cell? ⟨go29, ((ji26) : Int).toNat * 3, none⟩ = some (.int .u8 ((rd_T37 y265 (ji26)).f0)) := hcc29 0 _ rfl; have hx29_1 : w54.cell? ⟨go29, ((ji26) : Int).toNat * 3 + 1, none⟩ = some (.int .i64 ((rd_T37 y265 (ji26)).f1)) := hcc29 1 _ rfl; have hx29_2 : w54.cell? ⟨go29, ((ji26) : Int).toNat * 3 + 2, none⟩ = some (.int .i64 ((rd_T37 y265 (ji26)).f2)) := hcc29 2 _ rfl; have hf29_0 : w54.frozen? ⟨go29, ((ji26) : Int).toNat * 3, none⟩ = false := hfr29 0; have hf29_1 : w54.frozen? ⟨go29, ((ji26) : Int).toNat * 3 + 1, none⟩ = false := hfr29 1; have hf29_2 : w54.frozen? ⟨go29, ((ji26) : Int).toNat * 3 + 2, none⟩ = false := hfr29 2; clear hcl29 hcc29 hfr29 hM29; replace p29 := eq_true p29; replace q29 := eq_true q29; have HX57 := Aside0.mk (show Kd.R k37 37 w54 w.heap.size (fun k_ => some k_ ≠ (.slice Ao55 t257.length co55 : Value).ownBlock) (.slice (some ⟨go29, 0, none⟩) y265.length co56) y265 from (by (with_reducible repeat (first | apply Kd.R_alloc | apply Kd.R_drewN | apply Kd.R_drew)); exact HO267.out)); obtain ⟨ce57, hcl57, hM57, hcc57, hfr57⟩ := Kd.R_elem HX57.out z37 ((ji26) : Int) (of_decide_eq_true (by first | (with_reducible assumption) | assumption)) (by have h_ : ((ji26) : Int) < ((y265.length : Int) : Int) := of_decide_eq_true (by first | (with_reducible assumption) | assumption); first | exact h_ | (have e_ := (Kd.R_reads' HO267.out).1; omega) | simpa using h_); obtain rfl := k37_openM hM57; have HP57 := Kd.R_seg HX57.out ((ji26) : Int) (of_decide_eq_true (by first | (with_reducible assumption) | assumption)) (by have h_ : ((ji26) : Int) < ((y265.length : Int) : Int) := of_decide_eq_true (by first | (with_reducible assumption) | assumption); first | exact h_ | (have e_ := (Kd.R_reads' HO267.out).1; omega) | simpa using h_) (seg := [.int .i64 (wrap64 (((rd_T37 y265 (ji26)).f2) + (wrap64 (a3))))]) (j := 2) hcl57 hcc57 (show 3 ≤ 3 from by decide) (x' := (⟨(rd_T37 y265 (ji26)).f0, (rd_T37 y265 (ji26)).f1, wrap64 (((rd_T37 y265 (ji26)).f2) + (wrap64 (a3)))⟩ : S37)) (k37_mkM _ _ _ (⟨(rd_T37 y265 (ji26)).f0, (rd_T37 y265 (ji26)).f1, wrap64 (((rd_T37 y265 (ji26)).f2) + (wrap64 (a3)))⟩ : S37) ) (fun _ hk => hk); have hx57_2 := hcc57 2 _ rfl; (try simp only [show (k37).sz = 3 from rfl, Nat.mul_one, Nat.add_zero] at hx57_2); have hf57_2 := hfr57 2; (try simp only [show (k37).sz = 3 from rfl, Nat.mul_one, Nat.add_zero] at hf57_2); clear hcl57 hcc57 hfr57 hM57) | ((with_reducible refine gate_store (t := 3) (p := 66) rfl ?_); refine store_event (t := 3) (p := 66) (v := ?vo_w58) (w1 := (w54.setCell ⟨go29, ((ji26) : Int).toNat * 3 + 2, none⟩ (.int .i64 (wrap64 (((rd_T37 y265 (ji26)).f2) + (wrap64 (a3))))))) ?hg ?ho ?hn ?hr ?_; (case ho => rfl); (case hg => rfl); (case hn => rfl); (case hr => first | (go_simp; done) | (go_simp; rfl)); intro w58 hw; have hg : w54.grownBy w58 (some go29) := (by rw [hw]; exact HP57.2); have hp_ : Kd.R k37 37 w58 w.heap.size (fun k_ => some k_ ≠ (.slice Ao55 t257.length co55 : Value).ownBlock) (.slice (some ⟨go29, 0, none⟩) y265.length co56) y269 := (by rw [hw, Ny269.out]; exact HP57.1); clear HP57; have n0_ := Aside0.mk (Kd.R_after (v := (.slice (some ⟨go29, 0, none⟩) y265.length co56)) (v1 := (.slice (some ⟨go29, 0, none⟩) y265.length co56)) (ok := (fun _ => True)) (by (with_reducible repeat (first | apply Kd.R_alloc | apply Kd.R_drewN | apply Kd.R_drew)); exact HO_12.out) hg (.inl rfl)); have n1_ := Aside0.mk (hp_); have n2_ := Aside0.mk ((by rw [hw]; exact below_set (HB.out) GB29.out : Below w.heap.size w w58)); clear HO_12; clear HO267; clear HB; have HO_12 := n0_; have HO267 := n1_; have HB := n2_; clear n0_ n1_ n2_; clear hg hw hp_) | ((with_reducible refine gate_dst (N := 67) rfl ?_); (try (refine gate_guard (by rfl) ?_; dsimp only)); refine Kd.R_lit k37 _ 37 ?hg (N := 67) ?hd (xs := ([] : List (S37))) (inner := []) (ok := fun _ => True) (okp := fun _ => True) ?hr ?hp (fun _ hk => hk) trivial (Below.refl _ _) (Nat.le_refl _) (by simp) ?_; (case hd => rfl); (case hg => rfl); (case hr => first | (go_simp; done) | (go_simp; rfl)); (case hp => exact (Reps.none _ _)); intro v271 w59 ho60 hb hg_ hnew_; clear hg_ hnew_; (first | rw [← Ny270.out] at ho60 | (simp only [Int.reduceToNat] at ho60; rw [← Ny270.out] at ho60)); have n0_ := Aside0.mk (Kd.R_elder' (by (with_reducible repeat (first | apply Kd.R_alloc | apply Kd.R_drewN | apply Kd.R_drew)); exact HO_12.out) (Kd.R_base ho60) hb); have n1_ := Aside0.mk (Kd.R_elder' (by (with_reducible repeat (first | apply Kd.R_alloc | apply Kd.R_drewN | apply Kd.R_drew)); exact HO267.out) (Kd.R_base ho60) hb); have n2_ := Aside0.mk (Kd.R_lower (Kd.R_new' (Kd.R_new' ho60 (Kd.R_lt (by (with_reducible repeat (first | apply Kd.R_alloc | apply Kd.R_drewN | apply Kd.R_drew)); exact HO_12.out))) (Kd.R_lt (by (with_reducible repeat (first | apply Kd.R_alloc | apply Kd.R_drewN | apply Kd.R_drew)); exact HO267.out))) (below_size (by repeat (first | (with_reducible first | exact HB.out | apply below_alloc | apply pw_below_drewN | apply below_drew1) | exact HB.out)))); have n3_ := Aside0.mk (below_step (by repeat (first | (with_reducible first | exact HB.out | apply below_alloc | apply pw_below_drewN | apply below_drew1) | exact HB.out)) hb); clear HO_12; clear HO267; clear HB; have HO_12 := n0_; have HO267 := n1_; have HO272 := n2_; have HB := n3_; clear n0_ n1_ n2_ n3_; clear hb ho60) | ((with_reducible refine gate_builtin (b := .append) (xs := #[.tmp 67, .tmp 68]) rfl ?_); (try (refine gate_guard (by rfl) ?_; dsimp only)); at_builtin; refine Kd.R_append_rows k37 (w0 := w) w.heap.size rfl (.tmp 67) (.tmp 68) 25 37 (.agg #[(.int .u8 0), (.int .i64 0), (.int .i64 0)]) 24 rfl Try.underlying25 info37 rfl (by decide) (by omega) v271 y270 t257 _ _ _ (fun k_ => some k_ ≠ (.slice Ao55 t257.length co55 : Value).ownBlock ∧ some k_ ≠ (.slice (some ⟨go29, 0, none⟩) y265.length co56 : Value).ownBlock) (fun _ => False) rfl rfl ?aO ?aR (fun _ _ h => h) (fun _ h => h.elim) ?aF ?aB ?aS ?aL ?_; (case aR => repeat (first | exact (Kd.R_reads' HO_12.out).2.2 | (with_reducible refine Kd.C_alloc ?_ _) | (with_reducible refine Kd.C_drewN ?_ _) | (with_reducible refine Kd.C_drew ?_))); (case aB => exact (by repeat (first | (with_reducible first | exact HB.out | apply below_alloc | apply pw_below_drewN | apply below_drew1) | exact HB.out))); (case aF => exact (fun k_ hk => ⟨Kd.fresh' (Kd.R_lt (by (with_reducible repeat (first | apply Kd.R_alloc | apply Kd.R_drewN | apply Kd.R_drew)); exact HO_12.out)) k_ hk, Kd.fresh' (Kd.R_lt (by (with_reducible repeat (first | apply Kd.R_alloc | apply Kd.R_drewN | apply Kd.R_drew)); exact HO267.out)) k_ hk⟩)); (case aO => exact (by (with_reducible repeat (first | apply Kd.R_alloc | apply Kd.R_drewN | apply Kd.R_drew)); exact Kd.R_mono HO272.out (fun _ hk => ⟨hk.1.2, hk.2⟩))); (case aS => exact (below_size (by repeat (first | (with_reducible first | exact HB.out | apply below_alloc | apply pw_below_drewN | apply below_drew1) | exact HB.out)))); (case aL => have := LMc30.out; omega); intro v274 w61 ho hb hg hat; rw [← Ny273.out] at ho; have n0_ := Aside0.mk (Kd.R_after (ok := (fun k_ => some k_ ≠ (.slice (some ⟨go29, 0, none⟩) y265.length co56 : Value).ownBlock)) (by (with_reducible repeat (first | apply Kd.R_alloc | apply Kd.R_drewN | apply Kd.R_drew)); exact Kd.R_mono HO_12.out (fun _ hk => ⟨hk.1.2, hk.2⟩)) hg hat); have n1_ := Aside0.mk (Kd.R_after (ok := (fun k_ => some k_ ≠ (.slice Ao55 t257.length co55 : Value).ownBlock)) (by (with_reducible repeat (first | apply Kd.R_alloc | apply Kd.R_drewN | apply Kd.R_drew)); exact HO267.out) hg hat); have n2_ := Aside0.mk (hb); have n3_ := Aside0.mk (ho); clear HO_12; clear HO267; clear HB; clear HO272; have HO_12 := n0_; have HO267 := n1_; have HB := n2_; have HO275 := n3_; clear n0_ n1_ n2_ n3_; clear ho hb hg hat; obtain ⟨Ao62, co62, eo62⟩ := Kd.R_slice HO275.out; subst eo62; have p276 : 0 ≤ ((ji26) : Int) := of_decide_eq_true (by first | (with_reducible assumption) | assumption); have q276 : (ji26) < (y273.length : Int) := of_decide_eq_true (by first | (with_reducible assumption) | assumption); obtain ⟨ad276, e276, hx276_0, hx276_1, hx276_2⟩ := at_T37 (Kd.R_reads' HO275.out).2.2 (ji26) p276 q276; cases e276; replace p276 := eq_true p276; replace q276 := eq_true q276; have p32 : 0 ≤ ((ji26) : Int) := of_decide_eq_true (by first | (with_reducible assumption) | assumption); have q32 : ((ji26) : Int) < ((y273.length : Int) : Int) := of_decide_eq_true (by first | (with_reducible assumption) | assumption); obtain ⟨go32, co32, eo32, gb32, gl32, cl32, HG32⟩ := Kd.R_form HO275.out (by omega); (first | cases eo32 | (injection eo32 with ea_ en_ ec_; (first | subst ea_ | (injection ea_ with ea_; subst ea_)); subst ec_; clear en_)); have GB32 := Aside0.mk gb32; have GG32 := Aside0.mk HG32; clear gb32 gl32 HG32; (first | simp only [add_plain] at hx276_0 | skip); (first | simp only [add_plain] at hx276_1 | skip); (first | simp only [add_plain] at hx276_2 | skip); obtain ⟨ce32, hcl32, hM32, hcc32, hfr32⟩ := Kd.R_elem HO275.out z37 ((ji26) : Int) p32 q32; obtain rfl := k37_openM hM32; have hx32_0 : w61.cell? ⟨go32, ((ji26) : Int).toNat * 3, none⟩ = some (.int .u8 ((rd_T37 y273 (ji26)).f0)) := hcc32 0 _ rfl; have hx32_1 : w61.cell? ⟨go32, ((ji26) : Int).toNat * 3 + 1, none⟩ = some (.int .i64 ((rd_T37 y273 (ji26)).f1)) := hcc32 1 _ rfl; have hx32_2 : w61.cell? ⟨go32, ((ji26) : Int).toNat * 3 + 2, none⟩ = some (.int .i64 ((rd_T37 y273 (ji26)).f2)) := hcc32 2 _ rfl; have hf32_0 : w61.frozen? ⟨go32, ((ji26) : Int).toNat * 3, none⟩ = false := hfr32 0; have hf32_1 : w61.frozen? ⟨go32, ((ji26) : Int).toNat * 3 + 1, none⟩ = false := hfr32 1; have hf32_2 : w61.frozen? ⟨go32, ((ji26) : Int).toNat * 3 + 2, none⟩ = false := hfr32 2; clear hcl32 hcc32 hfr32 hM32; replace p32 := eq_true p32; replace q32 := eq_true q32; have HX63 := Aside0.mk (show Kd.R k37 37 w61 w.heap.size (fun k_ => some k_ ≠ (.slice Ao55 t257.length co55 : Value).ownBlock ∧ some k_ ≠ (.slice (some ⟨go29, 0, none⟩) y265.length co56 : Value).ownBlock) (.slice (some ⟨go32, 0, none⟩) y273.length co62) y273 from (by (with_reducible repeat (first | apply Kd.R_alloc | apply Kd.R_drewN | apply Kd.R_drew)); exact HO275.out)); obtain ⟨ce63, hcl63, hM63, hcc63, hfr63⟩ := Kd.R_elem HX63.out z37 ((ji26) : Int) (of_decide_eq_true (by first | (with_reducible assumption) | assumption)) (by have h_ : ((ji26) : Int) < ((y273.length : Int) : Int) := of_decide_eq_true (by first | (with_reducible assumption) | assumption); first | exact h_ | (have e_ := (Kd.R_reads' HO275.out).1; omega) | simpa using h_); obtain rfl := k37_openM hM63; have HP63 := Kd.R_seg HX63.out ((ji26) : Int) (of_decide_eq_true (by first | (with_reducible assumption) | assumption)) (by have h_ : ((ji26) : Int) < ((y273.length : Int) : Int) := of_decide_eq_true (by first | (with_reducible assumption) | assumption); first | exact h_ | (have e_ := (Kd.R_reads' HO275.out).1; omega) | simpa using h_) (seg := [.int .i64 (wrap64 (((rd_T37 y273 (ji26)).f1) + 1))]) (j := 1) hcl63 hcc63 (show 2 ≤ 3 from by decide) (x' := (⟨(rd_T37 y273 (ji26)).f0, wrap64 (((rd_T37 y273 (ji26)).f1) + 1), (rd_T37 y273 (ji26)).f2⟩ : S37)) (k37_mkM _ _ _ (⟨(rd_T37 y273 (ji26)).f0, wrap64 (((rd_T37 y273 (ji26)).f1) + 1), (rd_T37 y273 (ji26)).f2⟩ : S37) ) (fun _ hk => hk); have hx63_1 := hcc63 1 _ rfl; (try simp only [show (k37).sz = 3 from rfl, Nat.mul_one, Nat.add_zero] at hx63_1); have hf63_1 := hfr63 1; (try simp only [show (k37).sz = 3 from rfl, Nat.mul_one, Nat.add_zero] at hf63_1); clear hcl63 hcc63 hfr63 hM63) | ((with_reducible refine gate_store (t := 3) (p := 79) rfl ?_); refine store_event (t := 3) (p := 79) (v := ?vo_w64) (w1 := (w61.setCell ⟨go32, ((ji26) : Int).toNat * 3 + 1, none⟩ (.int .i64 (wrap64 (((rd_T37 y273 (ji26)).f1) + 1))))) ?hg ?ho ?hn ?hr ?_; (case ho => rfl); (case hg => rfl); (case hn => rfl); (case hr => first | (go_simp; done) | (go_simp; rfl)); intro w64 hw; have hg : w61.grownBy w64 (some go32) := (by rw [hw]; exact HP63.2); have hp_ : Kd.R k37 37 w64 w.heap.size (fun k_ => some k_ ≠ (.slice Ao55 t257.length co55 : Value).ownBlock ∧ some k_ ≠ (.slice (some ⟨go29, 0, none⟩) y265.length co56 : Value).ownBlock) (.slice (some ⟨go32, 0, none⟩) y273.length co62) y277 := (by rw [hw, Ny277.out]; exact HP63.1); clear HP63; have n0_ := Aside0.mk (Kd.R_after (v := (.slice (some ⟨go32, 0, none⟩) y273.length co62)) (v1 := (.slice (some ⟨go32, 0, none⟩) y273.length co62)) (ok := (fun k_ => some k_ ≠ (.slice (some ⟨go29, 0, none⟩) y265.length co56 : Value).ownBlock)) (by (with_reducible repeat (first | apply Kd.R_alloc | apply Kd.R_drewN | apply Kd.R_drew)); exact HO_12.out) hg (.inl rfl)); have n1_ := Aside0.mk (Kd.R_after (v := (.slice (some ⟨go32, 0, none⟩) y273.length co62)) (v1 := (.slice (some ⟨go32, 0, none⟩) y273.length co62)) (ok := (fun k_ => some k_ ≠ (.slice Ao55 t257.length co55 : Value).ownBlock)) (by (with_reducible repeat (first | apply Kd.R_alloc | apply Kd.R_drewN | apply Kd.R_drew)); exact HO267.out) hg (.inl rfl)); have n2_ := Aside0.mk (hp_); have n3_ := Aside0.mk ((by rw [hw]; exact below_set (HB.out) GB32.out : Below w.heap.size w w64)); clear HO_12; clear HO267; clear HO275; clear HB; have HO_12 := n0_; have HO267 := n1_; have HO275 := n2_; have HB := n3_; clear n0_ n1_ n2_ n3_; clear hg hw hp_) | (go_at_call 13; refine calls_of_args (args' := #[.slice (some ⟨go29, 0, none⟩) y269.length co56]) (by first | (rw [show y269.length = y265.length from (Kd.R_reads' HO267.out).1.symm] <;> rfl) | rfl) ?_; (with_reducible refine (dtab_Whole.calls kj9 _ _ y269 t278 _ ?side1 ?side2 A34.out).mono ?_); (case side1 => repeat (first | exact (Kd.R_reads' HO267.out).2.2 | (with_reducible refine Kd.C_alloc ?_ _) | (with_reducible refine Kd.C_drewN ?_ _) | (with_reducible refine Kd.C_drew ?_))); (case side2 => rw [show y269.length = y265.length from (Kd.R_reads' HO267.out).1.symm]; exact (Kd.R_reads' HO267.out).2.1); rintro e w65 ⟨rfl, hb⟩; have n0_ := Aside0.mk (Kd.R_below (by (with_reducible repeat (first | apply Kd.R_alloc | apply Kd.R_drewN | apply Kd.R_drew)); exact HO_12.out) hb); have n1_ := Aside0.mk (Kd.R_below (by (with_reducible repeat (first | apply Kd.R_alloc | apply Kd.R_drewN | apply Kd.R_drew)); exact HO267.out) hb); have n2_ := Aside0.mk (Kd.R_below (by (with_reducible repeat (first | apply Kd.R_alloc | apply Kd.R_drewN | apply Kd.R_drew)); exact HO275.out) hb); have n3_ := Aside0.mk (below_step (by repeat (first | (with_reducible first | exact HB.out | apply below_alloc | apply pw_below_drewN | apply below_drew1) | exact HB.out)) hb); clear HO_12; clear HO267; clear HO275; clear HB; have HO_12 := n0_; have HO267 := n1_; have HO275 := n2_; have HB := n3_; clear n0_ n1_ n2_ n3_; (try clear hb); (try clear hb2); (try clear hk); (try clear hi)))
                          go_ret
                          exact ⟨by first | rfl | (simp [errW_none, errW_some] <;> rfl) | (simp only [← hji26]; first | rfl | (simp [errW_none, errW_some] <;> rfl)) | (simp [*, errW_none, errW_some] <;> rfl), by repeat (first | (with_reducible first | exact HB.out | apply below_alloc | apply pw_below_drewN | apply below_drew1) | exact HB.out)⟩
                      · replace c33 := Bool.eq_false_iff.mpr c33
                        subst c33
                        have H1 : (some false) = some r := by rw [if_neg (show ¬ (false = true) by decide)] at H; exact H
                        clear H
                        have H := H1
                        clear H1
                        obtain rfl := Option.some.inj H
                        go_wp2_with (first | ((with_reducible refine gate_dst (N := 47) rfl ?_); (try (refine gate_guard (by rfl) ?_; dsimp only)); refine Kd.R_lit k37 _ 37 ?hg (N := 47) ?hd (xs := ([] : List (S37))) (inner := []) (ok := fun _ => True) (okp := fun _ => True) ?hr ?hp (fun _ hk => hk) trivial (Below.refl _ _) (Nat.le_refl _) (by simp) ?_; (case hd => rfl); (case hg => rfl); (case hr => first | (go_simp; done) | (go_simp; rfl)); (case hp => exact (Reps.none _ _)); intro v263 w66 ho67 hb hg_ hnew_; clear hg_ hnew_; (first | rw [← Ny262.out] at ho67 | (simp only [Int.reduceToNat] at ho67; rw [← Ny262.out] at ho67)); have n0_ := Aside0.mk (Kd.R_elder' (by (with_reducible repeat (first | apply Kd.R_alloc | apply Kd.R_drewN | apply Kd.R_drew)); exact HO_12.out) (Kd.R_base ho67) hb); have n1_ := Aside0.mk (Kd.R_lower (Kd.R_new' ho67 (Kd.R_lt (by (with_reducible repeat (first | apply Kd.R_alloc | apply Kd.R_drewN | apply Kd.R_drew)); exact HO_12.out))) (below_size (by repeat (first | (with_reducible first | exact HB.out | apply below_alloc | apply pw_below_drewN | apply below_drew1) | exact HB.out)))); have n2_ := Aside0.mk (below_step (by repeat (first | (with_reducible first | exact HB.out | apply below_alloc | apply pw_below_drewN | apply below_drew1) | exact HB.out)) hb); clear HO_12; clear HB; have HO_12 := n0_; have HO264 := n1_; have HB := n2_; clear n0_ n1_ n2_; clear hb ho67; obtain ⟨Ao69, co69, eo69⟩ := Kd.R_slice HO_12.out; subst eo69) | ((with_reducible refine gate_builtin (b := .append) (xs := #[.tmp 47, .tmp 48]) rfl ?_); (try (refine gate_guard (by rfl) ?_; dsimp only)); at_builtin; refine Kd.R_append_rows k37 (w0 := w) w.heap.size rfl (.tmp 47) (.tmp 48) 25 37 (.agg #[(.int .u8 0), (.int .i64 0), (.int .i64 0)]) 24 rfl Try.underlying25 info37 rfl (by decide) (by omega) v263 y262 t257 _ _ _ (fun k_ => some k_ ≠ (.slice Ao69 t257.length co69 : Value).ownBlock) (fun _ => False) rfl rfl ?aO ?aR (fun _ _ h => h) (fun _ h => h.elim) ?aF ?aB ?aS ?aL ?_; (case aR => repeat (first | exact (Kd.R_reads' HO_12.out).2.2 | (with_reducible refine Kd.C_alloc ?_ _) | (with_reducible refine Kd.C_drewN ?_ _) | (with_reducible refine Kd.C_drew ?_))); (case aB => exact (by repeat (first | (with_reducible first | exact HB.out | apply below_alloc | apply pw_below_drewN | apply below_drew1) | exact HB.out))); (case aF => exact (fun k_ hk => Kd.fresh' (Kd.R_lt (by (with_reducible repeat (first | apply Kd.R_alloc | apply Kd.R_drewN | apply Kd.R_drew)); exact HO_12.out)) k_ hk)); (case aO => exact (by (with_reducible repeat (first | apply Kd.R_alloc | apply Kd.R_drewN | apply Kd.R_drew)); exact Kd.R_mono HO264.out (fun _ hk => hk.2))); (case aS => exact (below_size (by repeat (first | (with_reducible first | exact HB.out | apply below_alloc | apply pw_below_drewN | apply below_drew1) | exact HB.out)))); (case aL => have := LMc24.out; omega); intro v266 w68 ho hb hg hat; rw [← Ny265.out] at ho; have n0_ := Aside0.mk (Kd.R_after (ok := (fun _ => True)) (by (with_reducible repeat (first | apply Kd.R_alloc | apply Kd.R_drewN | apply Kd.R_drew)); exact HO_12.out) hg hat); have n1_ := Aside0.mk (hb); have n2_ := Aside0.mk (ho); clear HO_12; clear HB; clear HO264; have HO_12 := n0_; have HB := n1_; have HO267 := n2_; clear n0_ n1_ n2_; clear ho hb hg hat; obtain ⟨Ao70, co70, eo70⟩ := Kd.R_slice HO267.out; subst eo70; have p268 : 0 ≤ ((ji26) : Int) := of_decide_eq_true (by first | (with_reducible assumption) | assumption); have q268 : (ji26) < (y265.length : Int) := of_decide_eq_true (by first | (with_reducible assumption) | assumption); obtain ⟨ad268, e268, hx268_0, hx268_1, hx268_2⟩ := at_T37 (Kd.R_reads' HO267.out).2.2 (ji26) p268 q268; cases e268; replace p268 := eq_true p268; replace q268 := eq_true q268; have p29 : 0 ≤ ((ji26) : Int) := of_decide_eq_true (by first | (with_reducible assumption) | assumption); have q29 : ((ji26) : Int) < ((y265.length : Int) : Int) := of_decide_eq_true (by first | (with_reducible assumption) | assumption); obtain ⟨go29, co29, eo29, gb29, gl29, cl29, HG29⟩ := Kd.R_form HO267.out (by omega); (first | cases eo29 | (injection eo29 with ea_ en_ ec_; (first | subst ea_ | (injection ea_ with ea_; subst ea_)); subst ec_; clear en_)); have GB29 := Aside0.mk gb29; have GG29 := Aside0.mk HG29; clear gb29 gl29 HG29; (first | simp only [add_plain] at hx268_0 | skip); (first | simp only [add_plain] at hx268_1 | skip); (first | simp only [add_plain] at hx268_2 | skip); obtain ⟨ce29, hcl29, hM29, hcc29, hfr29⟩ := Kd.R_elem HO267.out z37 ((ji26) : Int) p29 q29; obtain rfl := k37_openM hM29; have hx29_0 : w68.cell? ⟨go29, ((ji26) : Int).toNat * 3, none⟩ = some (.int .u8 ((rd_T37 y265 (ji26)).f0)) := hcc29 0 _ rfl; have hx29_1 : w68.cell? ⟨go29, ((ji26) : Int).toNat * 3 + 1, none⟩ = some (.int .i64 ((rd_T37 y265 (ji26)).f1)) := hcc29 1 _ rfl; have hx29_2 : w68.cell? ⟨go29, ((ji26) : Int).toNat * 3 + 2, none⟩ = some (.int .i64 ((rd_T37 y265 (ji26)).f2)) := hcc29 2 _ rfl; have hf29_0 : w68.frozen? ⟨go29, ((ji26) : Int).toNat * 3, none⟩ = false := hfr29 0; have hf29_1 : w68.frozen? ⟨go29, ((ji26) : Int).toNat * 3 + 1, none⟩ = false := hfr29 1; have hf29_2 : w68.frozen? ⟨go29, ((ji26) : Int).toNat * 3 + 2, none⟩ = false := hfr29 2; clear hcl29 hcc29 hfr29 hM29; replace p29 := eq_true p29; replace q29 := eq_true q29; have HX71 := Aside0.mk (show Kd.R k37 37 w68 w.heap.size (fun k_ => some k_ ≠ (.slice Ao69 t257.length co69 : Value).ownBlock) (.slice (some ⟨go29, 0, none⟩) y265.length co70) y265 from (by (with_reducible repeat (first | apply Kd.R_alloc | apply Kd.R_drewN | apply Kd.R_drew)); exact HO267.out)); obtain ⟨ce71, hcl71, hM71, hcc71, hfr71⟩ := Kd.R_elem HX71.out z37 ((ji26) : Int) (of_decide_eq_true (by first | (with_reducible assumption) | assumption)) (by have h_ : ((ji26) : Int) < ((y265.length : Int) : Int) := of_decide_eq_true (by first | (with_reducible assumption) | assumption); first | exact h_ | (have e_ := (Kd.R_reads' HO267.out).1; omega) | simpa using h_); obtain rfl := k37_openM hM71; have HP71 := Kd.R_seg HX71.out ((ji26) : Int) (of_decide_eq_true (by first | (with_reducible assumption) | assumption)) (by have h_ : ((ji26) : Int) < ((y265.length : Int) : Int) := of_decide_eq_true (by first | (with_reducible assumption) | assumption); first | exact h_ | (have e_ := (Kd.R_reads' HO267.out).1; omega) | simpa using h_) (seg := [.int .i64 (wrap64 (((rd_T37 y265 (ji26)).f2) + (wrap64 (a3))))]) (j := 2) hcl71 hcc71 (show 3 ≤ 3 from by decide) (x' := (⟨(rd_T37 y265 (ji26)).f0, (rd_T37 y265 (ji26)).f1, wrap64 (((rd_T37 y265 (ji26)).f2) + (wrap64 (a3)))⟩ : S37)) (k37_mkM _ _ _ (⟨(rd_T37 y265 (ji26)).f0, (rd_T37 y265 (ji26)).f1, wrap64 (((rd_T37 y265 (ji26)).f2) + (wrap64 (a3)))⟩ : S37) ) (fun _ hk => hk); have hx71_2 := hcc71 2 _ rfl; (try simp only [show (k37).sz = 3 from rfl, Nat.mul_one, Nat.add_zero] at hx71_2); have hf71_2 := hfr71 2; (try simp only [show (k37).sz = 3 from rfl, Nat.mul_one, Nat.add_zero] at hf71_2); clear hcl71 hcc71 hfr71 hM71) | ((with_reducible refine gate_store (t := 3) (p := 66) rfl ?_); refine store_event (t := 3) (p := 66) (v := ?vo_w72) (w1 := (w68.setCell ⟨go29, ((ji26) : Int).toNat * 3 + 2, none⟩ (.int .i64 (wrap64 (((rd_T37 y265 (ji26)).f2) + (wrap64 (a3))))))) ?hg ?ho ?hn ?hr ?_; (case ho => rfl); (case hg => rfl); (case hn => rfl); (case hr => first | (go_simp; done) | (go_simp; rfl)); intro w72 hw; have hg : w68.grownBy w72 (some go29) := (by rw [hw]; exact HP71.2); have hp_ : Kd.R k37 37 w72 w.heap.size (fun k_ => some k_ ≠ (.slice Ao69 t257.length co69 : Value).ownBlock) (.slice (some ⟨go29, 0, none⟩) y265.length co70) y269 := (by rw [hw, Ny269.out]; exact HP71.1); clear HP71; have n0_ := Aside0.mk (Kd.R_after (v := (.slice (some ⟨go29, 0, none⟩) y265.length co70)) (v1 := (.slice (some ⟨go29, 0, none⟩) y265.length co70)) (ok := (fun _ => True)) (by (with_reducible repeat (first | apply Kd.R_alloc | apply Kd.R_drewN | apply Kd.R_drew)); exact HO_12.out) hg (.inl rfl)); have n1_ := Aside0.mk (hp_); have n2_ := Aside0.mk ((by rw [hw]; exact below_set (HB.out) GB29.out : Below w.heap.size w w72)); clear HO_12; clear HO267; clear HB; have HO_12 := n0_; have HO267 := n1_; have HB := n2_; clear n0_ n1_ n2_; clear hg hw hp_) | ((with_reducible refine gate_dst (N := 67) rfl ?_); (try (refine gate_guard (by rfl) ?_; dsimp only)); refine Kd.R_lit k37 _ 37 ?hg (N := 67) ?hd (xs := ([] : List (S37))) (inner := []) (ok := fun _ => True) (okp := fun _ => True) ?hr ?hp (fun _ hk => hk) trivial (Below.refl _ _) (Nat.le_refl _) (by simp) ?_; (case hd => rfl); (case hg => rfl); (case hr => first | (go_simp; done) | (go_simp; rfl)); (case hp => exact (Reps.none _ _)); intro v271 w73 ho74 hb hg_ hnew_; clear hg_ hnew_; (first | rw [← Ny270.out] at ho74 | (simp only [Int.reduceToNat] at ho74; rw [← Ny270.out] at ho74)); have n0_ := Aside0.mk (Kd.R_elder' (by (with_reducible repeat (first | apply Kd.R_alloc | apply Kd.R_drewN | apply Kd.R_drew)); exact HO_12.out) (Kd.R_base ho74) hb); have n1_ := Aside0.mk (Kd.R_elder' (by (with_reducible repeat (first | apply Kd.R_alloc | apply Kd.R_drewN | apply Kd.R_drew)); exact HO267.out) (Kd.R_base ho74) hb); have n2_ := Aside0.mk (Kd.R_lower (Kd.R_new' (Kd.R_new' ho74 (Kd.R_lt (by (with_reducible repeat (first | apply Kd.R_alloc | apply Kd.R_drewN | apply Kd.R_drew)); exact HO_12.out))) (Kd.R_lt (by (with_reducible repeat (first | apply Kd.R_alloc | apply Kd.R_drewN | apply Kd.R_drew)); exact HO267.out))) (below_size (by repeat (first | (with_reducible first | exact HB.out | apply below_alloc | apply pw_below_drewN | apply below_drew1) | exact HB.out)))); have n3_ := Aside0.mk (below_step (by repeat (first | (with_reducible first | exact HB.out | apply below_alloc | apply pw_below_drewN | apply below_drew1) | exact HB.out)) hb); clear HO_12; clear HO267; clear HB; have HO_12 := n0_; have HO267 := n1_; have HO272 := n2_; have HB := n3_; clear n0_ n1_ n2_ n3_; clear hb ho74) | ((with_reducible refine gate_builtin (b := .append) (xs := #[.tmp 67, .tmp 68]) rfl ?_); (try (refine gate_guard (by rfl) ?_; dsimp only)); at_builtin; refine Kd.R_append_rows k37 (w0 := w) w.heap.size rfl (.tmp 67) (.tmp 68) 25 37 (.agg #[(.int .u8 0), (.int .i64 0), (.int .i64 0)]) 24 rfl Try.underlying25 info37 rfl (by decide) (by omega) v271 y270 t257 _ _ _ (fun k_ => some k_ ≠ (.slice Ao69 t257.length co69 : Value).ownBlock ∧ some k_ ≠ (.slice (some ⟨go29, 0, none⟩) y265.length co70 : Value).ownBlock) (fun _ => False) rfl rfl ?aO ?aR (fun _ _ h => h) (fun _ h => h.elim) ?aF ?aB ?aS ?aL ?_; (case aR => repeat (first | exact (Kd.R_reads' HO_12.out).2.2 | (with_reducible refine Kd.C_alloc ?_ _) | (with_reducible refine Kd.C_drewN ?_ _) | (with_reducible refine Kd.C_drew ?_))); (case aB => exact (by repeat (first | (with_reducible first | exact HB.out | apply below_alloc | apply pw_below_drewN | apply below_drew1) | exact HB.out))); (case aF => exact (fun k_ hk => ⟨Kd.fresh' (Kd.R_lt (by (with_reducible repeat (first | apply Kd.R_alloc | apply Kd.R_drewN | apply Kd.R_drew)); exact HO_12.out)) k_ hk, Kd.fresh' (Kd.R_lt (by (with_reducible repeat (first | apply Kd.R_alloc | apply Kd.R_drewN | apply Kd.R_drew)); exact HO267.out)) k_ hk⟩)); (case aO => exact (by (with_reducible repeat (first | apply Kd.R_alloc | apply Kd.R_drewN | apply Kd.R_drew)); exact Kd.R_mono HO272.out (fun _ hk => ⟨hk.1.2, hk.2⟩))); (case aS => exact (below_size (by repeat (first | (with_reducible first | exact HB.out | apply below_alloc | apply pw_below_drewN | apply below_drew1) | exact HB.out)))); (case aL => have := LMc30.out; omega); intro v274 w75 ho hb hg hat; rw [← Ny273.out] at ho; have n0_ := Aside0.mk (Kd.R_after (ok := (fun k_ => some k_ ≠ (.slice (some ⟨go29, 0, none⟩) y265.length co70 : Value).ownBlock)) (by (with_reducible repeat (first | apply Kd.R_alloc | apply Kd.R_drewN | apply Kd.R_drew)); exact Kd.R_mono HO_12.out (fun _ hk => ⟨hk.1.2, hk.2⟩)) hg hat); have n1_ := Aside0.mk (Kd.R_after (ok := (fun k_ => some k_ ≠ (.slice Ao69 t257.length co69 : Value).ownBlock)) (by (with_reducible repeat (first | apply Kd.R_alloc | apply Kd.R_drewN | apply Kd.R_drew)); exact HO267.out) hg hat); have n2_ := Aside0.mk (hb); have n3_ := Aside0.mk (ho); clear HO_12; clear HO267; clear HB; clear HO272; have HO_12 := n0_; have HO267 := n1_; have HB := n2_; have HO275 := n3_; clear n0_ n1_ n2_ n3_; clear ho hb hg hat; obtain ⟨Ao76, co76, eo76⟩ := Kd.R_slice HO275.out; subst eo76; have p276 : 0 ≤ ((ji26) : Int) := of_decide_eq_true (by first | (with_reducible assumption) | assumption); have q276 : (ji26) < (y273.length : Int) := of_decide_eq_true (by first | (with_reducible assumption) | assumption); obtain ⟨ad276, e276, hx276_0, hx276_1, hx276_2⟩ := at_T37 (Kd.R_reads' HO275.out).2.2 (ji26) p276 q276; cases e276; replace p276 := eq_true p276; replace q276 := eq_true q276; have p32 : 0 ≤ ((ji26) : Int) := of_decide_eq_true (by first | (with_reducible assumption) | assumption); have q32 : ((ji26) : Int) < ((y273.length : Int) : Int) := of_decide_eq_true (by first | (with_reducible assumption) | assumption); obtain ⟨go32, co32, eo32, gb32, gl32, cl32, HG32⟩ := Kd.R_form HO275.out (by omega); (first | cases eo32 | (injection eo32 with ea_ en_ ec_; (first | subst ea_ | (injection ea_ with ea_; subst ea_)); subst ec_; clear en_)); have GB32 := Aside0.mk gb32; have GG32 := Aside0.mk HG32; clear gb32 gl32 HG32; (first | simp only [add_plain] at hx276_0 | skip); (first | simp only [add_plain] at hx276_1 | skip); (first | simp only [add_plain] at hx276_2 | skip); obtain ⟨ce32, hcl32, hM32, hcc32, hfr32⟩ := Kd.R_elem HO275.out z37 ((ji26) : Int) p32 q32; obtain rfl := k37_openM hM32; have hx32_0 : w75.cell? ⟨go32, ((ji26) : Int).toNat * 3, none⟩ = some (.int .u8 ((rd_T37 y273 (ji26)).f0)) := hcc32 0 _ rfl; have hx32_1 : w75.cell? ⟨go32, ((ji26) : Int).toNat * 3 + 1, none⟩ = some (.int .i64 ((rd_T37 y273 (ji26)).f1)) := hcc32 1 _ rfl; have hx32_2 : w75.cell? ⟨go32, ((ji26) : Int).toNat * 3 + 2, none⟩ = some (.int .i64 ((rd_T37 y273 (ji26)).f2)) := hcc32 2 _ rfl; have hf32_0 : w75.frozen? ⟨go32, ((ji26) : Int).toNat * 3, none⟩ = false := hfr32 0; have hf32_1 : w75.frozen? ⟨go32, ((ji26) : Int).toNat * 3 + 1, none⟩ = false := hfr32 1; have hf32_2 : w75.frozen? ⟨go32, ((ji26) : Int).toNat * 3 + 2, none⟩ = false := hfr32 2; clear hcl32 hcc32 hfr32 hM32; replace p32 := eq_true p32; replace q32 := eq_true q32; have HX77 := Aside0.mk (show Kd.R k37 37 w75 w.heap.size (fun k_ => some k_ ≠ (.slice Ao69 t257.length co69 : Value).ownBlock ∧ some k_ ≠ (.slice (some ⟨go29, 0, none⟩) y265.length co70 : Value).ownBlock) (.slice (some ⟨go32, 0, none⟩) y273.length co76) y273 from (by (with_reducible repeat (first | apply Kd.R_alloc | apply Kd.R_drewN | apply Kd.R_drew)); exact HO275.out)); obtain ⟨ce77, hcl77, hM77, hcc77, hfr77⟩ := Kd.R_elem HX77.out z37 ((ji26) : Int) (of_decide_eq_true (by first | (with_reducible assumption) | assumption)) (by have h_ : ((ji26) : Int) < ((y273.length : Int) : Int) := of_decide_eq_true (by first | (with_reducible assumption) | assumption); first | exact h_ | (have e_ := (Kd.R_reads' HO275.out).1; omega) | simpa using h_); obtain rfl := k37_openM hM77; have HP77 := Kd.R_seg HX77.out ((ji26) : Int) (of_decide_eq_true (by first | (with_reducible assumption) | assumption)) (by have h_ : ((ji26) : Int) < ((y273.length : Int) : Int) := of_decide_eq_true (by first | (with_reducible assumption) | assumption); first | exact h_ | (have e_ := (Kd.R_reads' HO275.out).1; omega) | simpa using h_) (seg := [.int .i64 (wrap64 (((rd_T37 y273 (ji26)).f1) + 1))]) (j := 1) hcl77 hcc77 (show 2 ≤ 3 from by decide) (x' := (⟨(rd_T37 y273 (ji26)).f0, wrap64 (((rd_T37 y273 (ji26)).f1) + 1), (rd_T37 y273 (ji26)).f2⟩ : S37)) (k37_mkM _ _ _ (⟨(rd_T37 y273 (ji26)).f0, wrap64 (((rd_T37 y273 (ji26)).f1) + 1), (rd_T37 y273 (ji26)).f2⟩ : S37) ) (fun _ hk => hk); have hx77_1 := hcc77 1 _ rfl; (try simp only [show (k37).sz = 3 from rfl, Nat.mul_one, Nat.add_zero] at hx77_1); have hf77_1 := hfr77 1; (try simp only [show (k37).sz = 3 from rfl, Nat.mul_one, Nat.add_zero] at hf77_1); clear hcl77 hcc77 hfr77 hM77) | ((with_reducible refine gate_store (t := 3) (p := 79) rfl ?_); refine store_event (t := 3) (p := 79) (v := ?vo_w78) (w1 := (w75.setCell ⟨go32, ((ji26) : Int).toNat * 3 + 1, none⟩ (.int .i64 (wrap64 (((rd_T37 y273 (ji26)).f1) + 1))))) ?hg ?ho ?hn ?hr ?_; (case ho => rfl); (case hg => rfl); (case hn => rfl); (case hr => first | (go_simp; done) | (go_simp; rfl)); intro w78 hw; have hg : w75.grownBy w78 (some go32) := (by rw [hw]; exact HP77.2); have hp_ : Kd.R k37 37 w78 w.heap.size (fun k_ => some k_ ≠ (.slice Ao69 t257.length co69 : Value).ownBlock ∧ some k_ ≠ (.slice (some ⟨go29, 0, none⟩) y265.length co70 : Value).ownBlock) (.slice (some ⟨go32, 0, none⟩) y273.length co76) y277 := (by rw [hw, Ny277.out]; exact HP77.1); clear HP77; have n0_ := Aside0.mk (Kd.R_after (v := (.slice (some ⟨go32, 0, none⟩) y273.length co76)) (v1 := (.slice (some ⟨go32, 0, none⟩) y273.length co76)) (ok := (fun k_ => some k_ ≠ (.slice (some ⟨go29, 0, none⟩) y265.length co70 : Value).ownBlock)) (by (with_reducible repeat (first | apply Kd.R_alloc | apply Kd.R_drewN | apply Kd.R_drew)); exact HO_12.out) hg (.inl rfl)); have n1_ := Aside0.mk (Kd.R_after (v := (.slice (some ⟨go32, 0, none⟩) y273.length co76)) (v1 := (.slice (some ⟨go32, 0, none⟩) y273.length co76)) (ok := (fun k_ => some k_ ≠ (.slice Ao69 t257.length co69 : Value).ownBlock)) (by (with_reducible repeat (first | apply Kd.R_alloc | apply Kd.R_drewN | apply Kd.R_drew)); exact HO267.out) hg (.inl rfl)); have n2_ := Aside0.mk (hp_); have n3_ := Aside0.mk ((by rw [hw]; exact below_set (HB.out) GB32.out : Below w.heap.size w w78)); clear HO_12; clear HO267; clear HO275; clear HB; have HO_12 := n0_; have HO267 := n1_; have HO275 := n2_; have HB := n3_; clear n0_ n1_ n2_ n3_; clear hg hw hp_))
                        go_ret
                        exact ⟨by first | rfl | (simp [errW_none, errW_some] <;> rfl) | (simp only [← hji26]; first | rfl | (simp [errW_none, errW_some] <;> rfl)) | (simp [*, errW_none, errW_some] <;> rfl), by repeat (first | (with_reducible first | exact HB.out | apply below_alloc | apply pw_below_drewN | apply below_drew1) | exact HB.out)⟩
                    · rw [if_neg c31] at H
                      exact absurd H (by simp)
                  · rw [if_neg c30] at H
                    exact absurd H (by simp)
                · rw [if_neg c28] at H
                  exact absurd H (by simp)
              · rw [if_neg c27] at H
                exact absurd H (by simp)
          · rw [if_neg c24] at H
            exact absurd H (by simp)

/-- THE ONE PURE STATEMENT of puncheonlaw11_DtabWhole: yours. -/
def puncheonlaw11_DtabWhole.Pure : Prop := ∀ (l0 : List Int) (a1 : Int) (a2 : Int) (a3 : Int), l0.length ≤ maxLen → l0.length * 2 ≤ 140737488351232 → (∀ x ∈ l0, (Lit.int .u16 x).wf = true) → (Lit.int .u8 a1).wf = true → (Lit.int .u16 a2).wf = true → (Lit.int .i8 a3).wf = true → ∃ k, puncheonlaw11_DtabWhole.f k l0 a1 a2 a3 = some true
theorem puncheonlaw11_DtabWhole.walk (P : puncheonlaw11_DtabWhole.Pure) (a0 : Option Addr) (len0 cap0 : Nat) (z0 : List Int) (a1 : Int) (a2 : Int) (a3 : Int) (w : World) (w0 : (a0 = none ∧ len0 = 0 ∧ cap0 = 0 ∧ z0 = []) ∨ ∃ x, a0 = some x ∧ len0 ≤ cap0 ∧ cap0 ≤ maxLen ∧ z0.length = cap0 ∧ (∀ i, i < z0.length → w.cell? (x.add i) = some (.int .u16 (z0.getD i 0))) ∧ ∀ n ∈ z0, (Lit.int .u16 n).wf = true) (y0 : len0 * 2 ≤ 140737488351232) (w1 : (Lit.int .u8 a1).wf = true) (w2 : (Lit.int .u16 a2).wf = true) (w3 : (Lit.int .i8 a3).wf = true) :
    Calls Try.prog 4 #[.slice a0 len0 cap0, .int .u8 a1, .int .u16 a2, .int .i8 a3] w fun e w' => e = .returned (.bool true) ∧ Below w.heap.size w w' := by
  obtain ⟨l0, rfl, hr0, hm0, hw0, hc0⟩ := ReadsInt.ofRowC w0
  obtain ⟨k, h⟩ := P l0 a1 a2 a3 hm0 y0 hw0 w1 w2 w3
  refine (puncheonlaw11_DtabWhole.calls k _ _ l0 a1 a2 a3 true w (Kd.C_of_reads (d := (0 : Int)) (h1 := fun _ => rfl) hr0) hc0 h).mono ?_
  rintro e w' ⟨rfl, hd⟩
  exact ⟨rfl, hd⟩

end Go.Proofs.Ytjbpmlpmfbeobaa.PPr
