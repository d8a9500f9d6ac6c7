/- The machine's side of this seat's laws: what each function computes, and that its call computes it; written by a program (pr.py over the kit's print.py). -/
import Derived.Test.YtjbpmlpmfbeobaaPPrx0
import Derived.Test.YtjbpmlpmfbeobaaPPrx8
import Derived.Test.YtjbpmlpmfbeobaaPPrx10
import Derived.Test.YtjbpmlpmfbeobaaPPrx11
import Derived.Test.YtjbpmlpmfbeobaaPPrx13
namespace Go.Proofs.Ytjbpmlpmfbeobaa.PPr
open Go.RowKit Go.Proofs.YtjbpmlpmfbeobaaW.PrintWords Go.Proofs.YtjbpmlpmfbeobaaW.PrintLast Go.Proofs.YtjbpmlpmfbeobaaW.PrintMore
attribute [local go_sem] max2_int min2_int max_two min_two max_three min_three max_four min_four   -- for this text's walks alone
set_option linter.unusedVariables false
set_option linter.unusedSimpArgs false

/-! ### puncheonref08_Some: function 12 -/
mutual
def puncheonref08_Some.j0 : Nat → Int → List Int → Option (List Int × Int)
  | 0, _, _ => none
  | k + 1, x1, x6 => puncheonref08_Some.l0 k x6 (wrap64 (5 + (wrap64 (Int.tmod x1 5))))
def puncheonref08_Some.l0 : Nat → List Int → Int → Option (List Int × Int)
  | 0, _, _ => none
  | k + 1, x6, x7 => (puncheonref08_power.f k x7).bind fun t246 => ((puncheonref05_Many.f k x6).bind fun t247 => (if t246 < t247 then (puncheonref08_Some.l0 k x6 (wrap64 (x7 + 1))) else ((puncheonref08_Counts.f k x6 x7).bind fun bt248 => (some (bt248.1, x7)))))
end
def puncheonref08_Some.f (k : Nat) (l0 : List Int) (a1 : Int) : Option (List Int × Int) := (puncheonref05_Some.f k l0).bind fun t241 => ((puncheonref05_Total.f k t241).bind fun t244 => (if t244 = 0 then (if 7 < (t241.length : Int) then (puncheonref08_Some.j0 k a1 (t241.set (7 : Int).toNat 1)) else (none)) else (puncheonref08_Some.j0 k a1 t241)))
theorem puncheonref08_Some.mono_l : ∀ k, (∀ y0 y1, LeO (puncheonref08_Some.j0 k y0 y1) (puncheonref08_Some.j0 (k + 1) y0 y1)) ∧ (∀ y0 y1, LeO (puncheonref08_Some.l0 k y0 y1) (puncheonref08_Some.l0 (k + 1) y0 y1))
  | 0 => ⟨fun _ _ r h => by simp [puncheonref08_Some.j0] at h, fun _ _ r h => by simp [puncheonref08_Some.l0] at h⟩
  | k + 1 => by
    obtain ⟨ih0, ih1⟩ := puncheonref08_Some.mono_l k
    refine ⟨?_, ?_⟩
    · intro y0 y1
      unfold puncheonref08_Some.j0
      repeat' first
      | (with_reducible exact ih0 _ _)
      | (with_reducible exact ih1 _ _)
      | (with_reducible exact puncheonref05_Many.mono _ _)
      | (with_reducible exact puncheonref05_Some.mono _ _)
      | (with_reducible exact puncheonref05_Total.mono _ _)
      | (with_reducible exact puncheonref08_Counts.mono _ _ _)
      | (with_reducible exact puncheonref08_power.mono _ _)
      | (with_reducible exact LeO.refl _)
      | (with_reducible exact LeO.none _)
      | (with_reducible refine LeO.ite ?_ ?_)
      | (with_reducible refine LeO.bind ?_ (fun _ => ?_))
      | exact ih0 _ _
      | exact ih1 _ _
      | exact puncheonref05_Many.mono _ _
      | exact puncheonref05_Some.mono _ _
      | exact puncheonref05_Total.mono _ _
      | exact puncheonref08_Counts.mono _ _ _
      | exact puncheonref08_power.mono _ _
      | exact LeO.none _
      | refine LeO.ite ?_ ?_
      | refine LeO.bind ?_ (fun _ => ?_)
    · intro y0 y1
      unfold puncheonref08_Some.l0
      repeat' first
      | (with_reducible exact ih0 _ _)
      | (with_reducible exact ih1 _ _)
      | (with_reducible exact puncheonref05_Many.mono _ _)
      | (with_reducible exact puncheonref05_Some.mono _ _)
      | (with_reducible exact puncheonref05_Total.mono _ _)
      | (with_reducible exact puncheonref08_Counts.mono _ _ _)
      | (with_reducible exact puncheonref08_power.mono _ _)
      | (with_reducible exact LeO.refl _)
      | (with_reducible exact LeO.none _)
      | (with_reducible refine LeO.ite ?_ ?_)
      | (with_reducible refine LeO.bind ?_ (fun _ => ?_))
      | exact ih0 _ _
      | exact ih1 _ _
      | exact puncheonref05_Many.mono _ _
      | exact puncheonref05_Some.mono _ _
      | exact puncheonref05_Total.mono _ _
      | exact puncheonref08_Counts.mono _ _ _
      | exact puncheonref08_power.mono _ _
      | exact LeO.none _
      | refine LeO.ite ?_ ?_
      | refine LeO.bind ?_ (fun _ => ?_)
theorem puncheonref08_Some.mono : ∀ a0 a1 k, LeO (puncheonref08_Some.f k a0 a1) (puncheonref08_Some.f (k + 1) a0 a1) := by
  intro a0 a1 k
  obtain ⟨ih0, ih1⟩ := puncheonref08_Some.mono_l k
  unfold puncheonref08_Some.f
  repeat' first
      | (with_reducible exact ih0 _ _)
      | (with_reducible exact ih1 _ _)
      | (with_reducible exact puncheonref05_Many.mono _ _)
      | (with_reducible exact puncheonref05_Some.mono _ _)
      | (with_reducible exact puncheonref05_Total.mono _ _)
      | (with_reducible exact puncheonref08_Counts.mono _ _ _)
      | (with_reducible exact puncheonref08_power.mono _ _)
      | (with_reducible exact LeO.refl _)
      | (with_reducible exact LeO.none _)
      | (with_reducible refine LeO.ite ?_ ?_)
      | (with_reducible refine LeO.bind ?_ (fun _ => ?_))
      | exact ih0 _ _
      | exact ih1 _ _
      | exact puncheonref05_Many.mono _ _
      | exact puncheonref05_Some.mono _ _
      | exact puncheonref05_Total.mono _ _
      | exact puncheonref08_Counts.mono _ _ _
      | exact puncheonref08_power.mono _ _
      | exact LeO.none _
      | refine LeO.ite ?_ ?_
      | refine LeO.bind ?_ (fun _ => ?_)
set_option maxHeartbeats 8000000 in
set_option maxRecDepth 100000 in
theorem puncheonref08_Some.calls (k : Nat) (A0 : Option Addr) (c0 : Nat) (l0 : List Int) (a1 : Int) (r1 : List Int) (r2 : Int) (w : World) (hr0 : Kd.C (Kd.int .u16) w A0 l0.length l0) (hc0 : l0.length ≤ c0) (h : puncheonref08_Some.f k l0 a1 = some (r1, r2)) :
    Calls Try.prog 12 #[.slice A0 l0.length c0, .int .u8 a1] w fun e w' => ∃ v0_ : Value, e = .returned (.tuple #[v0_, .int .i64 r2]) ∧ Kd.R (Kd.int .i64) 3 w' w.heap.size (fun _ => True) v0_ r1 ∧ Below w.heap.size w w' := by
  have HR0 := Aside0.mk hr0
  have HC0 := Aside0.mk hc0
  clear hr0 hc0
  have HB := Aside0.mk (Below.refl w.heap.size w)
  have H : ((puncheonref05_Some.f k l0).bind fun t241 => ((puncheonref05_Total.f k t241).bind fun t244 => (if t244 = 0 then (if 7 < (t241.length : Int) then (puncheonref08_Some.j0 k a1 (t241.set (7 : Int).toNat 1)) else (none)) else (puncheonref08_Some.j0 k a1 t241)))) = some (r1, r2) := h
  clear h
  replace H := Option.bind_eq_some_iff.mp H
  obtain ⟨t241, A30, H⟩ := H
  replace H : ((puncheonref05_Total.f k t241).bind fun t244 => (if t244 = 0 then (if 7 < (t241.length : Int) then (puncheonref08_Some.j0 k a1 (t241.set (7 : Int).toNat 1)) else (none)) else (puncheonref08_Some.j0 k a1 t241))) = some (r1, r2) := H
  have A3 := Aside0.mk A30
  clear A30
  replace H := Option.bind_eq_some_iff.mp H
  obtain ⟨t244, A40, H⟩ := H
  replace H : (if t244 = 0 then (if 7 < (t241.length : Int) then (puncheonref08_Some.j0 k a1 (t241.set (7 : Int).toNat 1)) else (none)) else (puncheonref08_Some.j0 k a1 t241)) = some (r1, r2) := H
  have A4 := Aside0.mk A40
  clear A40
  have HC5 := Aside0.mk H
  clear H
  go_enter Try.func12, Try.ntmps12
  go_upto_if 14 with (first | ((with_reducible refine gate_callee (f := 21) rfl ?_); refine goesL_ (some 11) rfl rfl Try.func21 (by kernel_rfl) rfl #[.slice A0 l0.length c0] rfl (by (try simp only [List.map_toArray, List.map_cons, List.map_nil]); first | done | rfl | (simp only [List.length_drop, List.length_take]; rfl)) ?_; (with_reducible refine (puncheonref05_Some.calls k _ _ l0 t241 _ ?side1 ?side2 A3.out).mono ?_); (case side1 => repeat (first | exact HR0.out | (with_reducible refine Kd.C_alloc ?_ _) | (with_reducible refine Kd.C_drewN ?_ _) | (with_reducible refine Kd.C_drew ?_))); (case side2 => exact HC0.out); rintro e w6 ⟨v242, rfl, ho0, hb⟩; refine ⟨_, rfl, ?_⟩; have n0_ := Aside0.mk (Kd.R_lower ho0 (below_size (by repeat (first | (with_reducible first | exact HB.out | apply below_alloc | apply pw_below_drewN | apply below_drew1) | exact HB.out)))); have n1_ := Aside0.mk (below_step (by repeat (first | (with_reducible first | exact HB.out | apply below_alloc | apply pw_below_drewN | apply below_drew1) | exact HB.out)) hb); clear HB; have HO243 := n0_; have HB := n1_; clear n0_ n1_; (try clear hb); (try clear hb2); (try clear hk); (try clear hi); (try clear ho0); obtain ⟨Ao7, co7, eo7⟩ := Kd.R_slice HO243.out; subst eo7) | ((with_reducible refine gate_callee (f := 22) rfl ?_); refine goesL_ (some 13) rfl rfl Try.func22 (by kernel_rfl) rfl #[.slice Ao7 t241.length co7] rfl (by (try simp only [List.map_toArray, List.map_cons, List.map_nil]); first | done | rfl | (simp only [List.length_drop, List.length_take]; rfl)) ?_; (with_reducible refine (puncheonref05_Total.calls k _ _ t241 t244 _ ?side1 ?side2 A4.out).mono ?_); (case side1 => repeat (first | exact (Kd.R_reads' HO243.out).2.2 | (with_reducible refine Kd.C_alloc ?_ _) | (with_reducible refine Kd.C_drewN ?_ _) | (with_reducible refine Kd.C_drew ?_))); (case side2 => exact (Kd.R_reads' HO243.out).2.1); rintro e w' ⟨rfl, ⟨nd, rfl⟩⟩; refine ⟨_, rfl, ?_⟩))
  (try simp only [Act.put, List.setIfInBounds_toArray, List.set_cons_zero, List.set_cons_succ])
  go_cut [] (fun wc => ∃ (kq : Nat) (x6_4 : List Int), Aside0 (puncheonref08_Some.j0 kq a1 x6_4 = some (r1, r2)) ∧ Aside0 (kq ≤ k) ∧ Aside0 (Kd.R (Kd.int .i64) 3 wc w.heap.size (fun _ => True) (.slice Ao7 t241.length co7) x6_4) ∧ Aside0 (Below w.heap.size w wc))
  case first =>
    have H := HC5.out
    clear HC5
    by_cases c8 : t244 = 0
    · rw [if_pos c8] at H
      have c8b0 : (t244 == 0) = true := beq_iff_eq.mpr c8
      have c8b1 : (t244 != 0) = false := bne_eq_false_iff_eq.mpr c8
      clear c8
      (first | rw [c8b0] | (simp only [i64_w, i32_w]; rw [c8b0]) | skip)
      by_cases c9 : 7 < (t241.length : Int)
      · rw [if_pos c9] at H
        have c9b0 : decide (7 < (t241.length : Int)) = true := decide_eq_true c9
        have c9b1 : decide (7 < t241.length) = true := decide_eq_true (by omega)
        clear c9
        obtain ⟨y245, hy245⟩ : ∃ y_ : List Int, y_ = (t241.set (7 : Int).toNat 1) := ⟨_, rfl⟩
        replace H : (puncheonref08_Some.j0 k a1 y245) = some (r1, r2) := by first | (rw [hy245]; with_reducible exact H) | (have H2_ := (Option.bind_some _ _).symm.trans H; rw [hy245]; with_reducible exact H2_) | (have H2_ := (Option.bind_some _ _).symm.trans H; with_reducible exact H2_) | with_reducible exact H | (rw [hy245]; exact H) | exact H
        have Ny245 := Aside0.mk hy245
        clear hy245
        have H' := Aside0.mk H
        clear H
        have p10 : 0 ≤ (7 : Int) := (by omega)
        have q10 : (7 : Int) < ((t241.length : Int) : Int) := of_decide_eq_true (by first | (with_reducible assumption) | assumption)
        have qi10 : (7 < t241.length) = True := eq_true (by omega)
        obtain ⟨go10, co10, eo10, gb10, gl10, cl10, HG10⟩ := Kd.R_form HO243.out (by omega)
        (first | cases eo10 | (injection eo10 with ea_ en_ ec_; (first | subst ea_ | (injection ea_ with ea_; subst ea_)); subst ec_; clear en_))
        have GB10 := Aside0.mk gb10
        have GG10 := Aside0.mk HG10
        clear gb10 gl10 HG10
        obtain ⟨hx10_0, hf10_0⟩ := Kd.R_celln 0 HO243.out (7 : Int) p10 q10
        (try rw [show ((7 : Int)).toNat = 7 from rfl] at hx10_0)
        (try simp only [Nat.reduceMul, Nat.zero_mul, Nat.zero_add, Nat.reduceAdd] at hx10_0)
        (try rw [show ((7 : Int)).toNat = 7 from rfl] at hf10_0)
        (try simp only [Nat.reduceMul, Nat.zero_mul, Nat.zero_add, Nat.reduceAdd] at hf10_0)
        replace p10 := eq_true p10
        replace q10 := eq_true q10
        have HP11 := Kd.R_putg HO243.out (7 : Int) 1
        go_wp2_with (first | ((with_reducible refine gate_store (t := 3) (p := 16) rfl ?_); refine store_event (t := 3) (p := 16) (v := ?vo_w12) (w1 := (w6.setCell ⟨go10, (7 : Int).toNat, none⟩ (.int .i64 1))) ?hg ?ho ?hn ?hr ?_; (case ho => rfl); (case hg => rfl); (case hn => rfl); (case hr => first | (go_simp; done) | (go_simp; rfl)); intro w12 hw; have hg : w6.grownBy w12 (some go10) := (by rw [hw]; exact HP11.2); have hp_ : Kd.R (Kd.int .i64) 3 w12 w.heap.size (fun _ => True) (.slice (some ⟨go10, 0, none⟩) t241.length co7) y245 := (by rw [hw, Ny245.out]; exact HP11.1); clear HP11; have n0_ := Aside0.mk (hp_); have n1_ := Aside0.mk ((by rw [hw]; exact below_set (HB.out) GB10.out : Below w.heap.size w w12)); clear HO243; clear HB; have HO243 := n0_; have HB := n1_; clear n0_ n1_; clear hg hw hp_))
        go_meet
        case rel => exact ⟨_, (y245), H', ⟨by first | omega | exact Nat.le_refl _⟩, ⟨by (with_reducible repeat (first | apply Kd.R_alloc | apply Kd.R_drewN | apply Kd.R_drew)); first | exact HO243.out | (rw [Ny245.out]; exact (Kd.R_putg (Kd.R_drewN HO243.out _) (7 : Int) 1).1)⟩, ⟨by first | exact below_set (pw_below_drewN HB.out _) GB10.out | repeat (first | (with_reducible first | exact HB.out | apply below_alloc | apply pw_below_drewN | apply below_drew1) | exact HB.out)⟩⟩
      · rw [if_neg c9] at H
        exact absurd H (by simp)
    · rw [if_neg c8] at H
      have c8b0 : (t244 == 0) = false := beq_eq_false_iff_ne.mpr c8
      have c8b1 : (t244 != 0) = true := bne_iff_ne.mpr c8
      (first | rw [c8b0] | (simp only [i64_w, i32_w]; rw [c8b0]) | skip)
      have H' := Aside0.mk H
      clear H
      go_wp2
      go_meet
      case rel => exact ⟨_, (t241), H', ⟨by first | omega | exact Nat.le_refl _⟩, ⟨by (with_reducible repeat (first | apply Kd.R_alloc | apply Kd.R_drewN | apply Kd.R_drew)); exact HO243.out⟩, ⟨by repeat (first | (with_reducible first | exact HB.out | apply below_alloc | apply pw_below_drewN | apply below_drew1) | exact HB.out)⟩⟩
  case rest =>
    clear HC5
    try clear c1
    try clear p1
    try clear q1
    try clear hx1
    try clear qi1
    try clear c2
    try clear p2
    try clear c8
    try clear c8b0
    try clear c8b1
    try clear c9
    try clear c9b0
    try clear c9b1
    try clear p10
    try clear q10
    try clear hx10
    try clear qi10
    try clear hf10
    try clear c12
    try clear hx10_0
    try clear p10
    try clear q10
    obtain ⟨kq, x6_4, HA, HJ4, HO_6, HB⟩ := hcut
    have hl6_4 := (Kd.R_reads' HO_6.out).1
    rw [hl6_4] at HO_6
    (try simp only [hl6_4])
    cases kq with
    | zero => exact absurd HA.out (by simp [puncheonref08_Some.j0])
    | succ kj4 =>
      have H := HA.out
      clear HA
      simp only [puncheonref08_Some.j0] at H
      have H' := Aside0.mk H
      clear H
      go_wp2
      go_loopg [7] kj4 (fun kq v7 w' => ∃ (x7_2 : Int), v7 = .int .i64 x7_2 ∧ Aside0 (puncheonref08_Some.l0 kq x6_4 x7_2 = some (r1, r2)) ∧ Aside0 (kq ≤ kj4) ∧ Aside0 (Kd.R (Kd.int .i64) 3 w' w.heap.size (fun _ => True) (.slice Ao7 x6_4.length co7) x6_4) ∧ Aside0 (Below w.heap.size w w'))
      case atStart => exact ⟨(wrap64 (5 + (wrap64 (Int.tmod a1 5)))), (by first | rfl | (simp; done) | (simp [*]; done)), H', ⟨Nat.le_refl _⟩, ⟨by (try simp only [hl6_4]); (with_reducible repeat (first | apply Kd.R_alloc | apply Kd.R_drewN | apply Kd.R_drew)); exact HO_6.out⟩, ⟨by repeat (first | (with_reducible first | exact HB.out | apply below_alloc | apply pw_below_drewN | apply below_drew1) | exact HB.out)⟩⟩
      case round =>
        clear H'
        try clear c1
        try clear p1
        try clear q1
        try clear hx1
        try clear qi1
        try clear c2
        try clear p2
        try clear p6
        try clear c8
        try clear c8b0
        try clear c8b1
        try clear c9
        try clear c9b0
        try clear c9b1
        try clear p10
        try clear q10
        try clear hx10
        try clear qi10
        try clear hf10
        try clear c12
        try clear hx10_0
        try clear p1
        try clear p10
        try clear p2
        try clear q1
        try clear q10
        obtain ⟨x7_2, rfl, HA, HK2, HO_6, HB⟩ := hrel
        cases gk with
        | zero => exact absurd HA.out (by simp [puncheonref08_Some.l0])
        | succ k2 =>
          have H := HA.out
          clear HA
          simp only [puncheonref08_Some.l0] at H
          replace H := Option.bind_eq_some_iff.mp H
          obtain ⟨t246, A130, H⟩ := H
          replace H : ((puncheonref05_Many.f k2 x6_4).bind fun t247 => (if t246 < t247 then (puncheonref08_Some.l0 k2 x6_4 (wrap64 (x7_2 + 1))) else ((puncheonref08_Counts.f k2 x6_4 x7_2).bind fun bt248 => (some (bt248.1, x7_2))))) = some (r1, r2) := H
          have A13 := Aside0.mk A130
          clear A130
          replace H := Option.bind_eq_some_iff.mp H
          obtain ⟨t247, A140, H⟩ := H
          replace H : (if t246 < t247 then (puncheonref08_Some.l0 k2 x6_4 (wrap64 (x7_2 + 1))) else ((puncheonref08_Counts.f k2 x6_4 x7_2).bind fun bt248 => (some (bt248.1, x7_2)))) = some (r1, r2) := H
          have A14 := Aside0.mk A140
          clear A140
          by_cases c15 : t246 < t247
          · rw [if_pos c15] at H
            have c15b0 : decide (t246 < t247) = true := decide_eq_true c15
            clear c15
            have H' := Aside0.mk H
            clear H
            go_wp2_with (first | ((with_reducible refine gate_callee (f := 23) rfl ?_); refine goesL_ (some 22) rfl rfl Try.func23 (by kernel_rfl) rfl #[.int .i64 x7_2] rfl (by (try simp only [List.map_toArray, List.map_cons, List.map_nil]); first | done | rfl | (simp only [List.length_drop, List.length_take]; rfl)) ?_; (with_reducible refine (puncheonref08_power.calls k2 x7_2 t246 _ A13.out).mono ?_); rintro e w' ⟨rfl, ⟨nd, rfl⟩⟩; refine ⟨_, rfl, ?_⟩) | ((with_reducible refine gate_callee (f := 24) rfl ?_); refine goesL_ (some 24) rfl rfl Try.func24 (by kernel_rfl) rfl #[.slice Ao7 x6_4.length co7] rfl (by (try simp only [List.map_toArray, List.map_cons, List.map_nil]); first | done | rfl | (simp only [List.length_drop, List.length_take]; rfl)) ?_; (with_reducible refine (puncheonref05_Many.calls k2 _ _ x6_4 t247 _ ?side1 ?side2 A14.out).mono ?_); (case side1 => repeat (first | exact (Kd.R_reads' HO_6.out).2.2 | (with_reducible refine Kd.C_alloc ?_ _) | (with_reducible refine Kd.C_drewN ?_ _) | (with_reducible refine Kd.C_drew ?_))); (case side2 => exact (Kd.R_reads' HO_6.out).2.1); rintro e w' ⟨rfl, ⟨nd, rfl⟩⟩; refine ⟨_, rfl, ?_⟩))
            go_roundg k2
            case measure => have := HJ4.out; have := HK2.out; omega
            case rel => exact ⟨(wrap64 (x7_2 + 1)), (by first | rfl | (simp; done) | (simp [*]; done)), H', ⟨by have := HJ4.out; have := HK2.out; omega⟩, ⟨by (try simp only [hl6_4]); (with_reducible repeat (first | apply Kd.R_alloc | apply Kd.R_drewN | apply Kd.R_drew)); exact HO_6.out⟩, ⟨by repeat (first | (with_reducible first | exact HB.out | apply below_alloc | apply pw_below_drewN | apply below_drew1) | exact HB.out)⟩⟩
          · rw [if_neg c15] at H
            have c15b0 : decide (t246 < t247) = false := decide_eq_false c15
            clear c15
            replace H := Option.bind_eq_some_iff.mp H
            obtain ⟨⟨t248, t249⟩, A160, H⟩ := H
            replace H : (some (t248, x7_2)) = some (r1, r2) := H
            have A16 := Aside0.mk A160
            clear A160
            simp only [Option.some.injEq, Prod.mk.injEq] at H
            obtain ⟨rfl, rfl⟩ := H
            go_wp2_with (first | ((with_reducible refine gate_callee (f := 23) rfl ?_); refine goesL_ (some 22) rfl rfl Try.func23 (by kernel_rfl) rfl #[.int .i64 x7_2] rfl (by (try simp only [List.map_toArray, List.map_cons, List.map_nil]); first | done | rfl | (simp only [List.length_drop, List.length_take]; rfl)) ?_; (with_reducible refine (puncheonref08_power.calls k2 x7_2 t246 _ A13.out).mono ?_); rintro e w' ⟨rfl, ⟨nd, rfl⟩⟩; refine ⟨_, rfl, ?_⟩) | ((with_reducible refine gate_callee (f := 24) rfl ?_); refine goesL_ (some 24) rfl rfl Try.func24 (by kernel_rfl) rfl #[.slice Ao7 x6_4.length co7] rfl (by (try simp only [List.map_toArray, List.map_cons, List.map_nil]); first | done | rfl | (simp only [List.length_drop, List.length_take]; rfl)) ?_; (with_reducible refine (puncheonref05_Many.calls k2 _ _ x6_4 t247 _ ?side1 ?side2 A14.out).mono ?_); (case side1 => repeat (first | exact (Kd.R_reads' HO_6.out).2.2 | (with_reducible refine Kd.C_alloc ?_ _) | (with_reducible refine Kd.C_drewN ?_ _) | (with_reducible refine Kd.C_drew ?_))); (case side2 => exact (Kd.R_reads' HO_6.out).2.1); rintro e w' ⟨rfl, ⟨nd, rfl⟩⟩; refine ⟨_, rfl, ?_⟩) | ((with_reducible refine gate_callee (f := 25) rfl ?_); refine goesL_ (some 31) rfl rfl Try.func25 (by kernel_rfl) rfl #[.slice Ao7 x6_4.length co7, .int .i64 x7_2] rfl (by (try simp only [List.map_toArray, List.map_cons, List.map_nil]); first | done | rfl | (simp only [List.length_drop, List.length_take]; rfl)) ?_; (with_reducible refine (puncheonref08_Counts.calls k2 _ _ x6_4 x7_2 t248 t249 _ ?side1 ?side2 A16.out).mono ?_); (case side1 => repeat (first | exact (Kd.R_reads' HO_6.out).2.2 | (with_reducible refine Kd.C_alloc ?_ _) | (with_reducible refine Kd.C_drewN ?_ _) | (with_reducible refine Kd.C_drew ?_))); (case side2 => exact (Kd.R_reads' HO_6.out).2.1); rintro e w17 ⟨v250, rfl, ho0, hb⟩; refine ⟨_, rfl, ?_⟩; have n0_ := Aside0.mk (Kd.R_elder' (by (with_reducible repeat (first | apply Kd.R_alloc | apply Kd.R_drewN | apply Kd.R_drew)); exact HO_6.out) (Kd.R_base ho0) hb); have n1_ := Aside0.mk (Kd.R_lower (Kd.R_new' ho0 (Kd.R_lt (by (with_reducible repeat (first | apply Kd.R_alloc | apply Kd.R_drewN | apply Kd.R_drew)); exact HO_6.out))) (below_size (by repeat (first | (with_reducible first | exact HB.out | apply below_alloc | apply pw_below_drewN | apply below_drew1) | exact HB.out)))); have n2_ := Aside0.mk (below_step (by repeat (first | (with_reducible first | exact HB.out | apply below_alloc | apply pw_below_drewN | apply below_drew1) | exact HB.out)) hb); clear HO_6; clear HB; have HO_6 := n0_; have HO251 := n1_; have HB := n2_; clear n0_ n1_ n2_; (try clear hb); (try clear hb2); (try clear hk); (try clear hi); (try clear ho0)))
            go_ret2
            exact ⟨_, by first | rfl | (simp [errW_none, errW_some] <;> rfl) | (simp [*, errW_none, errW_some] <;> rfl), by (with_reducible repeat (first | apply Kd.R_alloc | apply Kd.R_drewN | apply Kd.R_drew)); exact Kd.R_mono HO251.out (fun _ hk => trivial), by repeat (first | (with_reducible first | exact HB.out | apply below_alloc | apply pw_below_drewN | apply below_drew1) | exact HB.out)⟩

/-! ### puncheonlaw11_DtabReaches: function 5 -/
mutual
def puncheonlaw11_DtabReaches.j0 : Nat → Int → Int → Bool → List Int → List (S37) → Bool → Option (Bool)
  | 0, _, _, _, _, _, _ => none
  | k + 1, x2, x3, x9, x10, x12, x45 => if x45 = true then (some false) else (if (x12.length : Int) = 0 then (none) else (puncheonlaw11_DtabReaches.l0 k x2 x9 x10 x12 (Int.tmod (wrap64 (x3)) (x12.length : Int)) 0 0))
def puncheonlaw11_DtabReaches.l0 : Nat → Int → Bool → List Int → List (S37) → Int → Int → Int → Option (Bool)
  | 0, _, _, _, _, _, _, _ => none
  | k + 1, x2, x9, x10, x12, x14, x15, x16 => if x16 < (x12.length : Int) then (if 0 ≤ x16 then (if ((rd_T37 x12 x16).f0) = x2 then (puncheonlaw11_DtabReaches.j2 k x2 x9 x10 x12 x14 x15 x16 (wrap64 (x14 - ((rd_T37 x12 x16).f2))) (decide ((wrap64 (x14 - ((rd_T37 x12 x16).f2))) < 0))) else (puncheonlaw11_DtabReaches.j2 k x2 x9 x10 x12 x14 x15 x16 (wrap64 (x14 - ((rd_T37 x12 x16).f2))) true)) else (none)) else (if x9 = true then (if 0 ≤ x2 then (if x2 < (x10.length : Int) then (if (rd x10 x2) = 0 then (if x15 = 0 then (some true) else (if (rd x10 x2) > 0 then (some (x15 == 1)) else (some false))) else (if (rd x10 x2) > 0 then (some (x15 == 1)) else (some false))) else (none)) else (none)) else (some false))
def puncheonlaw11_DtabReaches.j2 : Nat → Int → Bool → List Int → List (S37) → Int → Int → Int → Int → Bool → Option (Bool)
  | 0, _, _, _, _, _, _, _, _, _ => none
  | k + 1, x2, x9, x10, x12, x14, x15, x16, x17, x74 => if x74 = true then (puncheonlaw11_DtabReaches.l0 k x2 x9 x10 x12 x14 x15 (wrap64 (x16 + 1))) else ((dtab_Step.f x12 x16 ((x17) % 4294967296)).bind fun bt266 => (if bt266.2.2 = true then (if bt266.1 = x2 then (if bt266.2.1 = x14 then (puncheonlaw11_DtabReaches.l0 k x2 x9 x10 x12 x14 (wrap64 (x15 + 1)) (wrap64 (x16 + 1))) else (some false)) else (some false)) else (puncheonlaw11_DtabReaches.l0 k x2 x9 x10 x12 x14 x15 (wrap64 (x16 + 1)))))
end
def puncheonlaw11_DtabReaches.f (k : Nat) (l0 : List Int) (a1 : Int) (a2 : Int) (a3 : Int) : Option (Bool) := (puncheonlaw11_awake.f k).bind fun t252 => (if (l0.length : Int) > 80 then (some t252) else ((puncheonref08_Some.f k l0 a1).bind fun bt253 => ((dtab_Of.f k bt253.1).bind fun bt257 => (if bt257.2 = 0 then (if 0 ≤ bt253.2 then (puncheonlaw11_DtabReaches.j0 k a2 a3 t252 bt253.1 bt257.1 ((bt257.1.length : Int) != (shl .i64 1 bt253.2))) else (none)) else (puncheonlaw11_DtabReaches.j0 k a2 a3 t252 bt253.1 bt257.1 true)))))
theorem puncheonlaw11_DtabReaches.mono_l : ∀ k, (∀ y0 y1 y2 y3 y4 y5, LeO (puncheonlaw11_DtabReaches.j0 k y0 y1 y2 y3 y4 y5) (puncheonlaw11_DtabReaches.j0 (k + 1) y0 y1 y2 y3 y4 y5)) ∧ (∀ y0 y1 y2 y3 y4 y5 y6, LeO (puncheonlaw11_DtabReaches.l0 k y0 y1 y2 y3 y4 y5 y6) (puncheonlaw11_DtabReaches.l0 (k + 1) y0 y1 y2 y3 y4 y5 y6)) ∧ (∀ y0 y1 y2 y3 y4 y5 y6 y7 y8, LeO (puncheonlaw11_DtabReaches.j2 k y0 y1 y2 y3 y4 y5 y6 y7 y8) (puncheonlaw11_DtabReaches.j2 (k + 1) y0 y1 y2 y3 y4 y5 y6 y7 y8))
  | 0 => ⟨fun _ _ _ _ _ _ r h => by simp [puncheonlaw11_DtabReaches.j0] at h, fun _ _ _ _ _ _ _ r h => by simp [puncheonlaw11_DtabReaches.l0] at h, fun _ _ _ _ _ _ _ _ _ r h => by simp [puncheonlaw11_DtabReaches.j2] at h⟩
  | k + 1 => by
    obtain ⟨ih0, ih1, ih2⟩ := puncheonlaw11_DtabReaches.mono_l k
    refine ⟨?_, ?_, ?_⟩
    · intro y0 y1 y2 y3 y4 y5
      unfold puncheonlaw11_DtabReaches.j0
      repeat' first
      | (with_reducible exact ih0 _ _ _ _ _ _)
      | (with_reducible exact ih1 _ _ _ _ _ _ _)
      | (with_reducible exact ih2 _ _ _ _ _ _ _ _ _)
      | (with_reducible exact dtab_Of.mono _ _)
      | (with_reducible exact puncheonlaw11_awake.mono _)
      | (with_reducible exact puncheonref08_Some.mono _ _ _)
      | (with_reducible exact LeO.refl _)
      | (with_reducible exact LeO.none _)
      | (with_reducible refine LeO.ite ?_ ?_)
      | (with_reducible refine LeO.bind ?_ (fun _ => ?_))
      | exact ih0 _ _ _ _ _ _
      | exact ih1 _ _ _ _ _ _ _
      | exact ih2 _ _ _ _ _ _ _ _ _
      | exact dtab_Of.mono _ _
      | exact puncheonlaw11_awake.mono _
      | exact puncheonref08_Some.mono _ _ _
      | exact LeO.none _
      | refine LeO.ite ?_ ?_
      | refine LeO.bind ?_ (fun _ => ?_)
    · intro y0 y1 y2 y3 y4 y5 y6
      unfold puncheonlaw11_DtabReaches.l0
      repeat' first
      | (with_reducible exact ih0 _ _ _ _ _ _)
      | (with_reducible exact ih1 _ _ _ _ _ _ _)
      | (with_reducible exact ih2 _ _ _ _ _ _ _ _ _)
      | (with_reducible exact dtab_Of.mono _ _)
      | (with_reducible exact puncheonlaw11_awake.mono _)
      | (with_reducible exact puncheonref08_Some.mono _ _ _)
      | (with_reducible exact LeO.refl _)
      | (with_reducible exact LeO.none _)
      | (with_reducible refine LeO.ite ?_ ?_)
      | (with_reducible refine LeO.bind ?_ (fun _ => ?_))
      | exact ih0 _ _ _ _ _ _
      | exact ih1 _ _ _ _ _ _ _
      | exact ih2 _ _ _ _ _ _ _ _ _
      | exact dtab_Of.mono _ _
      | exact puncheonlaw11_awake.mono _
      | exact puncheonref08_Some.mono _ _ _
      | exact LeO.none _
      | refine LeO.ite ?_ ?_
      | refine LeO.bind ?_ (fun _ => ?_)
    · intro y0 y1 y2 y3 y4 y5 y6 y7 y8
      unfold puncheonlaw11_DtabReaches.j2
      repeat' first
      | (with_reducible exact ih0 _ _ _ _ _ _)
      | (with_reducible exact ih1 _ _ _ _ _ _ _)
      | (with_reducible exact ih2 _ _ _ _ _ _ _ _ _)
      | (with_reducible exact dtab_Of.mono _ _)
      | (with_reducible exact puncheonlaw11_awake.mono _)
      | (with_reducible exact puncheonref08_Some.mono _ _ _)
      | (with_reducible exact LeO.refl _)
      | (with_reducible exact LeO.none _)
      | (with_reducible refine LeO.ite ?_ ?_)
      | (with_reducible refine LeO.bind ?_ (fun _ => ?_))
      | exact ih0 _ _ _ _ _ _
      | exact ih1 _ _ _ _ _ _ _
      | exact ih2 _ _ _ _ _ _ _ _ _
      | exact dtab_Of.mono _ _
      | exact puncheonlaw11_awake.mono _
      | exact puncheonref08_Some.mono _ _ _
      | exact LeO.none _
      | refine LeO.ite ?_ ?_
      | refine LeO.bind ?_ (fun _ => ?_)
theorem puncheonlaw11_DtabReaches.mono : ∀ a0 a1 a2 a3 k, LeO (puncheonlaw11_DtabReaches.f k a0 a1 a2 a3) (puncheonlaw11_DtabReaches.f (k + 1) a0 a1 a2 a3) := by
  intro a0 a1 a2 a3 k
  obtain ⟨ih0, ih1, ih2⟩ := puncheonlaw11_DtabReaches.mono_l k
  unfold puncheonlaw11_DtabReaches.f
  repeat' first
      | (with_reducible exact ih0 _ _ _ _ _ _)
      | (with_reducible exact ih1 _ _ _ _ _ _ _)
      | (with_reducible exact ih2 _ _ _ _ _ _ _ _ _)
      | (with_reducible exact dtab_Of.mono _ _)
      | (with_reducible exact puncheonlaw11_awake.mono _)
      | (with_reducible exact puncheonref08_Some.mono _ _ _)
      | (with_reducible exact LeO.refl _)
      | (with_reducible exact LeO.none _)
      | (with_reducible refine LeO.ite ?_ ?_)
      | (with_reducible refine LeO.bind ?_ (fun _ => ?_))
      | exact ih0 _ _ _ _ _ _
      | exact ih1 _ _ _ _ _ _ _
      | exact ih2 _ _ _ _ _ _ _ _ _
      | exact dtab_Of.mono _ _
      | exact puncheonlaw11_awake.mono _
      | exact puncheonref08_Some.mono _ _ _
      | exact LeO.none _
      | refine LeO.ite ?_ ?_
      | refine LeO.bind ?_ (fun _ => ?_)
set_option maxHeartbeats 8000000 in
set_option maxRecDepth 100000 in
theorem puncheonlaw11_DtabReaches.calls (k : Nat) (A0 : Option Addr) (c0 : Nat) (l0 : List Int) (a1 : Int) (a2 : Int) (a3 : Int) (r : Bool) (w : World) (hr0 : Kd.C (Kd.int .u16) w A0 l0.length l0) (hc0 : l0.length ≤ c0) (h : puncheonlaw11_DtabReaches.f k l0 a1 a2 a3 = some r) :
    Calls Try.prog 5 #[.slice A0 l0.length c0, .int .u8 a1, .int .u8 a2, .int .u16 a3] w fun e w' => e = .returned (.bool r) ∧ Below w.heap.size w w' := by
  have HR0 := Aside0.mk hr0
  have HC0 := Aside0.mk hc0
  clear hr0 hc0
  have HB := Aside0.mk (Below.refl w.heap.size w)
  have H : ((puncheonlaw11_awake.f k).bind fun t252 => (if (l0.length : Int) > 80 then (some t252) else ((puncheonref08_Some.f k l0 a1).bind fun bt253 => ((dtab_Of.f k bt253.1).bind fun bt257 => (if bt257.2 = 0 then (if 0 ≤ bt253.2 then (puncheonlaw11_DtabReaches.j0 k a2 a3 t252 bt253.1 bt257.1 ((bt257.1.length : Int) != (shl .i64 1 bt253.2))) else (none)) else (puncheonlaw11_DtabReaches.j0 k a2 a3 t252 bt253.1 bt257.1 true)))))) = some r := h
  clear h
  replace H := Option.bind_eq_some_iff.mp H
  obtain ⟨t252, A50, H⟩ := H
  replace H : (if (l0.length : Int) > 80 then (some t252) else ((puncheonref08_Some.f k l0 a1).bind fun bt253 => ((dtab_Of.f k bt253.1).bind fun bt257 => (if bt257.2 = 0 then (if 0 ≤ bt253.2 then (puncheonlaw11_DtabReaches.j0 k a2 a3 t252 bt253.1 bt257.1 ((bt257.1.length : Int) != (shl .i64 1 bt253.2))) else (none)) else (puncheonlaw11_DtabReaches.j0 k a2 a3 t252 bt253.1 bt257.1 true))))) = some r := H
  have A5 := Aside0.mk A50
  clear A50
  by_cases c6 : (l0.length : Int) > 80
  · rw [if_pos c6] at H
    have c6b0 : decide (80 < (l0.length : Int)) = true := decide_eq_true c6
    have c6b1 : decide (80 < l0.length) = true := decide_eq_true (by omega)
    clear c6
    obtain rfl := Option.some.inj H
    go_enter Try.func5, Try.ntmps5
    go_wp2_with (first | ((with_reducible refine gate_callee (f := 7) rfl ?_); refine goesL_ (some 21) rfl rfl Try.func7 (by kernel_rfl) rfl #[] rfl (by (try simp only [List.map_toArray, List.map_cons, List.map_nil]); first | done | rfl | (simp only [List.length_drop, List.length_take]; rfl)) ?_; (with_reducible refine (puncheonlaw11_awake.calls k  t252 _ A5.out).mono ?_); rintro e w7 ⟨rfl, hb⟩; refine ⟨_, rfl, ?_⟩; have n0_ := Aside0.mk (below_step (by repeat (first | (with_reducible first | exact HB.out | apply below_alloc | apply pw_below_drewN | apply below_drew1) | exact HB.out)) hb); clear HB; have HB := n0_; clear n0_; (try clear hb); (try clear hb2); (try clear hk); (try clear hi)))
    go_ret
    exact ⟨by first | rfl | (simp [errW_none, errW_some] <;> rfl) | (simp [*, errW_none, errW_some] <;> rfl), by repeat (first | (with_reducible first | exact HB.out | apply below_alloc | apply pw_below_drewN | apply below_drew1) | exact HB.out)⟩
  · rw [if_neg c6] at H
    have c6b0 : decide (80 < (l0.length : Int)) = false := decide_eq_false c6
    have c6b1 : decide (80 < l0.length) = false := decide_eq_false (by omega)
    clear c6
    replace H := Option.bind_eq_some_iff.mp H
    obtain ⟨⟨t253, t254⟩, A80, H⟩ := H
    replace H : ((dtab_Of.f k t253).bind fun bt257 => (if bt257.2 = 0 then (if 0 ≤ t254 then (puncheonlaw11_DtabReaches.j0 k a2 a3 t252 t253 bt257.1 ((bt257.1.length : Int) != (shl .i64 1 t254))) else (none)) else (puncheonlaw11_DtabReaches.j0 k a2 a3 t252 t253 bt257.1 true))) = some r := H
    have A8 := Aside0.mk A80
    clear A80
    replace H := Option.bind_eq_some_iff.mp H
    obtain ⟨⟨t257, t258⟩, A90, H⟩ := H
    replace H : (if t258 = 0 then (if 0 ≤ t254 then (puncheonlaw11_DtabReaches.j0 k a2 a3 t252 t253 t257 ((t257.length : Int) != (shl .i64 1 t254))) else (none)) else (puncheonlaw11_DtabReaches.j0 k a2 a3 t252 t253 t257 true)) = some r := H
    have A9 := Aside0.mk A90
    clear A90
    have HC10 := Aside0.mk H
    clear H
    go_enter Try.func5, Try.ntmps5
    go_upto_region 6 with (first | ((with_reducible refine gate_callee (f := 7) rfl ?_); refine goesL_ (some 21) rfl rfl Try.func7 (by kernel_rfl) rfl #[] rfl (by (try simp only [List.map_toArray, List.map_cons, List.map_nil]); first | done | rfl | (simp only [List.length_drop, List.length_take]; rfl)) ?_; (with_reducible refine (puncheonlaw11_awake.calls k  t252 _ A5.out).mono ?_); rintro e w11 ⟨rfl, hb⟩; refine ⟨_, rfl, ?_⟩; have n0_ := Aside0.mk (below_step (by repeat (first | (with_reducible first | exact HB.out | apply below_alloc | apply pw_below_drewN | apply below_drew1) | exact HB.out)) hb); clear HB; have HB := n0_; clear n0_; (try clear hb); (try clear hb2); (try clear hk); (try clear hi)) | ((with_reducible refine gate_callee (f := 12) rfl ?_); refine goesL_ (some 29) rfl rfl Try.func12 (by kernel_rfl) rfl #[.slice A0 l0.length c0, .int .u8 a1] rfl (by (try simp only [List.map_toArray, List.map_cons, List.map_nil]); first | done | rfl | (simp only [List.length_drop, List.length_take]; rfl)) ?_; (with_reducible refine (puncheonref08_Some.calls k _ _ l0 a1 t253 t254 _ ?side1 ?side2 A8.out).mono ?_); (case side1 => repeat (first | exact (Kd.C_below HR0.out HB.out) | (with_reducible refine Kd.C_alloc ?_ _) | (with_reducible refine Kd.C_drewN ?_ _) | (with_reducible refine Kd.C_drew ?_))); (case side2 => exact HC0.out); rintro e w12 ⟨v255, rfl, ho0, hb⟩; refine ⟨_, rfl, ?_⟩; have n0_ := Aside0.mk (Kd.R_lower ho0 (below_size (by repeat (first | (with_reducible first | exact HB.out | apply below_alloc | apply pw_below_drewN | apply below_drew1) | exact HB.out)))); have n1_ := Aside0.mk (below_step (by repeat (first | (with_reducible first | exact HB.out | apply below_alloc | apply pw_below_drewN | apply below_drew1) | exact HB.out)) hb); clear HB; have HO256 := n0_; have HB := n1_; clear n0_ n1_; (try clear hb); (try clear hb2); (try clear hk); (try clear hi); (try clear ho0); obtain ⟨Ao13, co13, eo13⟩ := Kd.R_slice HO256.out; subst eo13) | ((with_reducible refine gate_callee (f := 9) rfl ?_); refine goesL_ (some 34) rfl rfl Try.func9 (by kernel_rfl) rfl #[.slice Ao13 t253.length co13] rfl (by (try simp only [List.map_toArray, List.map_cons, List.map_nil]); first | done | rfl | (simp only [List.length_drop, List.length_take]; rfl)) ?_; (with_reducible refine (dtab_Of.calls k _ _ t253 t257 t258 _ ?side1 ?side2 A9.out).mono ?_); (case side1 => repeat (first | exact (Kd.R_reads' HO256.out).2.2 | (with_reducible refine Kd.C_alloc ?_ _) | (with_reducible refine Kd.C_drewN ?_ _) | (with_reducible refine Kd.C_drew ?_))); (case side2 => exact (Kd.R_reads' HO256.out).2.1); rintro e w14 ⟨v259, rfl, ho0, hb⟩; refine ⟨_, rfl, ?_⟩; have n0_ := Aside0.mk (Kd.R_below (by (with_reducible repeat (first | apply Kd.R_alloc | apply Kd.R_drewN | apply Kd.R_drew)); exact HO256.out) hb); have n1_ := Aside0.mk (Kd.R_lower ho0 (below_size (by repeat (first | (with_reducible first | exact HB.out | apply below_alloc | apply pw_below_drewN | apply below_drew1) | exact HB.out)))); have n2_ := Aside0.mk (below_step (by repeat (first | (with_reducible first | exact HB.out | apply below_alloc | apply pw_below_drewN | apply below_drew1) | exact HB.out)) hb); clear HO256; clear HB; have HO256 := n0_; have HO260 := n1_; have HB := n2_; clear n0_ n1_ n2_; (try clear hb); (try clear hb2); (try clear hk); (try clear hi); (try clear ho0)))
    (try simp only [Act.put, List.setIfInBounds_toArray, List.set_cons_zero, List.set_cons_succ])
    go_cut [45] (fun v45 wc => ∃ (kq : Nat) (x45_9 : Bool), v45 = .bool x45_9 ∧ Aside0 (puncheonlaw11_DtabReaches.j0 kq a2 a3 t252 t253 t257 x45_9 = some r) ∧ Aside0 (kq ≤ k) ∧ Aside0 (Kd.R (Kd.int .i64) 3 wc w.heap.size (fun _ => True) (.slice Ao13 t253.length co13) t253) ∧ Aside0 (Kd.R k37 37 wc w.heap.size (fun _ => True) v259 t257) ∧ Aside0 (Below w.heap.size w wc))
    case first =>
      have H := HC10.out
      clear HC10
      by_cases c15 : t258 = 0
      · rw [if_pos c15] at H
        have c15b0 : (t258 == 0) = true := beq_iff_eq.mpr c15
        have c15b1 : (t258 != 0) = false := bne_eq_false_iff_eq.mpr c15
        clear c15
        (first | rw [c15b0] | (simp only [i64_w, i32_w]; rw [c15b0]) | skip)
        by_cases c16 : 0 ≤ t254
        · rw [if_pos c16] at H
          have c16b0 := eq_true c16
          have c16b1 : decide (0 ≤ t254) = true := decide_eq_true c16
          clear c16
          obtain ⟨ji17, hji17⟩ : ∃ j_ : Int, (shl .i64 1 t254) = j_ := ⟨_, rfl⟩
          replace H : (puncheonlaw11_DtabReaches.j0 k a2 a3 t252 t253 t257 ((t257.length : Int) != (ji17))) = some r := by first | (rw [hji17] at H; exact H) | (simp only [hji17] at H ⊢; exact H)
          have hji17_ : (IntKind.i64.wrap (1 * 2 ^ min t254.toNat 64)) = ji17 := hji17
          have hji17z : t254 ≤ 64 → (IntKind.i64.wrap (1 * 2 ^ t254.toNat)) = ji17 := shl_small hji17
          have hji17u : (IntKind.i64.wrap (2 ^ min t254.toNat 64)) = ji17 := by have h_ := hji17_; rw [Int.one_mul] at h_; exact h_
          have hji17v : t254 ≤ 64 → (IntKind.i64.wrap (2 ^ t254.toNat)) = ji17 := fun hle_ => by have h_ := hji17z hle_; rw [Int.one_mul] at h_; exact h_
          have hji17y : (wrap64 (1 * 2 ^ min t254.toNat 64)) = ji17 := (i64_w _).symm.trans hji17_
          have hji17x : t254 ≤ 64 → (wrap64 (1 * 2 ^ t254.toNat)) = ji17 := fun h_ => (i64_w _).symm.trans (hji17z h_)
          have H' := Aside0.mk H
          clear H
          obtain ⟨Ao18, co18, eo18⟩ := Kd.R_slice HO260.out
          subst eo18
          go_wp2
          subst hji17
          go_meet
          case rel => exact ⟨_, (((t257.length : Int) != ((shl .i64 1 t254)))), (by first | rfl | (simp; done) | (simp only [← hji17] <;> (first | rfl | simp)) | (simp [*]; done)), H', ⟨by first | omega | exact Nat.le_refl _⟩, ⟨by (with_reducible repeat (first | apply Kd.R_alloc | apply Kd.R_drewN | apply Kd.R_drew)); exact HO256.out⟩, ⟨by (with_reducible repeat (first | apply Kd.R_alloc | apply Kd.R_drewN | apply Kd.R_drew)); exact HO260.out⟩, ⟨by repeat (first | (with_reducible first | exact HB.out | apply below_alloc | apply pw_below_drewN | apply below_drew1) | exact HB.out)⟩⟩
        · rw [if_neg c16] at H
          exact absurd H (by simp)
      · rw [if_neg c15] at H
        have c15b0 : (t258 == 0) = false := beq_eq_false_iff_ne.mpr c15
        have c15b1 : (t258 != 0) = true := bne_iff_ne.mpr c15
        (first | rw [c15b0] | (simp only [i64_w, i32_w]; rw [c15b0]) | skip)
        have H' := Aside0.mk H
        clear H
        go_wp2
        go_meet
        case rel => exact ⟨_, (true), (by first | rfl | (simp; done) | (simp [*]; done)), H', ⟨by first | omega | exact Nat.le_refl _⟩, ⟨by (with_reducible repeat (first | apply Kd.R_alloc | apply Kd.R_drewN | apply Kd.R_drew)); exact HO256.out⟩, ⟨by (with_reducible repeat (first | apply Kd.R_alloc | apply Kd.R_drewN | apply Kd.R_drew)); exact HO260.out⟩, ⟨by repeat (first | (with_reducible first | exact HB.out | apply below_alloc | apply pw_below_drewN | apply below_drew1) | exact HB.out)⟩⟩
    case rest =>
      clear HC10
      try clear c1
      try clear p2
      try clear c5
      try clear c6
      try clear c6b0
      try clear c6b1
      try clear p6
      try clear c7
      try clear c9
      try clear c12
      try clear c15
      try clear c15b0
      try clear c15b1
      try clear c16
      try clear c16b0
      try clear c16b1
      obtain ⟨kq, x45_9, rfl, HA, HJ9, HO_10, HO_12, HB⟩ := hcut
      cases kq with
      | zero => exact absurd HA.out (by simp [puncheonlaw11_DtabReaches.j0])
      | succ kj9 =>
        have H := HA.out
        clear HA
        simp only [puncheonlaw11_DtabReaches.j0] at H
        by_cases c19 : x45_9 = true
        · subst c19
          have H1 : (some false) = some r := by rw [if_pos rfl] at H; exact H
          clear H
          have H := H1
          clear H1
          obtain rfl := Option.some.inj H
          go_wp2
          go_ret
          exact ⟨by first | rfl | (simp [errW_none, errW_some] <;> rfl) | (simp [*, errW_none, errW_some] <;> rfl), by repeat (first | (with_reducible first | exact HB.out | apply below_alloc | apply pw_below_drewN | apply below_drew1) | exact HB.out)⟩
        · replace c19 := Bool.eq_false_iff.mpr c19
          subst c19
          have H1 : (if (t257.length : Int) = 0 then (none) else (puncheonlaw11_DtabReaches.l0 kj9 a2 t252 t253 t257 (Int.tmod (wrap64 (a3)) (t257.length : Int)) 0 0)) = some r := by rw [if_neg (show ¬ (false = true) by decide)] at H; exact H
          clear H
          have H := H1
          clear H1
          by_cases c20 : (t257.length : Int) = 0
          · rw [if_pos c20] at H
            exact absurd H (by simp)
          · rw [if_neg c20] at H
            have c20b0 : ((t257.length : Int) == 0) = false := beq_eq_false_iff_ne.mpr c20
            have c20b1 : ((t257.length : Int) != 0) = true := bne_iff_ne.mpr c20
            have c20b2 : ¬ (t257 = []) := fun h_ => c20 (by rw [h_]; rfl)
            have H' := Aside0.mk H
            clear H
            obtain ⟨Ao21, co21, eo21⟩ := Kd.R_slice HO_12.out
            subst eo21
            go_wp2
            go_loopg [15, 16] kj9 (fun kq v15 v16 w' => ∃ (x15_2 : Int) (x16_2 : Int), v15 = .int .i64 x15_2 ∧ v16 = .int .i64 x16_2 ∧ Aside0 (puncheonlaw11_DtabReaches.l0 kq a2 t252 t253 t257 (Int.tmod (wrap64 (a3)) (t257.length : Int)) x15_2 x16_2 = some r) ∧ Aside0 (kq ≤ kj9) ∧ Aside0 (Kd.R (Kd.int .i64) 3 w' w.heap.size (fun _ => True) (.slice Ao13 t253.length co13) t253) ∧ Aside0 (Kd.R k37 37 w' w.heap.size (fun _ => True) (.slice Ao21 t257.length co21) t257) ∧ Aside0 (Below w.heap.size w w'))
            case atStart => exact ⟨(0), (0), (by first | rfl | (simp; done) | (simp [*]; done)), (by first | rfl | (simp; done) | (simp [*]; done)), H', ⟨Nat.le_refl _⟩, ⟨by (with_reducible repeat (first | apply Kd.R_alloc | apply Kd.R_drewN | apply Kd.R_drew)); exact HO_10.out⟩, ⟨by (with_reducible repeat (first | apply Kd.R_alloc | apply Kd.R_drewN | apply Kd.R_drew)); exact HO_12.out⟩, ⟨by repeat (first | (with_reducible first | exact HB.out | apply below_alloc | apply pw_below_drewN | apply below_drew1) | exact HB.out)⟩⟩
            case round =>
              clear H'
              try clear c1
              try clear c2
              try clear p2
              try clear c5
              try clear c6
              try clear c6b0
              try clear c6b1
              try clear p6
              try clear c7
              try clear c9
              try clear c12
              try clear c15
              try clear c15b0
              try clear c15b1
              try clear c16
              try clear c16b0
              try clear c16b1
              try clear c19
              try clear c20
              try clear c20b0
              try clear c20b1
              try clear c20b2
              try clear p2
              try clear p6
              obtain ⟨x15_2, x16_2, rfl, rfl, HA, HK2, HO_10, HO_12, HB⟩ := hrel
              cases gk with
              | zero => exact absurd HA.out (by simp [puncheonlaw11_DtabReaches.l0])
              | succ k2 =>
                have H := HA.out
                clear HA
                simp only [puncheonlaw11_DtabReaches.l0] at H
                by_cases c22 : x16_2 < (t257.length : Int)
                · rw [if_pos c22] at H
                  have c22b0 : decide (x16_2 < (t257.length : Int)) = true := decide_eq_true c22
                  clear c22
                  by_cases c23 : 0 ≤ x16_2
                  · rw [if_pos c23] at H
                    have c23b0 : decide (0 ≤ x16_2) = true := decide_eq_true c23
                    clear c23
                    have HC24 := Aside0.mk H
                    clear H
                    have p264 : 0 ≤ (x16_2 : Int) := of_decide_eq_true (by first | (with_reducible assumption) | assumption)
                    have q264 : x16_2 < (t257.length : Int) := of_decide_eq_true (by first | (with_reducible assumption) | assumption)
                    obtain ⟨ad264, e264, hx264_0, hx264_1, hx264_2⟩ := at_T37 (Kd.R_reads' HO_12.out).2.2 x16_2 p264 q264
                    cases e264
                    replace p264 := eq_true p264
                    replace q264 := eq_true q264
                    go_upto_region 14 with (fail)
                    go_cut [74] (fun v74 wc => ∃ (kq : Nat) (x74_23 : Bool), v74 = .bool x74_23 ∧ Aside0 (puncheonlaw11_DtabReaches.j2 kq a2 t252 t253 t257 (Int.tmod (wrap64 (a3)) (t257.length : Int)) x15_2 x16_2 (wrap64 ((Int.tmod (wrap64 (a3)) (t257.length : Int)) - ((rd_T37 t257 x16_2).f2))) x74_23 = some r) ∧ Aside0 (kq ≤ k2) ∧ Aside0 (Kd.R (Kd.int .i64) 3 wc w.heap.size (fun _ => True) (.slice Ao13 t253.length co13) t253) ∧ Aside0 (Kd.R k37 37 wc w.heap.size (fun _ => True) (.slice (some ad264) t257.length co21) t257) ∧ Aside0 (Below w.heap.size w wc))
                    case first =>
                      have H := HC24.out
                      clear HC24
                      by_cases c25 : ((rd_T37 t257 x16_2).f0) = a2
                      · rw [if_pos c25] at H
                        have c25b0 : (((rd_T37 t257 x16_2).f0) == a2) = true := beq_iff_eq.mpr c25
                        have c25b1 : (((rd_T37 t257 x16_2).f0) != a2) = false := bne_eq_false_iff_eq.mpr c25
                        clear c25
                        (first | rw [c25b0] | (simp only [i64_w, i32_w]; rw [c25b0]) | skip)
                        have H' := Aside0.mk H
                        clear H
                        have p265 : 0 ≤ (x16_2 : Int) := of_decide_eq_true (by first | (with_reducible assumption) | assumption)
                        have q265 : x16_2 < (t257.length : Int) := of_decide_eq_true (by first | (with_reducible assumption) | assumption)
                        obtain ⟨ad265, e265, hx265_0, hx265_1, hx265_2⟩ := at_T37 (Kd.R_reads' HO_12.out).2.2 x16_2 p265 q265
                        obtain rfl : ad264 = ad265 := (by injection e265)
                        replace p265 := eq_true p265
                        replace q265 := eq_true q265
                        go_wp2
                        go_meet
                        case rel => exact ⟨_, (decide ((wrap64 ((Int.tmod (wrap64 (a3)) (t257.length : Int)) - ((rd_T37 t257 x16_2).f2))) < 0)), (by first | rfl | (simp; done) | (simp [*]; done)), H', ⟨by have := HJ9.out; have := HK2.out; first | omega | exact Nat.le_refl _⟩, ⟨by (with_reducible repeat (first | apply Kd.R_alloc | apply Kd.R_drewN | apply Kd.R_drew)); exact HO_10.out⟩, ⟨by (with_reducible repeat (first | apply Kd.R_alloc | apply Kd.R_drewN | apply Kd.R_drew)); exact HO_12.out⟩, ⟨by repeat (first | (with_reducible first | exact HB.out | apply below_alloc | apply pw_below_drewN | apply below_drew1) | exact HB.out)⟩⟩
                      · rw [if_neg c25] at H
                        have c25b0 : (((rd_T37 t257 x16_2).f0) == a2) = false := beq_eq_false_iff_ne.mpr c25
                        have c25b1 : (((rd_T37 t257 x16_2).f0) != a2) = true := bne_iff_ne.mpr c25
                        (first | rw [c25b0] | (simp only [i64_w, i32_w]; rw [c25b0]) | skip)
                        have H' := Aside0.mk H
                        clear H
                        have p265 : 0 ≤ (x16_2 : Int) := of_decide_eq_true (by first | (with_reducible assumption) | assumption)
                        have q265 : x16_2 < (t257.length : Int) := of_decide_eq_true (by first | (with_reducible assumption) | assumption)
                        obtain ⟨ad265, e265, hx265_0, hx265_1, hx265_2⟩ := at_T37 (Kd.R_reads' HO_12.out).2.2 x16_2 p265 q265
                        obtain rfl : ad264 = ad265 := (by injection e265)
                        replace p265 := eq_true p265
                        replace q265 := eq_true q265
                        go_wp2
                        go_meet
                        case rel => exact ⟨_, (true), (by first | rfl | (simp; done) | (simp [*]; done)), H', ⟨by have := HJ9.out; have := HK2.out; first | omega | exact Nat.le_refl _⟩, ⟨by (with_reducible repeat (first | apply Kd.R_alloc | apply Kd.R_drewN | apply Kd.R_drew)); exact HO_10.out⟩, ⟨by (with_reducible repeat (first | apply Kd.R_alloc | apply Kd.R_drewN | apply Kd.R_drew)); exact HO_12.out⟩, ⟨by repeat (first | (with_reducible first | exact HB.out | apply below_alloc | apply pw_below_drewN | apply below_drew1) | exact HB.out)⟩⟩
                    case rest =>
                      clear HC24
                      try clear c1
                      try clear c2
                      try clear p2
                      try clear q2
                      try clear hx2
                      try clear c5
                      try clear c6
                      try clear c6b0
                      try clear c6b1
                      try clear p6
                      try clear c7
                      try clear c9
                      try clear c12
                      try clear c15
                      try clear c15b0
                      try clear c15b1
                      try clear c16
                      try clear c16b0
                      try clear c16b1
                      try clear c19
                      try clear c20
                      try clear c20b0
                      try clear c20b1
                      try clear c20b2
                      try clear c22
                      try clear c22b0
                      try clear c23
                      try clear c23b0
                      try clear c25
                      try clear c25b0
                      try clear c25b1
                      try clear hx264_0
                      try clear hx264_1
                      try clear hx264_2
                      try clear hx265_0
                      try clear hx265_1
                      try clear hx265_2
                      try clear p2
                      try clear p264
                      try clear p265
                      try clear p6
                      try clear q264
                      try clear q265
                      obtain ⟨kq, x74_23, rfl, HA, HJ23, HO_10, HO_12, HB⟩ := hcut
                      cases kq with
                      | zero => exact absurd HA.out (by simp [puncheonlaw11_DtabReaches.j2])
                      | succ kj23 =>
                        have H := HA.out
                        clear HA
                        simp only [puncheonlaw11_DtabReaches.j2] at H
                        by_cases c26 : x74_23 = true
                        · subst c26
                          have H1 : (puncheonlaw11_DtabReaches.l0 kj23 a2 t252 t253 t257 (Int.tmod (wrap64 (a3)) (t257.length : Int)) x15_2 (wrap64 (x16_2 + 1))) = some r := by rw [if_pos rfl] at H; exact H
                          clear H
                          have H := H1
                          clear H1
                          have H' := Aside0.mk H
                          clear H
                          go_wp2
                          go_roundg kj23
                          case measure => have := HJ9.out; have := HK2.out; have := HJ23.out; omega
                          case rel => exact ⟨(x15_2), (wrap64 (x16_2 + 1)), (by first | rfl | (simp; done) | (simp [*]; done)), (by first | rfl | (simp; done) | (simp [*]; done)), H', ⟨by have := HJ9.out; have := HK2.out; have := HJ23.out; omega⟩, ⟨by (with_reducible repeat (first | apply Kd.R_alloc | apply Kd.R_drewN | apply Kd.R_drew)); exact HO_10.out⟩, ⟨by (with_reducible repeat (first | apply Kd.R_alloc | apply Kd.R_drewN | apply Kd.R_drew)); exact HO_12.out⟩, ⟨by repeat (first | (with_reducible first | exact HB.out | apply below_alloc | apply pw_below_drewN | apply below_drew1) | exact HB.out)⟩⟩
                        · replace c26 := Bool.eq_false_iff.mpr c26
                          subst c26
                          have H1 : ((dtab_Step.f t257 x16_2 (((wrap64 ((Int.tmod (wrap64 (a3)) (t257.length : Int)) - ((rd_T37 t257 x16_2).f2)))) % 4294967296)).bind fun bt266 => (if bt266.2.2 = true then (if bt266.1 = a2 then (if bt266.2.1 = (Int.tmod (wrap64 (a3)) (t257.length : Int)) then (puncheonlaw11_DtabReaches.l0 kj23 a2 t252 t253 t257 (Int.tmod (wrap64 (a3)) (t257.length : Int)) (wrap64 (x15_2 + 1)) (wrap64 (x16_2 + 1))) else (some false)) else (some false)) else (puncheonlaw11_DtabReaches.l0 kj23 a2 t252 t253 t257 (Int.tmod (wrap64 (a3)) (t257.length : Int)) x15_2 (wrap64 (x16_2 + 1))))) = some r := by rw [if_neg (show ¬ (false = true) by decide)] at H; exact H
                          clear H
                          have H := H1
                          clear H1
                          replace H := Option.bind_eq_some_iff.mp H
                          obtain ⟨⟨t266, t267, t268⟩, A270, H⟩ := H
                          replace H : (if t268 = true then (if t266 = a2 then (if t267 = (Int.tmod (wrap64 (a3)) (t257.length : Int)) then (puncheonlaw11_DtabReaches.l0 kj23 a2 t252 t253 t257 (Int.tmod (wrap64 (a3)) (t257.length : Int)) (wrap64 (x15_2 + 1)) (wrap64 (x16_2 + 1))) else (some false)) else (some false)) else (puncheonlaw11_DtabReaches.l0 kj23 a2 t252 t253 t257 (Int.tmod (wrap64 (a3)) (t257.length : Int)) x15_2 (wrap64 (x16_2 + 1)))) = some r := H
                          have A27 := Aside0.mk A270
                          clear A270
                          by_cases c28 : t268 = true
                          · subst c28
                            have H1 : (if t266 = a2 then (if t267 = (Int.tmod (wrap64 (a3)) (t257.length : Int)) then (puncheonlaw11_DtabReaches.l0 kj23 a2 t252 t253 t257 (Int.tmod (wrap64 (a3)) (t257.length : Int)) (wrap64 (x15_2 + 1)) (wrap64 (x16_2 + 1))) else (some false)) else (some false)) = some r := by rw [if_pos rfl] at H; exact H
                            clear H
                            have H := H1
                            clear H1
                            by_cases c29 : t266 = a2
                            · rw [if_pos c29] at H
                              have c29b0 : (t266 == a2) = true := beq_iff_eq.mpr c29
                              have c29b1 : (t266 != a2) = false := bne_eq_false_iff_eq.mpr c29
                              clear c29
                              by_cases c30 : t267 = (Int.tmod (wrap64 (a3)) (t257.length : Int))
                              · rw [if_pos c30] at H
                                have c30b0 : (t267 == (Int.tmod (wrap64 (a3)) (t257.length : Int))) = true := beq_iff_eq.mpr c30
                                have c30b1 : (t267 != (Int.tmod (wrap64 (a3)) (t257.length : Int))) = false := bne_eq_false_iff_eq.mpr c30
                                clear c30
                                have H' := Aside0.mk H
                                clear H
                                go_wp2_with (first | ((with_reducible refine gate_callee (f := 14) rfl ?_); refine goesL_ (some 80) rfl rfl Try.func14 (by kernel_rfl) rfl #[.slice (some ad264) t257.length co21, .int .i64 x16_2, .int .u32 (((wrap64 ((Int.tmod (wrap64 (a3)) (t257.length : Int)) - ((rd_T37 t257 x16_2).f2)))) % 4294967296)] rfl (by (try simp only [List.map_toArray, List.map_cons, List.map_nil]); first | done | rfl | (simp only [List.length_drop, List.length_take]; rfl)) ?_; (with_reducible refine (dtab_Step.calls _ _ t257 x16_2 (((wrap64 ((Int.tmod (wrap64 (a3)) (t257.length : Int)) - ((rd_T37 t257 x16_2).f2)))) % 4294967296) t266 t267 true _ ?side1 ?side2 A27.out).mono ?_); (case side1 => repeat (first | exact (Kd.R_reads' HO_12.out).2.2 | (with_reducible refine Kd.C_alloc ?_ _) | (with_reducible refine Kd.C_drewN ?_ _) | (with_reducible refine Kd.C_drew ?_))); (case side2 => exact (Kd.R_reads' HO_12.out).2.1); rintro e w' ⟨rfl, ⟨nd, rfl⟩⟩; refine ⟨_, rfl, ?_⟩))
                                go_roundg kj23
                                case measure => have := HJ9.out; have := HK2.out; have := HJ23.out; omega
                                case rel => exact ⟨(wrap64 (x15_2 + 1)), (wrap64 (x16_2 + 1)), (by first | rfl | (simp; done) | (simp [*]; done)), (by first | rfl | (simp; done) | (simp [*]; done)), H', ⟨by have := HJ9.out; have := HK2.out; have := HJ23.out; omega⟩, ⟨by (with_reducible repeat (first | apply Kd.R_alloc | apply Kd.R_drewN | apply Kd.R_drew)); exact HO_10.out⟩, ⟨by (with_reducible repeat (first | apply Kd.R_alloc | apply Kd.R_drewN | apply Kd.R_drew)); exact HO_12.out⟩, ⟨by repeat (first | (with_reducible first | exact HB.out | apply below_alloc | apply pw_below_drewN | apply below_drew1) | exact HB.out)⟩⟩
                              · rw [if_neg c30] at H
                                have c30b0 : (t267 == (Int.tmod (wrap64 (a3)) (t257.length : Int))) = false := beq_eq_false_iff_ne.mpr c30
                                have c30b1 : (t267 != (Int.tmod (wrap64 (a3)) (t257.length : Int))) = true := bne_iff_ne.mpr c30
                                obtain rfl := Option.some.inj H
                                go_wp2_with (first | ((with_reducible refine gate_callee (f := 14) rfl ?_); refine goesL_ (some 80) rfl rfl Try.func14 (by kernel_rfl) rfl #[.slice (some ad264) t257.length co21, .int .i64 x16_2, .int .u32 (((wrap64 ((Int.tmod (wrap64 (a3)) (t257.length : Int)) - ((rd_T37 t257 x16_2).f2)))) % 4294967296)] rfl (by (try simp only [List.map_toArray, List.map_cons, List.map_nil]); first | done | rfl | (simp only [List.length_drop, List.length_take]; rfl)) ?_; (with_reducible refine (dtab_Step.calls _ _ t257 x16_2 (((wrap64 ((Int.tmod (wrap64 (a3)) (t257.length : Int)) - ((rd_T37 t257 x16_2).f2)))) % 4294967296) t266 t267 true _ ?side1 ?side2 A27.out).mono ?_); (case side1 => repeat (first | exact (Kd.R_reads' HO_12.out).2.2 | (with_reducible refine Kd.C_alloc ?_ _) | (with_reducible refine Kd.C_drewN ?_ _) | (with_reducible refine Kd.C_drew ?_))); (case side2 => exact (Kd.R_reads' HO_12.out).2.1); rintro e w' ⟨rfl, ⟨nd, rfl⟩⟩; refine ⟨_, rfl, ?_⟩))
                                go_ret
                                exact ⟨by first | rfl | (simp [errW_none, errW_some] <;> rfl) | (simp [*, errW_none, errW_some] <;> rfl), by repeat (first | (with_reducible first | exact HB.out | apply below_alloc | apply pw_below_drewN | apply below_drew1) | exact HB.out)⟩
                            · rw [if_neg c29] at H
                              have c29b0 : (t266 == a2) = false := beq_eq_false_iff_ne.mpr c29
                              have c29b1 : (t266 != a2) = true := bne_iff_ne.mpr c29
                              obtain rfl := Option.some.inj H
                              go_wp2_with (first | ((with_reducible refine gate_callee (f := 14) rfl ?_); refine goesL_ (some 80) rfl rfl Try.func14 (by kernel_rfl) rfl #[.slice (some ad264) t257.length co21, .int .i64 x16_2, .int .u32 (((wrap64 ((Int.tmod (wrap64 (a3)) (t257.length : Int)) - ((rd_T37 t257 x16_2).f2)))) % 4294967296)] rfl (by (try simp only [List.map_toArray, List.map_cons, List.map_nil]); first | done | rfl | (simp only [List.length_drop, List.length_take]; rfl)) ?_; (with_reducible refine (dtab_Step.calls _ _ t257 x16_2 (((wrap64 ((Int.tmod (wrap64 (a3)) (t257.length : Int)) - ((rd_T37 t257 x16_2).f2)))) % 4294967296) t266 t267 true _ ?side1 ?side2 A27.out).mono ?_); (case side1 => repeat (first | exact (Kd.R_reads' HO_12.out).2.2 | (with_reducible refine Kd.C_alloc ?_ _) | (with_reducible refine Kd.C_drewN ?_ _) | (with_reducible refine Kd.C_drew ?_))); (case side2 => exact (Kd.R_reads' HO_12.out).2.1); rintro e w' ⟨rfl, ⟨nd, rfl⟩⟩; refine ⟨_, rfl, ?_⟩))
                              go_ret
                              exact ⟨by first | rfl | (simp [errW_none, errW_some] <;> rfl) | (simp [*, errW_none, errW_some] <;> rfl), by repeat (first | (with_reducible first | exact HB.out | apply below_alloc | apply pw_below_drewN | apply below_drew1) | exact HB.out)⟩
                          · replace c28 := Bool.eq_false_iff.mpr c28
                            subst c28
                            have H1 : (puncheonlaw11_DtabReaches.l0 kj23 a2 t252 t253 t257 (Int.tmod (wrap64 (a3)) (t257.length : Int)) x15_2 (wrap64 (x16_2 + 1))) = some r := by rw [if_neg (show ¬ (false = true) by decide)] at H; exact H
                            clear H
                            have H := H1
                            clear H1
                            have H' := Aside0.mk H
                            clear H
                            go_wp2_with (first | ((with_reducible refine gate_callee (f := 14) rfl ?_); refine goesL_ (some 80) rfl rfl Try.func14 (by kernel_rfl) rfl #[.slice (some ad264) t257.length co21, .int .i64 x16_2, .int .u32 (((wrap64 ((Int.tmod (wrap64 (a3)) (t257.length : Int)) - ((rd_T37 t257 x16_2).f2)))) % 4294967296)] rfl (by (try simp only [List.map_toArray, List.map_cons, List.map_nil]); first | done | rfl | (simp only [List.length_drop, List.length_take]; rfl)) ?_; (with_reducible refine (dtab_Step.calls _ _ t257 x16_2 (((wrap64 ((Int.tmod (wrap64 (a3)) (t257.length : Int)) - ((rd_T37 t257 x16_2).f2)))) % 4294967296) t266 t267 false _ ?side1 ?side2 A27.out).mono ?_); (case side1 => repeat (first | exact (Kd.R_reads' HO_12.out).2.2 | (with_reducible refine Kd.C_alloc ?_ _) | (with_reducible refine Kd.C_drewN ?_ _) | (with_reducible refine Kd.C_drew ?_))); (case side2 => exact (Kd.R_reads' HO_12.out).2.1); rintro e w' ⟨rfl, ⟨nd, rfl⟩⟩; refine ⟨_, rfl, ?_⟩))
                            go_roundg kj23
                            case measure => have := HJ9.out; have := HK2.out; have := HJ23.out; omega
                            case rel => exact ⟨(x15_2), (wrap64 (x16_2 + 1)), (by first | rfl | (simp; done) | (simp [*]; done)), (by first | rfl | (simp; done) | (simp [*]; done)), H', ⟨by have := HJ9.out; have := HK2.out; have := HJ23.out; omega⟩, ⟨by (with_reducible repeat (first | apply Kd.R_alloc | apply Kd.R_drewN | apply Kd.R_drew)); exact HO_10.out⟩, ⟨by (with_reducible repeat (first | apply Kd.R_alloc | apply Kd.R_drewN | apply Kd.R_drew)); exact HO_12.out⟩, ⟨by repeat (first | (with_reducible first | exact HB.out | apply below_alloc | apply pw_below_drewN | apply below_drew1) | exact HB.out)⟩⟩
                  · rw [if_neg c23] at H
                    exact absurd H (by simp)
                · rw [if_neg c22] at H
                  have c22b0 : decide (x16_2 < (t257.length : Int)) = false := decide_eq_false c22
                  clear c22
                  by_cases c31 : t252 = true
                  · subst c31
                    have H1 : (if 0 ≤ a2 then (if a2 < (t253.length : Int) then (if (rd t253 a2) = 0 then (if x15_2 = 0 then (some true) else (if (rd t253 a2) > 0 then (some (x15_2 == 1)) else (some false))) else (if (rd t253 a2) > 0 then (some (x15_2 == 1)) else (some false))) else (none)) else (none)) = some r := by rw [if_pos rfl] at H; exact H
                    clear H
                    have H := H1
                    clear H1
                    by_cases c32 : 0 ≤ a2
                    · rw [if_pos c32] at H
                      have c32b0 : decide (0 ≤ a2) = true := decide_eq_true c32
                      clear c32
                      by_cases c33 : a2 < (t253.length : Int)
                      · rw [if_pos c33] at H
                        have c33b0 : decide (a2 < (t253.length : Int)) = true := decide_eq_true c33
                        clear c33
                        by_cases c34 : (rd t253 a2) = 0
                        · rw [if_pos c34] at H
                          have c34b0 : ((rd t253 a2) == 0) = true := beq_iff_eq.mpr c34
                          have c34b1 : ((rd t253 a2) != 0) = false := bne_eq_false_iff_eq.mpr c34
                          clear c34
                          by_cases c35 : x15_2 = 0
                          · rw [if_pos c35] at H
                            have c35b0 : (x15_2 == 0) = true := beq_iff_eq.mpr c35
                            have c35b1 : (x15_2 != 0) = false := bne_eq_false_iff_eq.mpr c35
                            clear c35
                            obtain rfl := Option.some.inj H
                            have p261 : 0 ≤ (a2 : Int) := of_decide_eq_true (by first | (with_reducible assumption) | assumption)
                            have q261 : a2 < (t253.length : Int) := of_decide_eq_true (by first | (with_reducible assumption) | assumption)
                            obtain ⟨ad261, e261, hx261_0⟩ := Kd.at_int (Kd.R_reads' HO_10.out).2.2 a2 p261 q261
                            cases e261
                            replace p261 := eq_true p261
                            replace q261 := eq_true q261
                            go_wp2
                            go_ret
                            exact ⟨by first | rfl | (simp [errW_none, errW_some] <;> rfl) | (simp [*, errW_none, errW_some] <;> rfl), by repeat (first | (with_reducible first | exact HB.out | apply below_alloc | apply pw_below_drewN | apply below_drew1) | exact HB.out)⟩
                          · rw [if_neg c35] at H
                            have c35b0 : (x15_2 == 0) = false := beq_eq_false_iff_ne.mpr c35
                            have c35b1 : (x15_2 != 0) = true := bne_iff_ne.mpr c35
                            by_cases c36 : (rd t253 a2) > 0
                            · rw [if_pos c36] at H
                              have c36b0 : decide (0 < (rd t253 a2)) = true := decide_eq_true c36
                              clear c36
                              obtain rfl := Option.some.inj H
                              have p261 : 0 ≤ (a2 : Int) := of_decide_eq_true (by first | (with_reducible assumption) | assumption)
                              have q261 : a2 < (t253.length : Int) := of_decide_eq_true (by first | (with_reducible assumption) | assumption)
                              obtain ⟨ad261, e261, hx261_0⟩ := Kd.at_int (Kd.R_reads' HO_10.out).2.2 a2 p261 q261
                              cases e261
                              replace p261 := eq_true p261
                              replace q261 := eq_true q261
                              have p262 : 0 ≤ (a2 : Int) := of_decide_eq_true (by first | (with_reducible assumption) | assumption)
                              have q262 : a2 < (t253.length : Int) := of_decide_eq_true (by first | (with_reducible assumption) | assumption)
                              obtain ⟨ad262, e262, hx262_0⟩ := Kd.at_int (Kd.R_reads' HO_10.out).2.2 a2 p262 q262
                              obtain rfl : ad261 = ad262 := (by injection e262)
                              replace p262 := eq_true p262
                              replace q262 := eq_true q262
                              go_wp2
                              go_ret
                              exact ⟨by first | rfl | (simp [errW_none, errW_some] <;> rfl) | (simp [*, errW_none, errW_some] <;> rfl), by repeat (first | (with_reducible first | exact HB.out | apply below_alloc | apply pw_below_drewN | apply below_drew1) | exact HB.out)⟩
                            · rw [if_neg c36] at H
                              have c36b0 : decide (0 < (rd t253 a2)) = false := decide_eq_false c36
                              clear c36
                              obtain rfl := Option.some.inj H
                              have p261 : 0 ≤ (a2 : Int) := of_decide_eq_true (by first | (with_reducible assumption) | assumption)
                              have q261 : a2 < (t253.length : Int) := of_decide_eq_true (by first | (with_reducible assumption) | assumption)
                              obtain ⟨ad261, e261, hx261_0⟩ := Kd.at_int (Kd.R_reads' HO_10.out).2.2 a2 p261 q261
                              cases e261
                              replace p261 := eq_true p261
                              replace q261 := eq_true q261
                              have p262 : 0 ≤ (a2 : Int) := of_decide_eq_true (by first | (with_reducible assumption) | assumption)
                              have q262 : a2 < (t253.length : Int) := of_decide_eq_true (by first | (with_reducible assumption) | assumption)
                              obtain ⟨ad262, e262, hx262_0⟩ := Kd.at_int (Kd.R_reads' HO_10.out).2.2 a2 p262 q262
                              obtain rfl : ad261 = ad262 := (by injection e262)
                              replace p262 := eq_true p262
                              replace q262 := eq_true q262
                              go_wp2
                              go_ret
                              exact ⟨by first | rfl | (simp [errW_none, errW_some] <;> rfl) | (simp [*, errW_none, errW_some] <;> rfl), by repeat (first | (with_reducible first | exact HB.out | apply below_alloc | apply pw_below_drewN | apply below_drew1) | exact HB.out)⟩
                        · rw [if_neg c34] at H
                          have c34b0 : ((rd t253 a2) == 0) = false := beq_eq_false_iff_ne.mpr c34
                          have c34b1 : ((rd t253 a2) != 0) = true := bne_iff_ne.mpr c34
                          by_cases c37 : (rd t253 a2) > 0
                          · rw [if_pos c37] at H
                            have c37b0 : decide (0 < (rd t253 a2)) = true := decide_eq_true c37
                            clear c37
                            obtain rfl := Option.some.inj H
                            have p261 : 0 ≤ (a2 : Int) := of_decide_eq_true (by first | (with_reducible assumption) | assumption)
                            have q261 : a2 < (t253.length : Int) := of_decide_eq_true (by first | (with_reducible assumption) | assumption)
                            obtain ⟨ad261, e261, hx261_0⟩ := Kd.at_int (Kd.R_reads' HO_10.out).2.2 a2 p261 q261
                            cases e261
                            replace p261 := eq_true p261
                            replace q261 := eq_true q261
                            have p263 : 0 ≤ (a2 : Int) := of_decide_eq_true (by first | (with_reducible assumption) | assumption)
                            have q263 : a2 < (t253.length : Int) := of_decide_eq_true (by first | (with_reducible assumption) | assumption)
                            obtain ⟨ad263, e263, hx263_0⟩ := Kd.at_int (Kd.R_reads' HO_10.out).2.2 a2 p263 q263
                            obtain rfl : ad261 = ad263 := (by injection e263)
                            replace p263 := eq_true p263
                            replace q263 := eq_true q263
                            go_wp2
                            go_ret
                            exact ⟨by first | rfl | (simp [errW_none, errW_some] <;> rfl) | (simp [*, errW_none, errW_some] <;> rfl), by repeat (first | (with_reducible first | exact HB.out | apply below_alloc | apply pw_below_drewN | apply below_drew1) | exact HB.out)⟩
                          · rw [if_neg c37] at H
                            have c37b0 : decide (0 < (rd t253 a2)) = false := decide_eq_false c37
                            clear c37
                            obtain rfl := Option.some.inj H
                            have p261 : 0 ≤ (a2 : Int) := of_decide_eq_true (by first | (with_reducible assumption) | assumption)
                            have q261 : a2 < (t253.length : Int) := of_decide_eq_true (by first | (with_reducible assumption) | assumption)
                            obtain ⟨ad261, e261, hx261_0⟩ := Kd.at_int (Kd.R_reads' HO_10.out).2.2 a2 p261 q261
                            cases e261
                            replace p261 := eq_true p261
                            replace q261 := eq_true q261
                            have p263 : 0 ≤ (a2 : Int) := of_decide_eq_true (by first | (with_reducible assumption) | assumption)
                            have q263 : a2 < (t253.length : Int) := of_decide_eq_true (by first | (with_reducible assumption) | assumption)
                            obtain ⟨ad263, e263, hx263_0⟩ := Kd.at_int (Kd.R_reads' HO_10.out).2.2 a2 p263 q263
                            obtain rfl : ad261 = ad263 := (by injection e263)
                            replace p263 := eq_true p263
                            replace q263 := eq_true q263
                            go_wp2
                            go_ret
                            exact ⟨by first | rfl | (simp [errW_none, errW_some] <;> rfl) | (simp [*, errW_none, errW_some] <;> rfl), by repeat (first | (with_reducible first | exact HB.out | apply below_alloc | apply pw_below_drewN | apply below_drew1) | exact HB.out)⟩
                      · rw [if_neg c33] at H
                        exact absurd H (by simp)
                    · rw [if_neg c32] at H
                      exact absurd H (by simp)
                  · replace c31 := Bool.eq_false_iff.mpr c31
                    subst c31
                    have H1 : (some false) = some r := by rw [if_neg (show ¬ (false = true) by decide)] at H; exact H
                    clear H
                    have H := H1
                    clear H1
                    obtain rfl := Option.some.inj H
                    go_wp2
                    go_ret
                    exact ⟨by first | rfl | (simp [errW_none, errW_some] <;> rfl) | (simp [*, errW_none, errW_some] <;> rfl), by repeat (first | (with_reducible first | exact HB.out | apply below_alloc | apply pw_below_drewN | apply below_drew1) | exact HB.out)⟩

/-- THE ONE PURE STATEMENT of puncheonlaw11_DtabReaches: yours. -/
def puncheonlaw11_DtabReaches.Pure : Prop := ∀ (l0 : List Int) (a1 : Int) (a2 : Int) (a3 : Int), l0.length ≤ maxLen → l0.length * 2 ≤ 140737488351232 → (∀ x ∈ l0, (Lit.int .u16 x).wf = true) → (Lit.int .u8 a1).wf = true → (Lit.int .u8 a2).wf = true → (Lit.int .u16 a3).wf = true → ∃ k, puncheonlaw11_DtabReaches.f k l0 a1 a2 a3 = some true
theorem puncheonlaw11_DtabReaches.walk (P : puncheonlaw11_DtabReaches.Pure) (a0 : Option Addr) (len0 cap0 : Nat) (z0 : List Int) (a1 : Int) (a2 : Int) (a3 : Int) (w : World) (w0 : (a0 = none ∧ len0 = 0 ∧ cap0 = 0 ∧ z0 = []) ∨ ∃ x, a0 = some x ∧ len0 ≤ cap0 ∧ cap0 ≤ maxLen ∧ z0.length = cap0 ∧ (∀ i, i < z0.length → w.cell? (x.add i) = some (.int .u16 (z0.getD i 0))) ∧ ∀ n ∈ z0, (Lit.int .u16 n).wf = true) (y0 : len0 * 2 ≤ 140737488351232) (w1 : (Lit.int .u8 a1).wf = true) (w2 : (Lit.int .u8 a2).wf = true) (w3 : (Lit.int .u16 a3).wf = true) :
    Calls Try.prog 5 #[.slice a0 len0 cap0, .int .u8 a1, .int .u8 a2, .int .u16 a3] w fun e w' => e = .returned (.bool true) ∧ Below w.heap.size w w' := by
  obtain ⟨l0, rfl, hr0, hm0, hw0, hc0⟩ := ReadsInt.ofRowC w0
  obtain ⟨k, h⟩ := P l0 a1 a2 a3 hm0 y0 hw0 w1 w2 w3
  refine (puncheonlaw11_DtabReaches.calls k _ _ l0 a1 a2 a3 true w (Kd.C_of_reads (d := (0 : Int)) (h1 := fun _ => rfl) hr0) hc0 h).mono ?_
  rintro e w' ⟨rfl, hd⟩
  exact ⟨rfl, hd⟩

end Go.Proofs.Ytjbpmlpmfbeobaa.PPr
