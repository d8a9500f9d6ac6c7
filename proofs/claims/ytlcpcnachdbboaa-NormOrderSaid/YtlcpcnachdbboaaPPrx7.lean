/- The machine's side of this seat's laws: what each function computes, and that its call computes it; written by a program (pr.py over the kit's print.py). -/
import Derived.Test.YtlcpcnachdbboaaPPrx0
import Derived.Test.YtlcpcnachdbboaaPPrx6
namespace Go.Proofs.Ytlcpcnachdbboaa.PPr
open Go.RowKit Go.Proofs.YtlcpcnachdbboaaW.PrintWords Go.Proofs.YtlcpcnachdbboaaW.PrintLast Go.Proofs.YtlcpcnachdbboaaW.PrintMore
attribute [local go_sem] max2_int min2_int max_two min_two max_three min_three max_four min_four   -- for this text's walks alone
set_option linter.unusedVariables false
set_option linter.unusedSimpArgs false

/-! ### puncheonlaw08_awake: function 9 -/
def puncheonlaw08_awake.j0 : Nat → List Int → Bool → Option (Bool)
  | 0, _, _ => none
  | k + 1, x2, x24 => if x24 = true then (some false) else ((norm_Log.f k x2).bind fun bt144 => (if 0 < (x2.length : Int) then (if (rd x2 0) = 4 then (if 1 < (x2.length : Int) then (if (rd x2 1) = 2 then (if 2 < (x2.length : Int) then (if (rd x2 2) = 2 then (if bt144.1 = 3 then (if bt144.2 = true then ((norm_Right.f k x2 3).bind fun t149 => (if t149 = true then ((norm_Right.f k x2 4).bind fun t150 => (some (!t150))) else (some false))) else (some false)) else (some false)) else (some false)) else (none)) else (some false)) else (none)) else (some false)) else (none)))
def puncheonlaw08_awake.f (k : Nat)  : Option (Bool) := if 256 ≤ 35184372088832 then ((some (List.replicate 256 0 : List Int)).bind fun y134 => (if 0 < (y134.length : Int) then (if 1 < (y134.length : Int) then (if 2 < (y134.length : Int) then ((norm_Counts.f k (((y134.set (0 : Int).toNat 5).set (1 : Int).toNat 3).set (2 : Int).toNat 2) 3).bind fun bt140 => (if bt140.2 = 0 then (puncheonlaw08_awake.j0 k bt140.1 ((bt140.1.length : Int) != 256)) else (puncheonlaw08_awake.j0 k bt140.1 true))) else (none)) else (none)) else (none))) else (none)
theorem puncheonlaw08_awake.mono_l : ∀ k, (∀ y0 y1, LeO (puncheonlaw08_awake.j0 k y0 y1) (puncheonlaw08_awake.j0 (k + 1) y0 y1))
  | 0 => fun _ _ r h => by simp [puncheonlaw08_awake.j0] at h
  | k + 1 => by
    have ih0 := puncheonlaw08_awake.mono_l k
    · intro y0 y1
      unfold puncheonlaw08_awake.j0
      repeat' first
      | (with_reducible exact ih0 _ _)
      | (with_reducible exact norm_Counts.mono _ _ _)
      | (with_reducible exact norm_Log.mono _ _)
      | (with_reducible exact norm_Right.mono _ _ _)
      | (with_reducible exact LeO.refl _)
      | (with_reducible exact LeO.none _)
      | (with_reducible refine LeO.ite ?_ ?_)
      | (with_reducible refine LeO.bind ?_ (fun _ => ?_))
      | exact ih0 _ _
      | exact norm_Counts.mono _ _ _
      | exact norm_Log.mono _ _
      | exact norm_Right.mono _ _ _
      | exact LeO.none _
      | refine LeO.ite ?_ ?_
      | refine LeO.bind ?_ (fun _ => ?_)
theorem puncheonlaw08_awake.mono : ∀ k, LeO (puncheonlaw08_awake.f k ) (puncheonlaw08_awake.f (k + 1) ) := by
  intro  k
  have ih0 := puncheonlaw08_awake.mono_l k
  unfold puncheonlaw08_awake.f
  repeat' first
      | (with_reducible exact ih0 _ _)
      | (with_reducible exact norm_Counts.mono _ _ _)
      | (with_reducible exact norm_Log.mono _ _)
      | (with_reducible exact norm_Right.mono _ _ _)
      | (with_reducible exact LeO.refl _)
      | (with_reducible exact LeO.none _)
      | (with_reducible refine LeO.ite ?_ ?_)
      | (with_reducible refine LeO.bind ?_ (fun _ => ?_))
      | exact ih0 _ _
      | exact norm_Counts.mono _ _ _
      | exact norm_Log.mono _ _
      | exact norm_Right.mono _ _ _
      | exact LeO.none _
      | refine LeO.ite ?_ ?_
      | refine LeO.bind ?_ (fun _ => ?_)
set_option maxHeartbeats 8000000 in
set_option maxRecDepth 100000 in
theorem puncheonlaw08_awake.calls (k : Nat)  (r : Bool) (w : World) (h : puncheonlaw08_awake.f k  = some r) :
    Calls Try.prog 9 #[] w fun e w' => e = .returned (.bool r) ∧ Below w.heap.size w w' := by
  have HB := Aside0.mk (Below.refl w.heap.size w)
  have H : (if 256 ≤ 35184372088832 then ((some (List.replicate 256 0 : List Int)).bind fun y134 => (if 0 < (y134.length : Int) then (if 1 < (y134.length : Int) then (if 2 < (y134.length : Int) then ((norm_Counts.f k (((y134.set (0 : Int).toNat 5).set (1 : Int).toNat 3).set (2 : Int).toNat 2) 3).bind fun bt140 => (if bt140.2 = 0 then (puncheonlaw08_awake.j0 k bt140.1 ((bt140.1.length : Int) != 256)) else (puncheonlaw08_awake.j0 k bt140.1 true))) else (none)) else (none)) else (none))) else (none)) = some r := h
  clear h
  by_cases c1 : 256 ≤ 35184372088832
  · rw [if_pos c1] at H
    have c1b0 := eq_true c1
    have c1b1 : decide (256 ≤ 35184372088832) = true := decide_eq_true c1
    clear c1
    obtain ⟨y134, hy134⟩ : ∃ y_ : List Int, y_ = (List.replicate 256 0) := ⟨_, rfl⟩
    replace H : (if 0 < (y134.length : Int) then (if 1 < (y134.length : Int) then (if 2 < (y134.length : Int) then ((norm_Counts.f k (((y134.set (0 : Int).toNat 5).set (1 : Int).toNat 3).set (2 : Int).toNat 2) 3).bind fun bt140 => (if bt140.2 = 0 then (puncheonlaw08_awake.j0 k bt140.1 ((bt140.1.length : Int) != 256)) else (puncheonlaw08_awake.j0 k bt140.1 true))) else (none)) else (none)) else (none)) = some r := by first | (rw [hy134]; with_reducible exact H) | (have H2_ := (Option.bind_some _ _).symm.trans H; rw [hy134]; with_reducible exact H2_) | (have H2_ := (Option.bind_some _ _).symm.trans H; with_reducible exact H2_) | with_reducible exact H | (rw [hy134]; exact H) | exact H
    have Ny134 := Aside0.mk hy134
    clear hy134
    by_cases c2 : 0 < (y134.length : Int)
    · rw [if_pos c2] at H
      have c2b0 : decide (0 < (y134.length : Int)) = true := decide_eq_true c2
      have c2b1 : decide (0 < y134.length) = true := decide_eq_true (by omega)
      clear c2
      obtain ⟨y137, hy137⟩ : ∃ y_ : List Int, y_ = (y134.set (0 : Int).toNat 5) := ⟨_, rfl⟩
      replace H : (if 1 < (y134.length : Int) then (if 2 < (y134.length : Int) then ((norm_Counts.f k ((y137.set (1 : Int).toNat 3).set (2 : Int).toNat 2) 3).bind fun bt140 => (if bt140.2 = 0 then (puncheonlaw08_awake.j0 k bt140.1 ((bt140.1.length : Int) != 256)) else (puncheonlaw08_awake.j0 k bt140.1 true))) else (none)) else (none)) = some r := by first | (rw [hy137]; with_reducible exact H) | (have H2_ := (Option.bind_some _ _).symm.trans H; rw [hy137]; with_reducible exact H2_) | (have H2_ := (Option.bind_some _ _).symm.trans H; with_reducible exact H2_) | with_reducible exact H | (rw [hy137]; exact H) | exact H
      have Ny137 := Aside0.mk hy137
      clear hy137
      by_cases c4 : 1 < (y134.length : Int)
      · rw [if_pos c4] at H
        have c4b0 : decide (1 < (y134.length : Int)) = true := decide_eq_true c4
        have c4b1 : decide (1 < y134.length) = true := decide_eq_true (by omega)
        clear c4
        obtain ⟨y138, hy138⟩ : ∃ y_ : List Int, y_ = (y137.set (1 : Int).toNat 3) := ⟨_, rfl⟩
        replace H : (if 2 < (y134.length : Int) then ((norm_Counts.f k (y138.set (2 : Int).toNat 2) 3).bind fun bt140 => (if bt140.2 = 0 then (puncheonlaw08_awake.j0 k bt140.1 ((bt140.1.length : Int) != 256)) else (puncheonlaw08_awake.j0 k bt140.1 true))) else (none)) = some r := by first | (rw [hy138]; with_reducible exact H) | (have H2_ := (Option.bind_some _ _).symm.trans H; rw [hy138]; with_reducible exact H2_) | (have H2_ := (Option.bind_some _ _).symm.trans H; with_reducible exact H2_) | with_reducible exact H | (rw [hy138]; exact H) | exact H
        have Ny138 := Aside0.mk hy138
        clear hy138
        by_cases c6 : 2 < (y134.length : Int)
        · rw [if_pos c6] at H
          have c6b0 : decide (2 < (y134.length : Int)) = true := decide_eq_true c6
          have c6b1 : decide (2 < y134.length) = true := decide_eq_true (by omega)
          clear c6
          obtain ⟨y139, hy139⟩ : ∃ y_ : List Int, y_ = (y138.set (2 : Int).toNat 2) := ⟨_, rfl⟩
          replace H : ((norm_Counts.f k y139 3).bind fun bt140 => (if bt140.2 = 0 then (puncheonlaw08_awake.j0 k bt140.1 ((bt140.1.length : Int) != 256)) else (puncheonlaw08_awake.j0 k bt140.1 true))) = some r := by first | (rw [hy139]; with_reducible exact H) | (have H2_ := (Option.bind_some _ _).symm.trans H; rw [hy139]; with_reducible exact H2_) | (have H2_ := (Option.bind_some _ _).symm.trans H; with_reducible exact H2_) | with_reducible exact H | (rw [hy139]; exact H) | exact H
          have Ny139 := Aside0.mk hy139
          clear hy139
          replace H := Option.bind_eq_some_iff.mp H
          obtain ⟨⟨t140, t141⟩, A80, H⟩ := H
          replace H : (if t141 = 0 then (puncheonlaw08_awake.j0 k t140 ((t140.length : Int) != 256)) else (puncheonlaw08_awake.j0 k t140 true)) = some r := H
          have A8 := Aside0.mk A80
          clear A80
          have HC9 := Aside0.mk H
          clear H
          go_enter Try.func9, Try.ntmps9
          go_upto_region 6 with (first | ((with_reducible refine gate_dst (N := 6) rfl ?_); (try (refine gate_guard (by rfl) ?_; dsimp only)); refine Kd.R_make (Kd.int .i64) _ 3 rfl (N := 6) rfl 22 _ _ rfl 256 rfl rfl Try.underlying22 (.int .i64 0) 8 info3 rfl (by decide) (by omega) 0 (ok := fun _ => True) (okp := fun _ => True) rfl (fun _ hk => hk) trivial (by omega) (by omega) (Below.refl _ _) (Nat.le_refl _) ?_; intro v135 w10 ho11 hb hg_ hnew_; clear hg_ hnew_; (first | rw [← Ny134.out] at ho11 | (simp only [Int.reduceToNat] at ho11; rw [← Ny134.out] at ho11)); have n0_ := Aside0.mk (Kd.R_lower ho11 (below_size (by repeat (first | (with_reducible first | exact HB.out | apply below_alloc | apply pw_below_drewN | apply below_drew1) | exact HB.out)))); have n1_ := Aside0.mk (below_step (by repeat (first | (with_reducible first | exact HB.out | apply below_alloc | apply pw_below_drewN | apply below_drew1) | exact HB.out)) hb); clear HB; have HO136 := n0_; have HB := n1_; clear n0_ n1_; clear hb ho11; have p3 : 0 ≤ (0 : Int) := (by omega); have q3 : (0 : Int) < ((y134.length : Int) : Int) := of_decide_eq_true (by first | (with_reducible assumption) | assumption); have qi3 : (0 < y134.length) = True := eq_true (by omega); obtain ⟨go3, co3, eo3, gb3, gl3, cl3, HG3⟩ := Kd.R_form HO136.out (by omega); (first | cases eo3 | (injection eo3 with ea_ en_ ec_; (first | subst ea_ | (injection ea_ with ea_; subst ea_)); subst ec_; clear en_)); have GB3 := Aside0.mk gb3; have GG3 := Aside0.mk HG3; clear gb3 gl3 HG3; obtain ⟨hx3_0, hf3_0⟩ := Kd.R_celln 0 HO136.out (0 : Int) p3 q3; (try rw [show ((0 : Int)).toNat = 0 from rfl] at hx3_0); (try simp only [Nat.reduceMul, Nat.zero_mul, Nat.zero_add, Nat.reduceAdd] at hx3_0); (try rw [show ((0 : Int)).toNat = 0 from rfl] at hf3_0); (try simp only [Nat.reduceMul, Nat.zero_mul, Nat.zero_add, Nat.reduceAdd] at hf3_0); replace p3 := eq_true p3; replace q3 := eq_true q3; obtain ⟨hy12_, hz12_⟩ := Kd.R_celln 0 HO136.out (0 : Int) (by omega) (of_decide_eq_true (by first | (with_reducible assumption) | assumption)); (try simp only [Int.reduceToNat, Int.toNat_zero, Int.toNat_ofNat, Nat.reduceMul, Nat.zero_mul, Nat.zero_add] at hy12_ hz12_); (try rw [show ((0 : Int)).toNat = 0 from rfl] at hy12_); (try rw [show ((0 : Int)).toNat = 0 from rfl] at hz12_); have HP12 := Kd.R_putg HO136.out (0 : Int) 5) | ((with_reducible refine gate_store (t := 3) (p := 8) rfl ?_); refine store_event (t := 3) (p := 8) (v := ?vo_w13) (w1 := (w10.setCell ⟨go3, (0 : Int).toNat, none⟩ (.int .i64 5))) ?hg ?ho ?hn ?hr ?_; (case ho => rfl); (case hg => rfl); (case hn => rfl); (case hr => first | (go_simp; done) | (go_simp; rfl)); intro w13 hw; have hg : w10.grownBy w13 (some go3) := (by rw [hw]; exact HP12.2); have hp_ : Kd.R (Kd.int .i64) 3 w13 w.heap.size (fun _ => True) (.slice (some ⟨go3, 0, none⟩) y134.length co3) y137 := (by rw [hw, Ny137.out]; exact HP12.1); clear HP12; have n0_ := Aside0.mk (hp_); have n1_ := Aside0.mk ((by rw [hw]; exact below_set (HB.out) GB3.out : Below w.heap.size w w13)); clear HO136; clear HB; have HO136 := n0_; have HB := n1_; clear n0_ n1_; clear hg hw hp_; have p5 : 0 ≤ (1 : Int) := (by omega); have q5 : (1 : Int) < ((y134.length : Int) : Int) := of_decide_eq_true (by first | (with_reducible assumption) | assumption); have qi5 : (1 < y134.length) = True := eq_true (by omega); obtain ⟨hx5_0, hf5_0⟩ := Kd.R_celln 0 HO136.out (1 : Int) p5 q5; (try rw [show ((1 : Int)).toNat = 1 from rfl] at hx5_0); (try simp only [Nat.reduceMul, Nat.zero_mul, Nat.zero_add, Nat.reduceAdd] at hx5_0); (try rw [show ((1 : Int)).toNat = 1 from rfl] at hf5_0); (try simp only [Nat.reduceMul, Nat.zero_mul, Nat.zero_add, Nat.reduceAdd] at hf5_0); replace p5 := eq_true p5; replace q5 := eq_true q5; obtain ⟨hy14_, hz14_⟩ := Kd.R_celln 0 HO136.out (1 : Int) (by omega) (of_decide_eq_true (by first | (with_reducible assumption) | assumption)); (try simp only [Int.reduceToNat, Int.toNat_zero, Int.toNat_ofNat, Nat.reduceMul, Nat.zero_mul, Nat.zero_add] at hy14_ hz14_); (try rw [show ((1 : Int)).toNat = 1 from rfl] at hy14_); (try rw [show ((1 : Int)).toNat = 1 from rfl] at hz14_); have HP14 := Kd.R_putg HO136.out (1 : Int) 3) | ((with_reducible refine gate_store (t := 3) (p := 10) rfl ?_); refine store_event (t := 3) (p := 10) (v := ?vo_w15) (w1 := (w13.setCell ⟨go3, (1 : Int).toNat, none⟩ (.int .i64 3))) ?hg ?ho ?hn ?hr ?_; (case ho => rfl); (case hg => rfl); (case hn => rfl); (case hr => first | (go_simp; done) | (go_simp; rfl)); intro w15 hw; have hg : w13.grownBy w15 (some go3) := (by rw [hw]; exact HP14.2); have hp_ : Kd.R (Kd.int .i64) 3 w15 w.heap.size (fun _ => True) (.slice (some ⟨go3, 0, none⟩) y134.length co3) y138 := (by rw [hw, Ny138.out]; exact HP14.1); clear HP14; have n0_ := Aside0.mk (hp_); have n1_ := Aside0.mk ((by rw [hw]; exact below_set (HB.out) GB3.out : Below w.heap.size w w15)); clear HO136; clear HB; have HO136 := n0_; have HB := n1_; clear n0_ n1_; clear hg hw hp_; have p7 : 0 ≤ (2 : Int) := (by omega); have q7 : (2 : Int) < ((y134.length : Int) : Int) := of_decide_eq_true (by first | (with_reducible assumption) | assumption); have qi7 : (2 < y134.length) = True := eq_true (by omega); obtain ⟨hx7_0, hf7_0⟩ := Kd.R_celln 0 HO136.out (2 : Int) p7 q7; (try rw [show ((2 : Int)).toNat = 2 from rfl] at hx7_0); (try simp only [Nat.reduceMul, Nat.zero_mul, Nat.zero_add, Nat.reduceAdd] at hx7_0); (try rw [show ((2 : Int)).toNat = 2 from rfl] at hf7_0); (try simp only [Nat.reduceMul, Nat.zero_mul, Nat.zero_add, Nat.reduceAdd] at hf7_0); replace p7 := eq_true p7; replace q7 := eq_true q7; obtain ⟨hy16_, hz16_⟩ := Kd.R_celln 0 HO136.out (2 : Int) (by omega) (of_decide_eq_true (by first | (with_reducible assumption) | assumption)); (try simp only [Int.reduceToNat, Int.toNat_zero, Int.toNat_ofNat, Nat.reduceMul, Nat.zero_mul, Nat.zero_add] at hy16_ hz16_); (try rw [show ((2 : Int)).toNat = 2 from rfl] at hy16_); (try rw [show ((2 : Int)).toNat = 2 from rfl] at hz16_); have HP16 := Kd.R_putg HO136.out (2 : Int) 2) | ((with_reducible refine gate_store (t := 3) (p := 12) rfl ?_); refine store_event (t := 3) (p := 12) (v := ?vo_w17) (w1 := (w15.setCell ⟨go3, (2 : Int).toNat, none⟩ (.int .i64 2))) ?hg ?ho ?hn ?hr ?_; (case ho => rfl); (case hg => rfl); (case hn => rfl); (case hr => first | (go_simp; done) | (go_simp; rfl)); intro w17 hw; have hg : w15.grownBy w17 (some go3) := (by rw [hw]; exact HP16.2); have hp_ : Kd.R (Kd.int .i64) 3 w17 w.heap.size (fun _ => True) (.slice (some ⟨go3, 0, none⟩) y134.length co3) y139 := (by rw [hw, Ny139.out]; exact HP16.1); clear HP16; have n0_ := Aside0.mk (hp_); have n1_ := Aside0.mk ((by rw [hw]; exact below_set (HB.out) GB3.out : Below w.heap.size w w17)); clear HO136; clear HB; have HO136 := n0_; have HB := n1_; clear n0_ n1_; clear hg hw hp_) | ((with_reducible refine gate_callee (f := 10) rfl ?_); refine goesL_ (some 15) rfl rfl Try.func10 (by kernel_rfl) rfl #[.slice (some ⟨go3, 0, none⟩) y139.length co3, .int .i64 3] rfl (by (try simp only [List.map_toArray, List.map_cons, List.map_nil]); first | done | (rw [show y139.length = y134.length from (Kd.R_reads' HO136.out).1.symm] <;> rfl) | rfl | (simp only [List.length_drop, List.length_take]; rfl)) ?_; (with_reducible refine (norm_Counts.calls k _ _ y139 3 t140 t141 _ ?side1 ?side2 A8.out).mono ?_); (case side1 => repeat (first | exact (Kd.R_reads' HO136.out).2.2 | (with_reducible refine Kd.C_alloc ?_ _) | (with_reducible refine Kd.C_drewN ?_ _) | (with_reducible refine Kd.C_drew ?_))); (case side2 => rw [show y139.length = y134.length from (Kd.R_reads' HO136.out).1.symm]; exact (Kd.R_reads' HO136.out).2.1); rintro e w18 ⟨v142, rfl, ho0, hb⟩; refine ⟨_, rfl, ?_⟩; have n0_ := Aside0.mk (Kd.R_elder' (by (with_reducible repeat (first | apply Kd.R_alloc | apply Kd.R_drewN | apply Kd.R_drew)); exact HO136.out) (Kd.R_base ho0) hb); have n1_ := Aside0.mk (Kd.R_lower (Kd.R_new' ho0 (Kd.R_lt (by (with_reducible repeat (first | apply Kd.R_alloc | apply Kd.R_drewN | apply Kd.R_drew)); exact HO136.out))) (below_size (by repeat (first | (with_reducible first | exact HB.out | apply below_alloc | apply pw_below_drewN | apply below_drew1) | exact HB.out)))); have n2_ := Aside0.mk (below_step (by repeat (first | (with_reducible first | exact HB.out | apply below_alloc | apply pw_below_drewN | apply below_drew1) | exact HB.out)) hb); clear HO136; clear HB; have HO136 := n0_; have HO143 := n1_; have HB := n2_; clear n0_ n1_ n2_; (try clear hb); (try clear hb2); (try clear hk); (try clear hi); (try clear ho0)))
          (try simp only [Act.put, List.setIfInBounds_toArray, List.set_cons_zero, List.set_cons_succ])
          go_cut [24] (fun v24 wc => ∃ (kq : Nat) (x24_8 : Bool), v24 = .bool x24_8 ∧ Aside0 (puncheonlaw08_awake.j0 kq t140 x24_8 = some r) ∧ Aside0 (kq ≤ k) ∧ Aside0 (Kd.R (Kd.int .i64) 3 wc w.heap.size (fun _ => True) v142 t140) ∧ Aside0 (Below w.heap.size w wc))
          case first =>
            have H := HC9.out
            clear HC9
            by_cases c19 : t141 = 0
            · rw [if_pos c19] at H
              have c19b0 : (t141 == 0) = true := beq_iff_eq.mpr c19
              have c19b1 : (t141 != 0) = false := bne_eq_false_iff_eq.mpr c19
              clear c19
              (first | rw [c19b0] | (simp only [i64_w, i32_w]; rw [c19b0]) | skip)
              have H' := Aside0.mk H
              clear H
              obtain ⟨Ao20, co20, eo20⟩ := Kd.R_slice HO143.out
              subst eo20
              go_wp2
              go_meet
              case rel => exact ⟨_, (((t140.length : Int) != 256)), (by first | rfl | (simp; done) | (simp [*]; done)), H', ⟨by first | omega | exact Nat.le_refl _⟩, ⟨by (with_reducible repeat (first | apply Kd.R_alloc | apply Kd.R_drewN | apply Kd.R_drew)); exact Kd.R_mono HO143.out (fun _ hk => trivial)⟩, ⟨by repeat (first | (with_reducible first | exact HB.out | apply below_alloc | apply pw_below_drewN | apply below_drew1) | exact HB.out)⟩⟩
            · rw [if_neg c19] at H
              have c19b0 : (t141 == 0) = false := beq_eq_false_iff_ne.mpr c19
              have c19b1 : (t141 != 0) = true := bne_iff_ne.mpr c19
              (first | rw [c19b0] | (simp only [i64_w, i32_w]; rw [c19b0]) | skip)
              have H' := Aside0.mk H
              clear H
              go_wp2
              go_meet
              case rel => exact ⟨_, (true), (by first | rfl | (simp; done) | (simp [*]; done)), H', ⟨by first | omega | exact Nat.le_refl _⟩, ⟨by (with_reducible repeat (first | apply Kd.R_alloc | apply Kd.R_drewN | apply Kd.R_drew)); exact Kd.R_mono HO143.out (fun _ hk => trivial)⟩, ⟨by repeat (first | (with_reducible first | exact HB.out | apply below_alloc | apply pw_below_drewN | apply below_drew1) | exact HB.out)⟩⟩
          case rest =>
            clear HC9
            try clear c1
            try clear c1b0
            try clear c1b1
            try clear c2
            try clear c2b0
            try clear c2b1
            try clear p2
            try clear p3
            try clear q3
            try clear hx3
            try clear qi3
            try clear hf3
            try clear c4
            try clear c4b0
            try clear c4b1
            try clear p5
            try clear q5
            try clear hx5
            try clear qi5
            try clear hf5
            try clear c6
            try clear c6b0
            try clear c6b1
            try clear p7
            try clear q7
            try clear hx7
            try clear qi7
            try clear hf7
            try clear c9
            try clear c10
            try clear c19
            try clear c19b0
            try clear c19b1
            try clear hx3_0
            try clear hx5_0
            try clear hx7_0
            try clear p3
            try clear p5
            try clear p7
            try clear q3
            try clear q5
            try clear q7
            obtain ⟨kq, x24_8, rfl, HA, HJ8, HO_2, HB⟩ := hcut
            cases kq with
            | zero => exact absurd HA.out (by simp [puncheonlaw08_awake.j0])
            | succ kj8 =>
              have H := HA.out
              clear HA
              simp only [puncheonlaw08_awake.j0] at H
              by_cases c21 : x24_8 = true
              · subst c21
                have H1 : (some false) = some r := by rw [if_pos rfl] at H; exact H
                clear H
                have H := H1
                clear H1
                obtain rfl := Option.some.inj H
                go_wp2
                go_ret
                exact ⟨by first | rfl | (simp [errW_none, errW_some] <;> rfl) | (simp [*, errW_none, errW_some] <;> rfl), by repeat (first | (with_reducible first | exact HB.out | apply below_alloc | apply pw_below_drewN | apply below_drew1) | exact HB.out)⟩
              · replace c21 := Bool.eq_false_iff.mpr c21
                subst c21
                have H1 : ((norm_Log.f kj8 t140).bind fun bt144 => (if 0 < (t140.length : Int) then (if (rd t140 0) = 4 then (if 1 < (t140.length : Int) then (if (rd t140 1) = 2 then (if 2 < (t140.length : Int) then (if (rd t140 2) = 2 then (if bt144.1 = 3 then (if bt144.2 = true then ((norm_Right.f kj8 t140 3).bind fun t149 => (if t149 = true then ((norm_Right.f kj8 t140 4).bind fun t150 => (some (!t150))) else (some false))) else (some false)) else (some false)) else (some false)) else (none)) else (some false)) else (none)) else (some false)) else (none))) = some r := by rw [if_neg (show ¬ (false = true) by decide)] at H; exact H
                clear H
                have H := H1
                clear H1
                replace H := Option.bind_eq_some_iff.mp H
                obtain ⟨⟨t144, t145⟩, A220, H⟩ := H
                replace H : (if 0 < (t140.length : Int) then (if (rd t140 0) = 4 then (if 1 < (t140.length : Int) then (if (rd t140 1) = 2 then (if 2 < (t140.length : Int) then (if (rd t140 2) = 2 then (if t144 = 3 then (if t145 = true then ((norm_Right.f kj8 t140 3).bind fun t149 => (if t149 = true then ((norm_Right.f kj8 t140 4).bind fun t150 => (some (!t150))) else (some false))) else (some false)) else (some false)) else (some false)) else (none)) else (some false)) else (none)) else (some false)) else (none)) = some r := H
                have A22 := Aside0.mk A220
                clear A220
                by_cases c23 : 0 < (t140.length : Int)
                · rw [if_pos c23] at H
                  have c23b0 : decide (0 < (t140.length : Int)) = true := decide_eq_true c23
                  have c23b1 : decide (0 < t140.length) = true := decide_eq_true (by omega)
                  clear c23
                  by_cases c24 : (rd t140 0) = 4
                  · rw [if_pos c24] at H
                    have c24b0 : ((rd t140 0) == 4) = true := beq_iff_eq.mpr c24
                    have c24b1 : ((rd t140 0) != 4) = false := bne_eq_false_iff_eq.mpr c24
                    clear c24
                    by_cases c25 : 1 < (t140.length : Int)
                    · rw [if_pos c25] at H
                      have c25b0 : decide (1 < (t140.length : Int)) = true := decide_eq_true c25
                      have c25b1 : decide (1 < t140.length) = true := decide_eq_true (by omega)
                      clear c25
                      by_cases c26 : (rd t140 1) = 2
                      · rw [if_pos c26] at H
                        have c26b0 : ((rd t140 1) == 2) = true := beq_iff_eq.mpr c26
                        have c26b1 : ((rd t140 1) != 2) = false := bne_eq_false_iff_eq.mpr c26
                        clear c26
                        by_cases c27 : 2 < (t140.length : Int)
                        · rw [if_pos c27] at H
                          have c27b0 : decide (2 < (t140.length : Int)) = true := decide_eq_true c27
                          have c27b1 : decide (2 < t140.length) = true := decide_eq_true (by omega)
                          clear c27
                          by_cases c28 : (rd t140 2) = 2
                          · rw [if_pos c28] at H
                            have c28b0 : ((rd t140 2) == 2) = true := beq_iff_eq.mpr c28
                            have c28b1 : ((rd t140 2) != 2) = false := bne_eq_false_iff_eq.mpr c28
                            clear c28
                            by_cases c29 : t144 = 3
                            · rw [if_pos c29] at H
                              have c29b0 : (t144 == 3) = true := beq_iff_eq.mpr c29
                              have c29b1 : (t144 != 3) = false := bne_eq_false_iff_eq.mpr c29
                              clear c29
                              by_cases c30 : t145 = true
                              · subst c30
                                have H1 : ((norm_Right.f kj8 t140 3).bind fun t149 => (if t149 = true then ((norm_Right.f kj8 t140 4).bind fun t150 => (some (!t150))) else (some false))) = some r := by rw [if_pos rfl] at H; exact H
                                clear H
                                have H := H1
                                clear H1
                                replace H := Option.bind_eq_some_iff.mp H
                                obtain ⟨t149, A310, H⟩ := H
                                replace H : (if t149 = true then ((norm_Right.f kj8 t140 4).bind fun t150 => (some (!t150))) else (some false)) = some r := H
                                have A31 := Aside0.mk A310
                                clear A310
                                by_cases c32 : t149 = true
                                · subst c32
                                  have H1 : ((norm_Right.f kj8 t140 4).bind fun t150 => (some (!t150))) = some r := by rw [if_pos rfl] at H; exact H
                                  clear H
                                  have H := H1
                                  clear H1
                                  replace H := Option.bind_eq_some_iff.mp H
                                  obtain ⟨t150, A330, H⟩ := H
                                  replace H : (some (!t150)) = some r := H
                                  have A33 := Aside0.mk A330
                                  clear A330
                                  obtain rfl := Option.some.inj H
                                  obtain ⟨Ao34, co34, eo34⟩ := Kd.R_slice HO_2.out
                                  subst eo34
                                  go_wp2_with (first | ((with_reducible refine gate_callee (f := 13) rfl ?_); refine goesL_ (some 27) rfl rfl Try.func13 (by kernel_rfl) rfl #[.slice Ao34 t140.length co34] rfl (by (try simp only [List.map_toArray, List.map_cons, List.map_nil]); first | done | rfl | (simp only [List.length_drop, List.length_take]; rfl)) ?_; (with_reducible refine (norm_Log.calls kj8 _ _ t140 t144 true _ ?side1 ?side2 A22.out).mono ?_); (case side1 => repeat (first | exact (Kd.R_reads' HO_2.out).2.2 | (with_reducible refine Kd.C_alloc ?_ _) | (with_reducible refine Kd.C_drewN ?_ _) | (with_reducible refine Kd.C_drew ?_))); (case side2 => exact (Kd.R_reads' HO_2.out).2.1); rintro e w' ⟨rfl, ⟨nd, rfl⟩⟩; refine ⟨_, rfl, ?_⟩; have p146 : 0 ≤ (0 : Int) := (by omega); have q146 : 0 < (t140.length : Int) := of_decide_eq_true (by first | (with_reducible assumption) | assumption); obtain ⟨ad146, e146, hx146_0⟩ := Kd.at_int (Kd.R_reads' HO_2.out).2.2 0 p146 q146; cases e146; have qi146 : (0 < t140.length) = True := eq_true (by omega); (try rw [show ((0 : Int)).toNat = 0 from rfl] at hx146_0); (try rw [Addr.add_zero'] at hx146_0); replace p146 := eq_true p146; replace q146 := eq_true q146; have p147 : 0 ≤ (1 : Int) := (by omega); have q147 : 1 < (t140.length : Int) := of_decide_eq_true (by first | (with_reducible assumption) | assumption); obtain ⟨ad147, e147, hx147_0⟩ := Kd.at_int (Kd.R_reads' HO_2.out).2.2 1 p147 q147; obtain rfl : ad146 = ad147 := (by injection e147); (try simp only [show (1 : Int).toNat = 1 from rfl, Nat.reduceMul, Nat.reduceEqDiff, Go.Addr.add, ↓reduceIte] at hx147_0); have qi147 : (1 < t140.length) = True := eq_true (by omega); (try rw [show ((1 : Int)).toNat = 1 from rfl] at hx147_0); replace p147 := eq_true p147; replace q147 := eq_true q147; have p148 : 0 ≤ (2 : Int) := (by omega); have q148 : 2 < (t140.length : Int) := of_decide_eq_true (by first | (with_reducible assumption) | assumption); obtain ⟨ad148, e148, hx148_0⟩ := Kd.at_int (Kd.R_reads' HO_2.out).2.2 2 p148 q148; obtain rfl : ad146 = ad148 := (by injection e148); (try simp only [show (2 : Int).toNat = 2 from rfl, Nat.reduceMul, Nat.reduceEqDiff, Go.Addr.add, ↓reduceIte] at hx148_0); have qi148 : (2 < t140.length) = True := eq_true (by omega); (try rw [show ((2 : Int)).toNat = 2 from rfl] at hx148_0); replace p148 := eq_true p148; replace q148 := eq_true q148) | (go_at_call 15; (with_reducible refine (norm_Right.calls kj8 _ _ t140 3 true _ ?side1 ?side2 A31.out).mono ?_); (case side1 => repeat (first | exact (Kd.R_reads' HO_2.out).2.2 | (with_reducible refine Kd.C_alloc ?_ _) | (with_reducible refine Kd.C_drewN ?_ _) | (with_reducible refine Kd.C_drew ?_))); (case side2 => exact (Kd.R_reads' HO_2.out).2.1); rintro e w' ⟨rfl, ⟨nd, rfl⟩⟩) | (go_at_call 15; (with_reducible refine (norm_Right.calls kj8 _ _ t140 4 t150 _ ?side1 ?side2 A33.out).mono ?_); (case side1 => repeat (first | exact (Kd.R_reads' HO_2.out).2.2 | (with_reducible refine Kd.C_alloc ?_ _) | (with_reducible refine Kd.C_drewN ?_ _) | (with_reducible refine Kd.C_drew ?_))); (case side2 => exact (Kd.R_reads' HO_2.out).2.1); rintro e w' ⟨rfl, ⟨nd, rfl⟩⟩))
                                  go_ret
                                  exact ⟨by first | rfl | (simp [errW_none, errW_some] <;> rfl) | (simp [*, errW_none, errW_some] <;> rfl), by repeat (first | (with_reducible first | exact HB.out | apply below_alloc | apply pw_below_drewN | apply below_drew1) | exact HB.out)⟩
                                · replace c32 := Bool.eq_false_iff.mpr c32
                                  subst c32
                                  have H1 : (some false) = some r := by rw [if_neg (show ¬ (false = true) by decide)] at H; exact H
                                  clear H
                                  have H := H1
                                  clear H1
                                  obtain rfl := Option.some.inj H
                                  obtain ⟨Ao35, co35, eo35⟩ := Kd.R_slice HO_2.out
                                  subst eo35
                                  go_wp2_with (first | ((with_reducible refine gate_callee (f := 13) rfl ?_); refine goesL_ (some 27) rfl rfl Try.func13 (by kernel_rfl) rfl #[.slice Ao35 t140.length co35] rfl (by (try simp only [List.map_toArray, List.map_cons, List.map_nil]); first | done | rfl | (simp only [List.length_drop, List.length_take]; rfl)) ?_; (with_reducible refine (norm_Log.calls kj8 _ _ t140 t144 true _ ?side1 ?side2 A22.out).mono ?_); (case side1 => repeat (first | exact (Kd.R_reads' HO_2.out).2.2 | (with_reducible refine Kd.C_alloc ?_ _) | (with_reducible refine Kd.C_drewN ?_ _) | (with_reducible refine Kd.C_drew ?_))); (case side2 => exact (Kd.R_reads' HO_2.out).2.1); rintro e w' ⟨rfl, ⟨nd, rfl⟩⟩; refine ⟨_, rfl, ?_⟩; have p146 : 0 ≤ (0 : Int) := (by omega); have q146 : 0 < (t140.length : Int) := of_decide_eq_true (by first | (with_reducible assumption) | assumption); obtain ⟨ad146, e146, hx146_0⟩ := Kd.at_int (Kd.R_reads' HO_2.out).2.2 0 p146 q146; cases e146; have qi146 : (0 < t140.length) = True := eq_true (by omega); (try rw [show ((0 : Int)).toNat = 0 from rfl] at hx146_0); (try rw [Addr.add_zero'] at hx146_0); replace p146 := eq_true p146; replace q146 := eq_true q146; have p147 : 0 ≤ (1 : Int) := (by omega); have q147 : 1 < (t140.length : Int) := of_decide_eq_true (by first | (with_reducible assumption) | assumption); obtain ⟨ad147, e147, hx147_0⟩ := Kd.at_int (Kd.R_reads' HO_2.out).2.2 1 p147 q147; obtain rfl : ad146 = ad147 := (by injection e147); (try simp only [show (1 : Int).toNat = 1 from rfl, Nat.reduceMul, Nat.reduceEqDiff, Go.Addr.add, ↓reduceIte] at hx147_0); have qi147 : (1 < t140.length) = True := eq_true (by omega); (try rw [show ((1 : Int)).toNat = 1 from rfl] at hx147_0); replace p147 := eq_true p147; replace q147 := eq_true q147; have p148 : 0 ≤ (2 : Int) := (by omega); have q148 : 2 < (t140.length : Int) := of_decide_eq_true (by first | (with_reducible assumption) | assumption); obtain ⟨ad148, e148, hx148_0⟩ := Kd.at_int (Kd.R_reads' HO_2.out).2.2 2 p148 q148; obtain rfl : ad146 = ad148 := (by injection e148); (try simp only [show (2 : Int).toNat = 2 from rfl, Nat.reduceMul, Nat.reduceEqDiff, Go.Addr.add, ↓reduceIte] at hx148_0); have qi148 : (2 < t140.length) = True := eq_true (by omega); (try rw [show ((2 : Int)).toNat = 2 from rfl] at hx148_0); replace p148 := eq_true p148; replace q148 := eq_true q148) | (go_at_call 15; (with_reducible refine (norm_Right.calls kj8 _ _ t140 3 false _ ?side1 ?side2 A31.out).mono ?_); (case side1 => repeat (first | exact (Kd.R_reads' HO_2.out).2.2 | (with_reducible refine Kd.C_alloc ?_ _) | (with_reducible refine Kd.C_drewN ?_ _) | (with_reducible refine Kd.C_drew ?_))); (case side2 => exact (Kd.R_reads' HO_2.out).2.1); rintro e w' ⟨rfl, ⟨nd, rfl⟩⟩))
                                  go_ret
                                  exact ⟨by first | rfl | (simp [errW_none, errW_some] <;> rfl) | (simp [*, errW_none, errW_some] <;> rfl), by repeat (first | (with_reducible first | exact HB.out | apply below_alloc | apply pw_below_drewN | apply below_drew1) | exact HB.out)⟩
                              · replace c30 := Bool.eq_false_iff.mpr c30
                                subst c30
                                have H1 : (some false) = some r := by rw [if_neg (show ¬ (false = true) by decide)] at H; exact H
                                clear H
                                have H := H1
                                clear H1
                                obtain rfl := Option.some.inj H
                                obtain ⟨Ao36, co36, eo36⟩ := Kd.R_slice HO_2.out
                                subst eo36
                                go_wp2_with (first | ((with_reducible refine gate_callee (f := 13) rfl ?_); refine goesL_ (some 27) rfl rfl Try.func13 (by kernel_rfl) rfl #[.slice Ao36 t140.length co36] rfl (by (try simp only [List.map_toArray, List.map_cons, List.map_nil]); first | done | rfl | (simp only [List.length_drop, List.length_take]; rfl)) ?_; (with_reducible refine (norm_Log.calls kj8 _ _ t140 t144 false _ ?side1 ?side2 A22.out).mono ?_); (case side1 => repeat (first | exact (Kd.R_reads' HO_2.out).2.2 | (with_reducible refine Kd.C_alloc ?_ _) | (with_reducible refine Kd.C_drewN ?_ _) | (with_reducible refine Kd.C_drew ?_))); (case side2 => exact (Kd.R_reads' HO_2.out).2.1); rintro e w' ⟨rfl, ⟨nd, rfl⟩⟩; refine ⟨_, rfl, ?_⟩; have p146 : 0 ≤ (0 : Int) := (by omega); have q146 : 0 < (t140.length : Int) := of_decide_eq_true (by first | (with_reducible assumption) | assumption); obtain ⟨ad146, e146, hx146_0⟩ := Kd.at_int (Kd.R_reads' HO_2.out).2.2 0 p146 q146; cases e146; have qi146 : (0 < t140.length) = True := eq_true (by omega); (try rw [show ((0 : Int)).toNat = 0 from rfl] at hx146_0); (try rw [Addr.add_zero'] at hx146_0); replace p146 := eq_true p146; replace q146 := eq_true q146; have p147 : 0 ≤ (1 : Int) := (by omega); have q147 : 1 < (t140.length : Int) := of_decide_eq_true (by first | (with_reducible assumption) | assumption); obtain ⟨ad147, e147, hx147_0⟩ := Kd.at_int (Kd.R_reads' HO_2.out).2.2 1 p147 q147; obtain rfl : ad146 = ad147 := (by injection e147); (try simp only [show (1 : Int).toNat = 1 from rfl, Nat.reduceMul, Nat.reduceEqDiff, Go.Addr.add, ↓reduceIte] at hx147_0); have qi147 : (1 < t140.length) = True := eq_true (by omega); (try rw [show ((1 : Int)).toNat = 1 from rfl] at hx147_0); replace p147 := eq_true p147; replace q147 := eq_true q147; have p148 : 0 ≤ (2 : Int) := (by omega); have q148 : 2 < (t140.length : Int) := of_decide_eq_true (by first | (with_reducible assumption) | assumption); obtain ⟨ad148, e148, hx148_0⟩ := Kd.at_int (Kd.R_reads' HO_2.out).2.2 2 p148 q148; obtain rfl : ad146 = ad148 := (by injection e148); (try simp only [show (2 : Int).toNat = 2 from rfl, Nat.reduceMul, Nat.reduceEqDiff, Go.Addr.add, ↓reduceIte] at hx148_0); have qi148 : (2 < t140.length) = True := eq_true (by omega); (try rw [show ((2 : Int)).toNat = 2 from rfl] at hx148_0); replace p148 := eq_true p148; replace q148 := eq_true q148))
                                go_ret
                                exact ⟨by first | rfl | (simp [errW_none, errW_some] <;> rfl) | (simp [*, errW_none, errW_some] <;> rfl), by repeat (first | (with_reducible first | exact HB.out | apply below_alloc | apply pw_below_drewN | apply below_drew1) | exact HB.out)⟩
                            · rw [if_neg c29] at H
                              have c29b0 : (t144 == 3) = false := beq_eq_false_iff_ne.mpr c29
                              have c29b1 : (t144 != 3) = true := bne_iff_ne.mpr c29
                              obtain rfl := Option.some.inj H
                              obtain ⟨Ao37, co37, eo37⟩ := Kd.R_slice HO_2.out
                              subst eo37
                              go_wp2_with (first | ((with_reducible refine gate_callee (f := 13) rfl ?_); refine goesL_ (some 27) rfl rfl Try.func13 (by kernel_rfl) rfl #[.slice Ao37 t140.length co37] rfl (by (try simp only [List.map_toArray, List.map_cons, List.map_nil]); first | done | rfl | (simp only [List.length_drop, List.length_take]; rfl)) ?_; (with_reducible refine (norm_Log.calls kj8 _ _ t140 t144 t145 _ ?side1 ?side2 A22.out).mono ?_); (case side1 => repeat (first | exact (Kd.R_reads' HO_2.out).2.2 | (with_reducible refine Kd.C_alloc ?_ _) | (with_reducible refine Kd.C_drewN ?_ _) | (with_reducible refine Kd.C_drew ?_))); (case side2 => exact (Kd.R_reads' HO_2.out).2.1); rintro e w' ⟨rfl, ⟨nd, rfl⟩⟩; refine ⟨_, rfl, ?_⟩; have p146 : 0 ≤ (0 : Int) := (by omega); have q146 : 0 < (t140.length : Int) := of_decide_eq_true (by first | (with_reducible assumption) | assumption); obtain ⟨ad146, e146, hx146_0⟩ := Kd.at_int (Kd.R_reads' HO_2.out).2.2 0 p146 q146; cases e146; have qi146 : (0 < t140.length) = True := eq_true (by omega); (try rw [show ((0 : Int)).toNat = 0 from rfl] at hx146_0); (try rw [Addr.add_zero'] at hx146_0); replace p146 := eq_true p146; replace q146 := eq_true q146; have p147 : 0 ≤ (1 : Int) := (by omega); have q147 : 1 < (t140.length : Int) := of_decide_eq_true (by first | (with_reducible assumption) | assumption); obtain ⟨ad147, e147, hx147_0⟩ := Kd.at_int (Kd.R_reads' HO_2.out).2.2 1 p147 q147; obtain rfl : ad146 = ad147 := (by injection e147); (try simp only [show (1 : Int).toNat = 1 from rfl, Nat.reduceMul, Nat.reduceEqDiff, Go.Addr.add, ↓reduceIte] at hx147_0); have qi147 : (1 < t140.length) = True := eq_true (by omega); (try rw [show ((1 : Int)).toNat = 1 from rfl] at hx147_0); replace p147 := eq_true p147; replace q147 := eq_true q147; have p148 : 0 ≤ (2 : Int) := (by omega); have q148 : 2 < (t140.length : Int) := of_decide_eq_true (by first | (with_reducible assumption) | assumption); obtain ⟨ad148, e148, hx148_0⟩ := Kd.at_int (Kd.R_reads' HO_2.out).2.2 2 p148 q148; obtain rfl : ad146 = ad148 := (by injection e148); (try simp only [show (2 : Int).toNat = 2 from rfl, Nat.reduceMul, Nat.reduceEqDiff, Go.Addr.add, ↓reduceIte] at hx148_0); have qi148 : (2 < t140.length) = True := eq_true (by omega); (try rw [show ((2 : Int)).toNat = 2 from rfl] at hx148_0); replace p148 := eq_true p148; replace q148 := eq_true q148))
                              go_ret
                              exact ⟨by first | rfl | (simp [errW_none, errW_some] <;> rfl) | (simp [*, errW_none, errW_some] <;> rfl), by repeat (first | (with_reducible first | exact HB.out | apply below_alloc | apply pw_below_drewN | apply below_drew1) | exact HB.out)⟩
                          · rw [if_neg c28] at H
                            have c28b0 : ((rd t140 2) == 2) = false := beq_eq_false_iff_ne.mpr c28
                            have c28b1 : ((rd t140 2) != 2) = true := bne_iff_ne.mpr c28
                            obtain rfl := Option.some.inj H
                            obtain ⟨Ao38, co38, eo38⟩ := Kd.R_slice HO_2.out
                            subst eo38
                            go_wp2_with (first | ((with_reducible refine gate_callee (f := 13) rfl ?_); refine goesL_ (some 27) rfl rfl Try.func13 (by kernel_rfl) rfl #[.slice Ao38 t140.length co38] rfl (by (try simp only [List.map_toArray, List.map_cons, List.map_nil]); first | done | rfl | (simp only [List.length_drop, List.length_take]; rfl)) ?_; (with_reducible refine (norm_Log.calls kj8 _ _ t140 t144 t145 _ ?side1 ?side2 A22.out).mono ?_); (case side1 => repeat (first | exact (Kd.R_reads' HO_2.out).2.2 | (with_reducible refine Kd.C_alloc ?_ _) | (with_reducible refine Kd.C_drewN ?_ _) | (with_reducible refine Kd.C_drew ?_))); (case side2 => exact (Kd.R_reads' HO_2.out).2.1); rintro e w' ⟨rfl, ⟨nd, rfl⟩⟩; refine ⟨_, rfl, ?_⟩; have p146 : 0 ≤ (0 : Int) := (by omega); have q146 : 0 < (t140.length : Int) := of_decide_eq_true (by first | (with_reducible assumption) | assumption); obtain ⟨ad146, e146, hx146_0⟩ := Kd.at_int (Kd.R_reads' HO_2.out).2.2 0 p146 q146; cases e146; have qi146 : (0 < t140.length) = True := eq_true (by omega); (try rw [show ((0 : Int)).toNat = 0 from rfl] at hx146_0); (try rw [Addr.add_zero'] at hx146_0); replace p146 := eq_true p146; replace q146 := eq_true q146; have p147 : 0 ≤ (1 : Int) := (by omega); have q147 : 1 < (t140.length : Int) := of_decide_eq_true (by first | (with_reducible assumption) | assumption); obtain ⟨ad147, e147, hx147_0⟩ := Kd.at_int (Kd.R_reads' HO_2.out).2.2 1 p147 q147; obtain rfl : ad146 = ad147 := (by injection e147); (try simp only [show (1 : Int).toNat = 1 from rfl, Nat.reduceMul, Nat.reduceEqDiff, Go.Addr.add, ↓reduceIte] at hx147_0); have qi147 : (1 < t140.length) = True := eq_true (by omega); (try rw [show ((1 : Int)).toNat = 1 from rfl] at hx147_0); replace p147 := eq_true p147; replace q147 := eq_true q147; have p148 : 0 ≤ (2 : Int) := (by omega); have q148 : 2 < (t140.length : Int) := of_decide_eq_true (by first | (with_reducible assumption) | assumption); obtain ⟨ad148, e148, hx148_0⟩ := Kd.at_int (Kd.R_reads' HO_2.out).2.2 2 p148 q148; obtain rfl : ad146 = ad148 := (by injection e148); (try simp only [show (2 : Int).toNat = 2 from rfl, Nat.reduceMul, Nat.reduceEqDiff, Go.Addr.add, ↓reduceIte] at hx148_0); have qi148 : (2 < t140.length) = True := eq_true (by omega); (try rw [show ((2 : Int)).toNat = 2 from rfl] at hx148_0); replace p148 := eq_true p148; replace q148 := eq_true q148))
                            go_ret
                            exact ⟨by first | rfl | (simp [errW_none, errW_some] <;> rfl) | (simp [*, errW_none, errW_some] <;> rfl), by repeat (first | (with_reducible first | exact HB.out | apply below_alloc | apply pw_below_drewN | apply below_drew1) | exact HB.out)⟩
                        · rw [if_neg c27] at H
                          exact absurd H (by simp)
                      · rw [if_neg c26] at H
                        have c26b0 : ((rd t140 1) == 2) = false := beq_eq_false_iff_ne.mpr c26
                        have c26b1 : ((rd t140 1) != 2) = true := bne_iff_ne.mpr c26
                        obtain rfl := Option.some.inj H
                        obtain ⟨Ao39, co39, eo39⟩ := Kd.R_slice HO_2.out
                        subst eo39
                        go_wp2_with (first | ((with_reducible refine gate_callee (f := 13) rfl ?_); refine goesL_ (some 27) rfl rfl Try.func13 (by kernel_rfl) rfl #[.slice Ao39 t140.length co39] rfl (by (try simp only [List.map_toArray, List.map_cons, List.map_nil]); first | done | rfl | (simp only [List.length_drop, List.length_take]; rfl)) ?_; (with_reducible refine (norm_Log.calls kj8 _ _ t140 t144 t145 _ ?side1 ?side2 A22.out).mono ?_); (case side1 => repeat (first | exact (Kd.R_reads' HO_2.out).2.2 | (with_reducible refine Kd.C_alloc ?_ _) | (with_reducible refine Kd.C_drewN ?_ _) | (with_reducible refine Kd.C_drew ?_))); (case side2 => exact (Kd.R_reads' HO_2.out).2.1); rintro e w' ⟨rfl, ⟨nd, rfl⟩⟩; refine ⟨_, rfl, ?_⟩; have p146 : 0 ≤ (0 : Int) := (by omega); have q146 : 0 < (t140.length : Int) := of_decide_eq_true (by first | (with_reducible assumption) | assumption); obtain ⟨ad146, e146, hx146_0⟩ := Kd.at_int (Kd.R_reads' HO_2.out).2.2 0 p146 q146; cases e146; have qi146 : (0 < t140.length) = True := eq_true (by omega); (try rw [show ((0 : Int)).toNat = 0 from rfl] at hx146_0); (try rw [Addr.add_zero'] at hx146_0); replace p146 := eq_true p146; replace q146 := eq_true q146; have p147 : 0 ≤ (1 : Int) := (by omega); have q147 : 1 < (t140.length : Int) := of_decide_eq_true (by first | (with_reducible assumption) | assumption); obtain ⟨ad147, e147, hx147_0⟩ := Kd.at_int (Kd.R_reads' HO_2.out).2.2 1 p147 q147; obtain rfl : ad146 = ad147 := (by injection e147); (try simp only [show (1 : Int).toNat = 1 from rfl, Nat.reduceMul, Nat.reduceEqDiff, Go.Addr.add, ↓reduceIte] at hx147_0); have qi147 : (1 < t140.length) = True := eq_true (by omega); (try rw [show ((1 : Int)).toNat = 1 from rfl] at hx147_0); replace p147 := eq_true p147; replace q147 := eq_true q147))
                        go_ret
                        exact ⟨by first | rfl | (simp [errW_none, errW_some] <;> rfl) | (simp [*, errW_none, errW_some] <;> rfl), by repeat (first | (with_reducible first | exact HB.out | apply below_alloc | apply pw_below_drewN | apply below_drew1) | exact HB.out)⟩
                    · rw [if_neg c25] at H
                      exact absurd H (by simp)
                  · rw [if_neg c24] at H
                    have c24b0 : ((rd t140 0) == 4) = false := beq_eq_false_iff_ne.mpr c24
                    have c24b1 : ((rd t140 0) != 4) = true := bne_iff_ne.mpr c24
                    obtain rfl := Option.some.inj H
                    obtain ⟨Ao40, co40, eo40⟩ := Kd.R_slice HO_2.out
                    subst eo40
                    go_wp2_with (first | ((with_reducible refine gate_callee (f := 13) rfl ?_); refine goesL_ (some 27) rfl rfl Try.func13 (by kernel_rfl) rfl #[.slice Ao40 t140.length co40] rfl (by (try simp only [List.map_toArray, List.map_cons, List.map_nil]); first | done | rfl | (simp only [List.length_drop, List.length_take]; rfl)) ?_; (with_reducible refine (norm_Log.calls kj8 _ _ t140 t144 t145 _ ?side1 ?side2 A22.out).mono ?_); (case side1 => repeat (first | exact (Kd.R_reads' HO_2.out).2.2 | (with_reducible refine Kd.C_alloc ?_ _) | (with_reducible refine Kd.C_drewN ?_ _) | (with_reducible refine Kd.C_drew ?_))); (case side2 => exact (Kd.R_reads' HO_2.out).2.1); rintro e w' ⟨rfl, ⟨nd, rfl⟩⟩; refine ⟨_, rfl, ?_⟩; have p146 : 0 ≤ (0 : Int) := (by omega); have q146 : 0 < (t140.length : Int) := of_decide_eq_true (by first | (with_reducible assumption) | assumption); obtain ⟨ad146, e146, hx146_0⟩ := Kd.at_int (Kd.R_reads' HO_2.out).2.2 0 p146 q146; cases e146; have qi146 : (0 < t140.length) = True := eq_true (by omega); (try rw [show ((0 : Int)).toNat = 0 from rfl] at hx146_0); (try rw [Addr.add_zero'] at hx146_0); replace p146 := eq_true p146; replace q146 := eq_true q146))
                    go_ret
                    exact ⟨by first | rfl | (simp [errW_none, errW_some] <;> rfl) | (simp [*, errW_none, errW_some] <;> rfl), by repeat (first | (with_reducible first | exact HB.out | apply below_alloc | apply pw_below_drewN | apply below_drew1) | exact HB.out)⟩
                · rw [if_neg c23] at H
                  exact absurd H (by simp)
        · rw [if_neg c6] at H
          exact absurd H (by simp)
      · rw [if_neg c4] at H
        exact absurd H (by simp)
    · rw [if_neg c2] at H
      exact absurd H (by simp)
  · rw [if_neg c1] at H
    exact absurd H (by simp)

/-! ### puncheonref01_Ints: function 12 -/
def puncheonref01_Ints.l0 : Nat → List Int → List Int → Int → Option (Bool)
  | 0, _, _, _ => none
  | k + 1, x0, x1, x5 => if x5 < (x0.length : Int) then (if 0 ≤ x5 then (if x5 < (x1.length : Int) then (if (rd x0 x5) = (rd x1 x5) then (puncheonref01_Ints.l0 k x0 x1 (wrap64 (x5 + 1))) else (some false)) else (none)) else (none)) else (some true)
def puncheonref01_Ints.f (k : Nat) (l0 : List Int) (l1 : List Int) : Option (Bool) := if (l0.length : Int) = (l1.length : Int) then (puncheonref01_Ints.l0 k l0 l1 0) else (some false)
theorem puncheonref01_Ints.mono_l : ∀ k, (∀ y0 y1 y2, LeO (puncheonref01_Ints.l0 k y0 y1 y2) (puncheonref01_Ints.l0 (k + 1) y0 y1 y2))
  | 0 => fun _ _ _ r h => by simp [puncheonref01_Ints.l0] at h
  | k + 1 => by
    have ih0 := puncheonref01_Ints.mono_l k
    · intro y0 y1 y2
      unfold puncheonref01_Ints.l0
      repeat' first
      | (with_reducible exact ih0 _ _ _)
      | (with_reducible exact LeO.refl _)
      | (with_reducible exact LeO.none _)
      | (with_reducible refine LeO.ite ?_ ?_)
      | (with_reducible refine LeO.bind ?_ (fun _ => ?_))
      | exact ih0 _ _ _
      | exact LeO.none _
      | refine LeO.ite ?_ ?_
      | refine LeO.bind ?_ (fun _ => ?_)
theorem puncheonref01_Ints.mono : ∀ a0 a1 k, LeO (puncheonref01_Ints.f k a0 a1) (puncheonref01_Ints.f (k + 1) a0 a1) := by
  intro a0 a1 k
  have ih0 := puncheonref01_Ints.mono_l k
  unfold puncheonref01_Ints.f
  repeat' first
      | (with_reducible exact ih0 _ _ _)
      | (with_reducible exact LeO.refl _)
      | (with_reducible exact LeO.none _)
      | (with_reducible refine LeO.ite ?_ ?_)
      | (with_reducible refine LeO.bind ?_ (fun _ => ?_))
      | exact ih0 _ _ _
      | exact LeO.none _
      | refine LeO.ite ?_ ?_
      | refine LeO.bind ?_ (fun _ => ?_)
set_option maxHeartbeats 8000000 in
set_option maxRecDepth 100000 in
theorem puncheonref01_Ints.calls (k : Nat) (A0 : Option Addr) (c0 : Nat) (l0 : List Int) (A1 : Option Addr) (c1 : Nat) (l1 : List Int) (r : Bool) (w : World) (hr0 : Kd.C (Kd.int .i64) w A0 l0.length l0) (hc0 : l0.length ≤ c0) (hr1 : Kd.C (Kd.int .i64) w A1 l1.length l1) (hc1 : l1.length ≤ c1) (h : puncheonref01_Ints.f k l0 l1 = some r) :
    Calls Try.prog 12 #[.slice A0 l0.length c0, .slice A1 l1.length c1] w fun e w' => e = .returned (.bool r) ∧ Drawn0 w w' := by
  have HR0 := Aside0.mk hr0
  have HC0 := Aside0.mk hc0
  clear hr0 hc0
  have HR1 := Aside0.mk hr1
  have HC1 := Aside0.mk hc1
  clear hr1 hc1
  have H : (if (l0.length : Int) = (l1.length : Int) then (puncheonref01_Ints.l0 k l0 l1 0) else (some false)) = some r := h
  clear h
  by_cases c3 : (l0.length : Int) = (l1.length : Int)
  · rw [if_pos c3] at H
    have c3b0 : ((l0.length : Int) == (l1.length : Int)) = true := beq_iff_eq.mpr c3
    have c3b1 : ((l0.length : Int) != (l1.length : Int)) = false := bne_eq_false_iff_eq.mpr c3
    have c3b2 : (l0.length == l1.length) = true := by first | simpa using c3 | (simp at c3 ⊢; omega)
    clear c3
    have H' := Aside0.mk H
    clear H
    go_enter Try.func12, Try.ntmps12
    go_wp2
    repeat (go_quiet (fail); try go_wp2)
    go_loopg [5] k (fun kq v5 w' => ∃ (x5_1 : Int), v5 = .int .i64 x5_1 ∧ Aside0 (puncheonref01_Ints.l0 kq l0 l1 x5_1 = some r) ∧ Aside0 (kq ≤ k) ∧ Drawn0 w w')
    case atStart => exact ⟨(0), (by first | rfl | (simp; done) | (simp [*]; done)), H', ⟨Nat.le_refl _⟩, by repeat (first | exact Drawn0.refl _ | apply Drawn0.step)⟩
    case round =>
      clear H'
      try clear c1
      try clear p2
      try clear c3
      try clear c3b0
      try clear c3b1
      try clear c3b2
      obtain ⟨x5_1, rfl, HA, HK1, ⟨m1, rfl⟩⟩ := hrel
      cases gk with
      | zero => exact absurd HA.out (by simp [puncheonref01_Ints.l0])
      | succ k1 =>
        have H := HA.out
        clear HA
        simp only [puncheonref01_Ints.l0] at H
        by_cases c4 : x5_1 < (l0.length : Int)
        · rw [if_pos c4] at H
          have c4b0 : decide (x5_1 < (l0.length : Int)) = true := decide_eq_true c4
          clear c4
          by_cases c5 : 0 ≤ x5_1
          · rw [if_pos c5] at H
            have c5b0 : decide (0 ≤ x5_1) = true := decide_eq_true c5
            clear c5
            by_cases c6 : x5_1 < (l1.length : Int)
            · rw [if_pos c6] at H
              have c6b0 : decide (x5_1 < (l1.length : Int)) = true := decide_eq_true c6
              clear c6
              by_cases c7 : (rd l0 x5_1) = (rd l1 x5_1)
              · rw [if_pos c7] at H
                have c7b0 : ((rd l0 x5_1) == (rd l1 x5_1)) = true := beq_iff_eq.mpr c7
                have c7b1 : ((rd l0 x5_1) != (rd l1 x5_1)) = false := bne_eq_false_iff_eq.mpr c7
                clear c7
                have H' := Aside0.mk H
                clear H
                have p151 : 0 ≤ (x5_1 : Int) := of_decide_eq_true (by first | (with_reducible assumption) | assumption)
                have q151 : x5_1 < (l0.length : Int) := of_decide_eq_true (by first | (with_reducible assumption) | assumption)
                obtain ⟨ad151, e151, hx151_0⟩ := Kd.at_int HR0.out x5_1 p151 q151
                cases e151
                replace p151 := eq_true p151
                replace q151 := eq_true q151
                have p152 : 0 ≤ (x5_1 : Int) := of_decide_eq_true (by first | (with_reducible assumption) | assumption)
                have q152 : x5_1 < (l1.length : Int) := of_decide_eq_true (by first | (with_reducible assumption) | assumption)
                obtain ⟨ad152, e152, hx152_0⟩ := Kd.at_int HR1.out x5_1 p152 q152
                cases e152
                replace p152 := eq_true p152
                replace q152 := eq_true q152
                go_wp2
                repeat (go_quiet (fail); try go_wp2)
                go_roundg k1
                case measure => have := HK1.out; omega
                case rel => exact ⟨(wrap64 (x5_1 + 1)), (by first | rfl | (simp; done) | (simp [*]; done)), H', ⟨by have := HK1.out; omega⟩, by repeat (first | exact Drawn0.refl _ | apply Drawn0.step)⟩
              · rw [if_neg c7] at H
                have c7b0 : ((rd l0 x5_1) == (rd l1 x5_1)) = false := beq_eq_false_iff_ne.mpr c7
                have c7b1 : ((rd l0 x5_1) != (rd l1 x5_1)) = true := bne_iff_ne.mpr c7
                obtain rfl := Option.some.inj H
                have p151 : 0 ≤ (x5_1 : Int) := of_decide_eq_true (by first | (with_reducible assumption) | assumption)
                have q151 : x5_1 < (l0.length : Int) := of_decide_eq_true (by first | (with_reducible assumption) | assumption)
                obtain ⟨ad151, e151, hx151_0⟩ := Kd.at_int HR0.out x5_1 p151 q151
                cases e151
                replace p151 := eq_true p151
                replace q151 := eq_true q151
                have p152 : 0 ≤ (x5_1 : Int) := of_decide_eq_true (by first | (with_reducible assumption) | assumption)
                have q152 : x5_1 < (l1.length : Int) := of_decide_eq_true (by first | (with_reducible assumption) | assumption)
                obtain ⟨ad152, e152, hx152_0⟩ := Kd.at_int HR1.out x5_1 p152 q152
                cases e152
                replace p152 := eq_true p152
                replace q152 := eq_true q152
                go_wp2
                repeat (go_quiet (fail); try go_wp2)
                go_ret
                exact ⟨by first | rfl | (simp; done) | (simp [*]; done), by repeat (first | exact Drawn0.refl _ | apply Drawn0.step)⟩
            · rw [if_neg c6] at H
              exact absurd H (by simp)
          · rw [if_neg c5] at H
            exact absurd H (by simp)
        · rw [if_neg c4] at H
          have c4b0 : decide (x5_1 < (l0.length : Int)) = false := decide_eq_false c4
          clear c4
          obtain rfl := Option.some.inj H
          go_wp2
          repeat (go_quiet (fail); try go_wp2)
          go_ret
          exact ⟨by first | rfl | (simp; done) | (simp [*]; done), by repeat (first | exact Drawn0.refl _ | apply Drawn0.step)⟩
  · rw [if_neg c3] at H
    have c3b0 : ((l0.length : Int) == (l1.length : Int)) = false := beq_eq_false_iff_ne.mpr c3
    have c3b1 : ((l0.length : Int) != (l1.length : Int)) = true := bne_iff_ne.mpr c3
    have c3b2 : (l0.length == l1.length) = false := by first | simpa using c3 | (simp at c3 ⊢; omega)
    obtain rfl := Option.some.inj H
    go_enter Try.func12, Try.ntmps12
    go_wp2
    repeat (go_quiet (fail); try go_wp2)
    go_ret
    exact ⟨by first | rfl | (simp; done) | (simp [*]; done), by repeat (first | exact Drawn0.refl _ | apply Drawn0.step)⟩

/-! ### puncheonref05_Some: function 16 -/
def puncheonref05_Some.l0 : Nat → List Int → List Int → Int → Option (List Int)
  | 0, _, _, _ => none
  | k + 1, x0, x3, x4 => if (wrap64 (x4 + 1)) < (x0.length : Int) then (if x4 < 80 then (if 0 ≤ x4 then (if x4 < (x0.length : Int) then (if 0 ≤ (wrap64 (x4 + 1)) then (if 0 ≤ (Int.tmod (rd x0 x4) 256) then (if (Int.tmod (rd x0 x4) 256) < (x3.length : Int) then (puncheonref05_Some.l0 k x0 (x3.set ((Int.tmod (rd x0 x4) 256) : Int).toNat (wrap64 (rd x0 (wrap64 (x4 + 1))))) (wrap64 (x4 + 2))) else (none)) else (none)) else (none)) else (none)) else (none)) else (some x3)) else (some x3)
def puncheonref05_Some.f (k : Nat) (l0 : List Int) : Option (List Int) := if 256 ≤ 35184372088832 then (puncheonref05_Some.l0 k l0 (List.replicate 256 0) 0) else (none)
theorem puncheonref05_Some.mono_l : ∀ k, (∀ y0 y1 y2, LeO (puncheonref05_Some.l0 k y0 y1 y2) (puncheonref05_Some.l0 (k + 1) y0 y1 y2))
  | 0 => fun _ _ _ r h => by simp [puncheonref05_Some.l0] at h
  | k + 1 => by
    have ih0 := puncheonref05_Some.mono_l k
    · intro y0 y1 y2
      unfold puncheonref05_Some.l0
      repeat' first
      | (with_reducible exact ih0 _ _ _)
      | (with_reducible exact LeO.refl _)
      | (with_reducible exact LeO.none _)
      | (with_reducible refine LeO.ite ?_ ?_)
      | (with_reducible refine LeO.bind ?_ (fun _ => ?_))
      | exact ih0 _ _ _
      | exact LeO.none _
      | refine LeO.ite ?_ ?_
      | refine LeO.bind ?_ (fun _ => ?_)
theorem puncheonref05_Some.mono : ∀ a0 k, LeO (puncheonref05_Some.f k a0) (puncheonref05_Some.f (k + 1) a0) := by
  intro a0 k
  have ih0 := puncheonref05_Some.mono_l k
  unfold puncheonref05_Some.f
  repeat' first
      | (with_reducible exact ih0 _ _ _)
      | (with_reducible exact LeO.refl _)
      | (with_reducible exact LeO.none _)
      | (with_reducible refine LeO.ite ?_ ?_)
      | (with_reducible refine LeO.bind ?_ (fun _ => ?_))
      | exact ih0 _ _ _
      | exact LeO.none _
      | refine LeO.ite ?_ ?_
      | refine LeO.bind ?_ (fun _ => ?_)
def puncheonref05_Some.T5 : Bool × List (List Nat × List Nat) := (true, [([], []), ([], []), ([], []), ([1, 2], [1, 2]), ([3], [3]), ([4], [4]), ([], []), ([], []), ([7], [7]), ([6, 8], [6, 8]), ([9], [9]), ([10], [10]), ([0, 5, 0, 1, 2, 3, 4, 5, 6, 7, 8, 9, 10, 11], [0, 5]), ([12, 11, 0, 1, 2, 3, 4, 5, 6, 7, 8, 9, 10, 11], [11, 12])])
def puncheonref05_Some.B5 : List Nat := [0, 0, 0, 6, 14, 30, 0, 0, 128, 448, 960, 1984, 4095, 8191]
theorem puncheonref05_Some.tab5 : rtab .any (opsOf Try.f16 5) = puncheonref05_Some.T5 := by kernel_rfl
theorem puncheonref05_Some.bits5 : waitsOk puncheonref05_Some.T5.2 puncheonref05_Some.B5 = true := by kernel_rfl
set_option maxHeartbeats 8000000 in
set_option maxRecDepth 100000 in
theorem puncheonref05_Some.calls (k : Nat) (A0 : Option Addr) (c0 : Nat) (l0 : List Int) (r : List Int) (w : World) (hr0 : Kd.C (Kd.int .u16) w A0 l0.length l0) (hc0 : l0.length ≤ c0) (h : puncheonref05_Some.f k l0 = some r) :
    Calls Try.prog 16 #[.slice A0 l0.length c0] w fun e w' => ∃ v0_ : Value, e = .returned (v0_) ∧ Kd.R (Kd.int .i64) 3 w' w.heap.size (fun _ => True) v0_ r ∧ Below w.heap.size w w' := by
  have HR0 := Aside0.mk hr0
  have HC0 := Aside0.mk hc0
  clear hr0 hc0
  have HB := Aside0.mk (Below.refl w.heap.size w)
  have H : (if 256 ≤ 35184372088832 then (puncheonref05_Some.l0 k l0 (List.replicate 256 0) 0) else (none)) = some r := h
  clear h
  by_cases c2 : 256 ≤ 35184372088832
  · rw [if_pos c2] at H
    have c2b0 := eq_true c2
    have c2b1 : decide (256 ≤ 35184372088832) = true := decide_eq_true c2
    clear c2
    obtain ⟨y153, hy153⟩ : ∃ y_ : List Int, y_ = (List.replicate 256 0) := ⟨_, rfl⟩
    replace H : (puncheonref05_Some.l0 k l0 y153 0) = some r := by first | (rw [hy153]; with_reducible exact H) | (have H2_ := (Option.bind_some _ _).symm.trans H; rw [hy153]; with_reducible exact H2_) | (have H2_ := (Option.bind_some _ _).symm.trans H; with_reducible exact H2_) | with_reducible exact H | (rw [hy153]; exact H) | exact H
    have Ny153 := Aside0.mk hy153
    clear hy153
    have H' := Aside0.mk H
    clear H
    go_enter Try.func16, Try.ntmps16
    go_wp2_with (first | ((with_reducible refine gate_dst (N := 5) rfl ?_); refine Kd.R_make (Kd.int .i64) _ 3 rfl (N := 5) rfl 22 _ _ rfl 256 rfl rfl Try.underlying22 (.int .i64 0) 8 info3 rfl (by decide) (by omega) 0 (ok := fun _ => True) (okp := fun _ => True) rfl (fun _ hk => hk) trivial (by omega) (by omega) (Below.refl _ _) (Nat.le_refl _) ?_; intro v154 w3 ho4 hb hg_ hnew_; clear hg_ hnew_; (first | rw [← Ny153.out] at ho4 | (simp only [Int.reduceToNat] at ho4; rw [← Ny153.out] at ho4)); have n0_ := Aside0.mk (Kd.R_lower ho4 (below_size (by repeat (first | (with_reducible first | exact HB.out | apply below_alloc | apply pw_below_drewN | apply below_drew1) | exact HB.out)))); have n1_ := Aside0.mk (below_step (by repeat (first | (with_reducible first | exact HB.out | apply below_alloc | apply pw_below_drewN | apply below_drew1) | exact HB.out)) hb); clear HB; have HO155 := n0_; have HB := n1_; clear n0_ n1_; clear hb ho4))
    go_loopg [4] k (fun kq v4 w' => ∃ (x3_1 : List Int) (x4_1 : Int), v4 = .int .i64 x4_1 ∧ Aside0 (puncheonref05_Some.l0 kq l0 x3_1 x4_1 = some r) ∧ Aside0 (kq ≤ k) ∧ Aside0 (Kd.R (Kd.int .i64) 3 w' w.heap.size (fun _ => True) v154 x3_1) ∧ Aside0 (Below w.heap.size w w'))
    case atStart => exact ⟨(y153), (0), (by first | rfl | (simp; done) | (simp [*]; done)), H', ⟨Nat.le_refl _⟩, ⟨by (with_reducible repeat (first | apply Kd.R_alloc | apply Kd.R_drewN | apply Kd.R_drew)); exact HO155.out⟩, ⟨by repeat (first | (with_reducible first | exact HB.out | apply below_alloc | apply pw_below_drewN | apply below_drew1) | exact HB.out)⟩⟩
    case round =>
      clear H'
      try clear c1
      try clear c2
      try clear c2b0
      try clear c2b1
      try clear p2
      obtain ⟨x3_1, x4_1, rfl, HA, HK1, HO_3, HB⟩ := hrel
      cases gk with
      | zero => exact absurd HA.out (by simp [puncheonref05_Some.l0])
      | succ k1 =>
        have H := HA.out
        clear HA
        simp only [puncheonref05_Some.l0] at H
        by_cases c5 : (wrap64 (x4_1 + 1)) < (l0.length : Int)
        · rw [if_pos c5] at H
          have c5b0 : decide ((wrap64 (x4_1 + 1)) < (l0.length : Int)) = true := decide_eq_true c5
          clear c5
          by_cases c6 : x4_1 < 80
          · rw [if_pos c6] at H
            have c6b0 : decide (x4_1 < 80) = true := decide_eq_true c6
            clear c6
            by_cases c7 : 0 ≤ x4_1
            · rw [if_pos c7] at H
              have c7b0 : decide (0 ≤ x4_1) = true := decide_eq_true c7
              clear c7
              by_cases c8 : x4_1 < (l0.length : Int)
              · rw [if_pos c8] at H
                have c8b0 : decide (x4_1 < (l0.length : Int)) = true := decide_eq_true c8
                clear c8
                obtain ⟨ji9, hji9⟩ : ∃ j_ : Int, (wrap64 (x4_1 + 1)) = j_ := ⟨_, rfl⟩
                replace H : (if 0 ≤ (ji9) then (if 0 ≤ (Int.tmod (rd l0 x4_1) 256) then (if (Int.tmod (rd l0 x4_1) 256) < (x3_1.length : Int) then (puncheonref05_Some.l0 k1 l0 (x3_1.set ((Int.tmod (rd l0 x4_1) 256) : Int).toNat (wrap64 (rd l0 (ji9)))) (wrap64 (x4_1 + 2))) else (none)) else (none)) else (none)) = some r := by first | (rw [hji9] at H; exact H) | (simp only [hji9] at H ⊢; exact H)
                (try rw [hji9] at c5b0)
                have hji9w : (IntKind.i64.wrap (x4_1 + 1)) = ji9 := (i64_w _).trans hji9
                by_cases c10 : 0 ≤ (ji9)
                · rw [if_pos c10] at H
                  have c10b0 : decide (0 ≤ (ji9)) = true := decide_eq_true c10
                  clear c10
                  obtain ⟨ji11, hji11⟩ : ∃ j_ : Int, (Int.tmod (rd l0 x4_1) 256) = j_ := ⟨_, rfl⟩
                  replace H : (if 0 ≤ (ji11) then (if (ji11) < (x3_1.length : Int) then (puncheonref05_Some.l0 k1 l0 (x3_1.set ((ji11) : Int).toNat (wrap64 (rd l0 (ji9)))) (wrap64 (x4_1 + 2))) else (none)) else (none)) = some r := by first | (rw [hji11] at H; exact H) | (simp only [hji11] at H ⊢; exact H)
                  by_cases c12 : 0 ≤ (ji11)
                  · rw [if_pos c12] at H
                    have c12b0 : decide (0 ≤ (ji11)) = true := decide_eq_true c12
                    clear c12
                    by_cases c13 : (ji11) < (x3_1.length : Int)
                    · rw [if_pos c13] at H
                      have c13b0 : decide ((ji11) < (x3_1.length : Int)) = true := decide_eq_true c13
                      clear c13
                      obtain ⟨y158, hy158⟩ : ∃ y_ : List Int, y_ = (x3_1.set ((ji11) : Int).toNat (wrap64 (rd l0 (ji9)))) := ⟨_, rfl⟩
                      replace H : (puncheonref05_Some.l0 k1 l0 y158 (wrap64 (x4_1 + 2))) = some r := by first | (rw [hy158]; with_reducible exact H) | (have H2_ := (Option.bind_some _ _).symm.trans H; rw [hy158]; with_reducible exact H2_) | (have H2_ := (Option.bind_some _ _).symm.trans H; with_reducible exact H2_) | with_reducible exact H | (rw [hy158]; exact H) | exact H
                      have Ny158 := Aside0.mk hy158
                      clear hy158
                      have H' := Aside0.mk H
                      clear H
                      try go_wp2
                      have n0_ := Aside0.mk (Kd.R_drew HO_3.out)
                      have n1_ := Aside0.mk (below_drew1 HB.out)
                      clear HO_3
                      clear HB
                      have HO_3 := n0_
                      have HB := n1_
                      clear n0_ n1_
                      have p156 : 0 ≤ (x4_1 : Int) := of_decide_eq_true (by first | (with_reducible assumption) | assumption)
                      have q156 : x4_1 < (l0.length : Int) := of_decide_eq_true (by first | (with_reducible assumption) | assumption)
                      obtain ⟨ad156, e156, hx156_0⟩ := Kd.at_int HR0.out x4_1 p156 q156
                      have hw156_0 := hx156_0
                      cases e156
                      replace hx156_0 := (HB.out.cell (World.block_lt_of_cell? w _ hx156_0)).trans hx156_0
                      replace p156 := eq_true p156
                      replace q156 := eq_true q156
                      have p157 : 0 ≤ ((ji9) : Int) := of_decide_eq_true (by first | (with_reducible assumption) | assumption)
                      have q157 : (ji9) < (l0.length : Int) := of_decide_eq_true (by first | (with_reducible assumption) | assumption)
                      obtain ⟨ad157, e157, hx157_0⟩ := Kd.at_int HR0.out (ji9) p157 q157
                      have hw157_0 := hx157_0
                      obtain rfl : ad156 = ad157 := (by injection e157)
                      replace hx157_0 := (HB.out.cell (World.block_lt_of_cell? w _ hx157_0)).trans hx157_0
                      replace p157 := eq_true p157
                      replace q157 := eq_true q157
                      have p14 : 0 ≤ ((ji11) : Int) := of_decide_eq_true (by first | (with_reducible assumption) | assumption)
                      have q14 : ((ji11) : Int) < ((x3_1.length : Int) : Int) := of_decide_eq_true (by first | (with_reducible assumption) | assumption)
                      obtain ⟨go14, co14, eo14, gb14, gl14, cl14, HG14⟩ := Kd.R_form HO_3.out (by omega)
                      (first | cases eo14 | (injection eo14 with ea_ en_ ec_; (first | subst ea_ | (injection ea_ with ea_; subst ea_)); subst ec_; clear en_))
                      have GB14 := Aside0.mk gb14
                      have GG14 := Aside0.mk HG14
                      clear gb14 gl14 HG14
                      obtain ⟨hx14_0, hf14_0⟩ := Kd.R_celln 0 HO_3.out ((ji11) : Int) p14 q14
                      replace p14 := eq_true p14
                      replace q14 := eq_true q14
                      have HP16 := Kd.R_putn HO_3.out ((ji11) : Int) (wrap64 (rd l0 (ji9)))
                      rw [← Ny158.out] at HP16
                      have HQ16 := Aside0.mk HP16
                      clear HP16
                      refine start_ (n := 14) (S := fun w' => w'.cell? (ad156.add (x4_1).toNat) = some (.int .u16 (rd l0 x4_1)) ∧ w'.cell? (ad156.add ((ji9)).toNat) = some (.int .u16 (rd l0 (ji9)))) (ds := [13]) #[false, false, false, false, false, false, false, false, false, false, false, false, false, false] (by kernel_rfl) rfl rfl ⟨((HB.out.cell (World.block_lt_of_cell? w _ hw156_0)).trans hw156_0), ((HB.out.cell (World.block_lt_of_cell? w _ hw157_0)).trans hw157_0)⟩ (fun hHeld => ?_); refine with_tabW puncheonref05_Some.tab5 puncheonref05_Some.bits5 (fun HT_ HW_ => ?_)
                      generalize wr.drew = w15 at HO_3 HB GG14 HQ16 hf14_0 hx14_0 hx156_0 hx157_0 hHeld ⊢
                      refine pure_ (i := 0) (N := some 17) (v := ?_) (a' := ?_) #[true, false, false, false, false, false, false, false, false, false, false, false, false, false] rfl rfl (any_of HT_.out (by kernel_rfl)) (fun _ _ _ h => h) (Or.inl ⟨by rfl, ?_⟩) ?_ ?_
                      rotate_left
                      · intro w'
                        go_simp
                        with_reducible rfl
                      rotate_left
                      · simp only [Act.put, List.setIfInBounds_toArray, List.set_cons_zero, List.set_cons_succ, i64_w, i32_w]
                        rfl
                      refine pure_ (i := 1) (N := some 18) (v := ?_) (a' := ?_) #[true, true, false, false, false, false, false, false, false, false, false, false, false, false] rfl rfl (any_of HT_.out (by kernel_rfl)) (fun _ _ _ h => h) (Or.inl ⟨by rfl, ?_⟩) ?_ ?_
                      rotate_left
                      · intro w'
                        go_simp
                        with_reducible rfl
                      rotate_left
                      · simp only [Act.put, List.setIfInBounds_toArray, List.set_cons_zero, List.set_cons_succ, i64_w, i32_w]
                        rfl
                      refine pure_ (i := 2) (N := some 19) (v := ?_) (a' := ?_) #[true, true, true, false, false, false, false, false, false, false, false, false, false, false] rfl rfl (any_of HT_.out (by kernel_rfl)) (fun _ _ _ h => h) (Or.inl ⟨by rfl, ?_⟩) ?_ ?_
                      rotate_left
                      · intro w'
                        go_simp
                        with_reducible rfl
                      rotate_left
                      · simp only [Act.put, List.setIfInBounds_toArray, List.set_cons_zero, List.set_cons_succ, i64_w, i32_w]
                        rfl
                      refine pure_ (i := 3) (N := some 20) (v := ?_) (a' := ?_) #[true, true, true, true, false, false, false, false, false, false, false, false, false, false] rfl rfl (any_of HT_.out (by kernel_rfl)) (fun _ _ _ h => h) (Or.inl ⟨by rfl, ?_⟩) ?_ ?_
                      rotate_left
                      · intro w'
                        go_simp
                        with_reducible rfl
                      rotate_left
                      · simp only [Act.put, List.setIfInBounds_toArray, List.set_cons_zero, List.set_cons_succ, i64_w, i32_w]
                        rfl
                      refine pure_ (i := 6) (N := some 23) (v := ?_) (a' := ?_) #[true, true, true, true, false, false, true, false, false, false, false, false, false, false] rfl rfl (any_of HT_.out (by kernel_rfl)) (fun _ _ _ h => h) (Or.inl ⟨by rfl, ?_⟩) ?_ ?_
                      rotate_left
                      · intro w'
                        go_simp
                        with_reducible rfl
                      rotate_left
                      · simp only [Act.put, List.setIfInBounds_toArray, List.set_cons_zero, List.set_cons_succ, i64_w, i32_w]
                        rfl
                      refine pure_ (i := 7) (N := some 24) (v := ?_) (a' := ?_) #[true, true, true, true, false, false, true, true, false, false, false, false, false, false] rfl rfl (any_of HT_.out (by kernel_rfl)) (fun _ _ _ h => h) (Or.inl ⟨by rfl, ?_⟩) ?_ ?_
                      rotate_left
                      · intro w'
                        go_simp
                        with_reducible rfl
                      rotate_left
                      · simp only [Act.put, List.setIfInBounds_toArray, List.set_cons_zero, List.set_cons_succ, i64_w, i32_w]
                        rfl
                      refine pure_ (i := 8) (N := some 25) (v := ?_) (a' := ?_) #[true, true, true, true, false, false, true, true, true, false, false, false, false, false] rfl rfl (any_of HT_.out (by kernel_rfl)) (fun _ _ _ h => h) (Or.inl ⟨by rfl, ?_⟩) ?_ ?_
                      rotate_left
                      · intro w'
                        go_simp
                        with_reducible rfl
                      rotate_left
                      · simp only [Act.put, List.setIfInBounds_toArray, List.set_cons_zero, List.set_cons_succ, i64_w, i32_w]
                        rfl
                      refine pure_ (i := 9) (N := some 26) (v := ?_) (a' := ?_) #[true, true, true, true, false, false, true, true, true, true, false, false, false, false] rfl rfl (any_of HT_.out (by kernel_rfl)) (fun _ _ _ h => h) (Or.inl ⟨by rfl, ?_⟩) ?_ ?_
                      rotate_left
                      · intro w'
                        go_simp
                        with_reducible rfl
                      rotate_left
                      · simp only [Act.put, List.setIfInBounds_toArray, List.set_cons_zero, List.set_cons_succ, i64_w, i32_w]
                        rfl
                      refine take_ (i := 4) (N := some 21) (v := ?_) (a' := ?_) #[true, true, true, true, true, false, true, true, true, true, false, false, false, false] rfl rfl (take_ofW HT_.out HW_.out (by kernel_rfl)) (fun _ _ _ h => h) (Or.inl ⟨by rfl, ?_⟩) hHeld ?_ ?_
                      rotate_left
                      · rintro w' ⟨s0, s1⟩
                        go_simp
                        with_reducible rfl
                      rotate_left
                      · simp only [Act.put, List.setIfInBounds_toArray, List.set_cons_zero, List.set_cons_succ, i64_w, i32_w]
                        rfl
                      refine pure_ (i := 5) (N := some 22) (v := ?_) (a' := ?_) #[true, true, true, true, true, true, true, true, true, true, false, false, false, false] rfl rfl (any_of HT_.out (by kernel_rfl)) (fun _ _ _ h => h) (Or.inl ⟨by rfl, ?_⟩) ?_ ?_
                      rotate_left
                      · intro w'
                        go_simp
                        with_reducible rfl
                      rotate_left
                      · simp only [Act.put, List.setIfInBounds_toArray, List.set_cons_zero, List.set_cons_succ, i64_w, i32_w]
                        rfl
                      refine take_ (i := 10) (N := some 27) (v := ?_) (a' := ?_) #[true, true, true, true, true, true, true, true, true, true, true, false, false, false] rfl rfl (take_ofW HT_.out HW_.out (by kernel_rfl)) (fun _ _ _ h => h) (Or.inl ⟨by rfl, ?_⟩) hHeld ?_ ?_
                      rotate_left
                      · rintro w' ⟨s0, s1⟩
                        go_simp
                        with_reducible rfl
                      rotate_left
                      · simp only [Act.put, List.setIfInBounds_toArray, List.set_cons_zero, List.set_cons_succ, i64_w, i32_w]
                        rfl
                      refine pure_ (i := 11) (N := some 28) (v := ?_) (a' := ?_) #[true, true, true, true, true, true, true, true, true, true, true, true, false, false] rfl rfl (any_of HT_.out (by kernel_rfl)) (fun _ _ _ h => h) (Or.inl ⟨by rfl, ?_⟩) ?_ ?_
                      rotate_left
                      · intro w'
                        go_simp
                        with_reducible rfl
                      rotate_left
                      · simp only [Act.put, List.setIfInBounds_toArray, List.set_cons_zero, List.set_cons_succ, i64_w, i32_w]
                        rfl
                      refine pure_ (i := 12) (N := some 29) (v := ?_) (a' := ?_) #[true, true, true, true, true, true, true, true, true, true, true, true, true, false] rfl rfl (any_of HT_.out (by kernel_rfl)) (fun _ _ _ h => h) (Or.inl ⟨by rfl, ?_⟩) ?_ ?_
                      rotate_left
                      · intro w'
                        go_simp
                        with_reducible rfl
                      rotate_left
                      · simp only [Act.put, List.setIfInBounds_toArray, List.set_cons_zero, List.set_cons_succ, i64_w, i32_w]
                        rfl
                      refine last_ (i := 13) (N := none) #[true, true, true, true, true, true, true, true, true, true, true, true, true, true] rfl rfl (one_of HT_.out (by kernel_rfl)) (by decide) (fun K hK => ?_)
                      refine skip_ (w1 := ?_) (by rfl) rfl ?_ ?_
                      rotate_left
                      · go_simp
                        rfl
                      refine hK.out _ _ ?_
                      clear hK K
                      refine done_ (done_of HT_.out (by kernel_rfl)) ?_
                      try go_wp2
                      subst hji11; subst hji9
                      go_roundg k1
                      case measure => have := HK1.out; omega
                      case rel => exact ⟨(y158), (wrap64 (x4_1 + 2)), (by first | rfl | (simp; done) | (simp [*]; done)), H', ⟨by have := HK1.out; omega⟩, ⟨by (with_reducible repeat (first | apply Kd.R_alloc | apply Kd.R_drewN | apply Kd.R_drew)); exact HQ16.out⟩, ⟨by repeat (first | (with_reducible first | exact HB.out | apply below_alloc | apply pw_below_drewN | apply below_drew1 | refine below_set ?_ GB14.out) | exact HB.out)⟩⟩
                    · rw [if_neg c13] at H
                      exact absurd H (by simp)
                  · rw [if_neg c12] at H
                    exact absurd H (by simp)
                · rw [if_neg c10] at H
                  exact absurd H (by simp)
              · rw [if_neg c8] at H
                exact absurd H (by simp)
            · rw [if_neg c7] at H
              exact absurd H (by simp)
          · rw [if_neg c6] at H
            have c6b0 : decide (x4_1 < 80) = false := decide_eq_false c6
            clear c6
            obtain rfl := Option.some.inj H
            go_wp2
            go_ret
            exact ⟨_, by first | rfl | (simp [errW_none, errW_some] <;> rfl) | (simp [*, errW_none, errW_some] <;> rfl), by (with_reducible repeat (first | apply Kd.R_alloc | apply Kd.R_drewN | apply Kd.R_drew)); exact HO_3.out, by repeat (first | (with_reducible first | exact HB.out | apply below_alloc | apply pw_below_drewN | apply below_drew1) | exact HB.out)⟩
        · rw [if_neg c5] at H
          have c5b0 : decide ((wrap64 (x4_1 + 1)) < (l0.length : Int)) = false := decide_eq_false c5
          clear c5
          obtain rfl := Option.some.inj H
          go_wp2
          go_ret
          exact ⟨_, by first | rfl | (simp [errW_none, errW_some] <;> rfl) | (simp [*, errW_none, errW_some] <;> rfl), by (with_reducible repeat (first | apply Kd.R_alloc | apply Kd.R_drewN | apply Kd.R_drew)); exact HO_3.out, by repeat (first | (with_reducible first | exact HB.out | apply below_alloc | apply pw_below_drewN | apply below_drew1) | exact HB.out)⟩
  · rw [if_neg c2] at H
    exact absurd H (by simp)

end Go.Proofs.Ytlcpcnachdbboaa.PPr
